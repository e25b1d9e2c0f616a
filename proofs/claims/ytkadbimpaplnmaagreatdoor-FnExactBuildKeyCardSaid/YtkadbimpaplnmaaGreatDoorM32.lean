/- Walks by the Den rules; The shelf's laying of strconv.Itoa at this dump. No condition but sizes. -/
import Derived.Test.YtkadbimpaplnmaaGreatDoorM16
import Derived.Test.YtkadbimpaplnmaaGreatDoorM17
import Derived.Test.YtkadbimpaplnmaaGreatDoorM20
import Derived.Test.YtkadbimpaplnmaaGreatDoorM21
import Derived.Test.YtkadbimpaplnmaaGreatDoorM24
import Derived.Test.YtkadbimpaplnmaaGreatDoorM31
import Derived.Shelf.Strconv.Itoa3
namespace Go.Proofs.YtkadbimpaplnmaaGreatDoor
open Go.RowKit Go.Shelf
set_option maxRecDepth 10000
set_option linter.unusedSimpArgs false
set_option maxHeartbeats 4000000
mutual
theorem szX_pos : ∀ x : TExpr, 0 < szX x
 | ⟨_, _, _, _, _, _, _⟩ => by simp only [szX]; omega
theorem szXs_len : ∀ l : List TExpr, l.length ≤ szXs l
 | [] => by simp
 | x :: l => by have := szX_pos x; have := szXs_len l; simp only [szXs, List.length_cons]; omega
end
theorem noS_ie (s : ByteArray) : noS s = s.toList.isEmpty := by unfold noS; cases s.toList <;> rfl
theorem nm_noS {s : ByteArray} (h : noS s = true) : isNm s = false := by
 unfold noS at h
 have h3 : s.toList = [] := by simpa using h
 have h4 := tl_len s
 rw [h3] at h4
 have h5 : s.size = 0 := by simpa using h4.symm
 unfold isNm within
 simp [h5]
theorem tV_zero {x : TType} (h : zeroT x = true) : tValid x = false := by
 unfold zeroT at h
 simp at h
 cases x with
 | mk k n l =>
  simp only at h
  obtain ⟨⟨h1, -⟩, -⟩ := h
  subst h1
  unfold tValid
  simp [tForm, hdOk]
theorem iF0_exH {x : TExpr} (h : x.fArgs.length ≤ 300) : iF0 x = exH x := by
 by_cases hr : 1 ≤ x.fKind ∧ x.fKind ≤ 12
 ·have ht := @nm_noS x.fTrait
  have hn := @nm_noS x.fName
  have hy := @tV_zero x.fType
  have hnl : x.fArgs = [] ↔ x.fArgs.length = 0 := List.length_eq_zero_iff.symm
  have hk : x.fKind = 1 ∨ x.fKind = 2 ∨ x.fKind = 3 ∨ x.fKind = 4 ∨ x.fKind = 5 ∨ x.fKind = 6 ∨ x.fKind = 7 ∨ x.fKind = 8 ∨ x.fKind = 9 ∨ x.fKind = 10 ∨ x.fKind = 11 ∨ x.fKind = 12 := by omega
  generalize hq1 : noS x.fTrait = q1 at *
  generalize hq2 : isNm x.fTrait = q2 at *
  generalize hq3 : noS x.fName = q3 at *
  generalize hq4 : isNm x.fName = q4 at *
  generalize hq5 : zeroT x.fType = q5 at *
  generalize hq6 : tValid x.fType = q6 at *
  generalize hq7 : hasS prims x.fName = q7 at *
  rcases hk with e | e | e | e | e | e | e | e | e | e | e | e <;> simp only [iF0, if1, ifT, ifN, ifI, ifY, exH, xf1, xf2, xf3, xf4, hasT, hasN, hasI, hasA, hasY, argN, acL, acH, within, hq1, hq2, hq3, hq4, hq5, hq6, hq7, e] <;> simp <;> grind
 ·have h1 : if1 x = false := by unfold if1 within; simp; omega
  have h2 : xf1 x = false := by unfold xf1 within; simp; omega
  unfold iF0 exH; rw [h1, h2]; simp
mutual
theorem iF_exF : ∀ x : TExpr, szX x ≤ 300 → iF x = exF x
 | ⟨k, t, n, i, y, al, rl⟩, h => by
  simp only [szX] at h
  have h1 := szXs_len al
  have h2 := iFs_exF al (by omega)
  have h3 := iFr_exF rl (by omega)
  have h4 := iF0_exH (x := ⟨k, t, n, i, y, al, rl⟩) (by show al.length ≤ 300; omega)
  simp only [iF, exF, h2, h3, h4]
theorem iFs_exF : ∀ l : List TExpr, szXs l ≤ 300 → iFs l = exFs l
 | [], _ => by simp only [iFs, exFs]
 | x :: l, h => by
  simp only [szXs] at h
  simp only [iFs, exFs, iF_exF x (by omega), iFs_exF l (by omega)]
theorem iFa_exF : ∀ x : TArm, szXa x ≤ 300 → iFa x = exFa x
 | ⟨c, vs, b⟩, h => by
  simp only [szXa] at h
  simp only [iFa, exFa, iF_exF b h]
  cases isNm c <;> cases dst vs <;> cases nms vs <;> rfl
theorem iFr_exF : ∀ l : List TArm, szXr l ≤ 300 → iFr l = exFr l
 | [], _ => by simp only [iFr, exFr]
 | x :: l, h => by
  simp only [szXr] at h
  simp only [iFr, exFr, iFa_exF x (by omega), iFr_exF l (by omega)]
end
theorem exV_iF (x : TExpr) : exV x = (decide (szX x ≤ 300) && iF x) := by
 unfold exV
 by_cases h : szX x ≤ 300
 ·rw [iF_exF x h]
 ·simp [h]
theorem iSzX_a (x : TExpr) (hz : x.sz ≤ 134217728) (hc : ∀ y ∈ x.fArgs, ∀ h, CS cx.P 260 [.d (y.dd false)] h (.d (.lf (.int .i64 ((szX y : Nat) : Int)))) h) (hc2 : ∀ a ∈ x.fArms, ∀ h, CS cx.P 260 [.d (a.fBody.dd false)] h (.d (.lf (.int .i64 ((szX a.fBody : Nat) : Int)))) h) (h : HP) : CS cx.P 260 [.d (x.dd false)] h (.d (.lf (.int .i64 ((szX x : Nat) : Int)))) h := by
 have hz2 := x.sz_eq; unfold szs at hz2
 have hsx := szX_le x
 have hx0 := xr_le x 0
 refine Ze Tryz.func260 rfl 34 ?_
 apply Zr; intros
 iterate 2 (refine Zo ?_; simp)
 exact Zx
 apply Zr; intros
 refine Zo ?_; simp
 exact Zx
 refine W.seq ?_
 apply Zr; intros
 iterate 4 (refine Zo ?_; simp)
 exact Zx
 refine W.block ?_
 refine W.loopk [1, 9, 10] [1] (fun k0 => [(11, .d (.lf (.int .i64 (k0 : Int)))), (3, .d (.lf (.int .i64 ((xk x k0 : Nat) : Int))))]) (fun _ => []) x.fArgs.length rfl (by simp [xk_zero]) fun k0 hk0 T hT => ?_
 simp at hT; subst hT
 apply Zr; intros
 refine Zo ?_; simp
 exact Zx
 refine Zv rfl ?_ ?_ <;> intro hb0 <;> try simp at hb0
 have hx := ixNext hb0 (by omega)
 have h3 := xk_nx hb0
 have h4 := xk_le x (k0 + 1)
 have hw : IntKind.i64.wrap ((xk x k0 : Int) + (szX x.fArgs[k0] : Int)) = (xk x (k0 + 1) : Int) := by rw [i64w (by omega) (by omega)]; omega
 refine W.skip ?_
 refine Zb ?_
 apply Zr; intros
 refine Zo ?_ (by simp [hb0, hx, hw] <;> omega); simp [hb0, hx, hw]
 refine Zm [14] ?_ (by simp [hb0, hx, hw] <;> omega); simp [hb0, hx, hw]
 iterate 2 (refine Zo ?_ (by simp [hb0, hx, hw] <;> omega); simp [hb0, hx, hw])
 exact Zx
 apply Zs; intros
 iterate 2 (refine Zo ?_ (by simp [hb0, hx, hw] <;> omega); simp [hb0, hx, hw])
 refine Zl [] rfl Tryz.func260 (hc x.fArgs[k0] (gm hb0) _) ?_ (by simp [hb0, hx, hw]); simp [hb0, hx, hw]
 iterate 2 (refine Zo ?_ (by simp [hb0, hx, hw] <;> omega); simp [hb0, hx, hw])
 exact Zx
 apply Zs; intros
 iterate 2 (refine Zo ?_ (by simp [hb0, hx, hw] <;> omega); simp [hb0, hx, hw])
 exact Zx
 refine ⟨hb0, Wz.to rfl rfl rfl ?_⟩
 simp [hw]
 have hkl : k0 = x.fArgs.length := by omega
 subst hkl
 refine W.exit ?_
 refine W.seq ?_
 apply Zr; intros
 iterate 4 (refine Zo ?_; simp)
 exact Zx
 refine W.block ?_
 refine W.loopk [21, 22] [] (fun k1 => [(23, .d (.lf (.int .i64 (k1 : Int)))), (3, .d (.lf (.int .i64 ((xr x k1 : Nat) : Int))))]) (fun _ => []) x.fArms.length rfl (by simp [xr_zero]) fun k1 hk1 T hT => ?_
 simp at hT; subst hT
 apply Zr; intros
 refine Zo ?_; simp
 exact Zx
 refine Zv rfl ?_ ?_ <;> intro hb1 <;> try simp at hb1
 have hx := ixNext hb1 (by omega)
 have h3 := xr_nx hb1
 have h4 := xr_le x (k1 + 1)
 have hw : IntKind.i64.wrap ((xr x k1 : Int) + (szX x.fArms[k1].fBody : Int)) = (xr x (k1 + 1) : Int) := by rw [i64w (by omega) (by omega)]; omega
 refine W.skip ?_
 refine Zb ?_
 apply Zr; intros
 refine Zo ?_ (by simp [hb1, hx, hw] <;> omega); simp [hb1, hx, hw]
 refine Zm [26] ?_ (by simp [hb1, hx, hw] <;> omega); simp [hb1, hx, hw]
 iterate 2 (refine Zo ?_ (by simp [hb1, hx, hw] <;> omega); simp [hb1, hx, hw])
 exact Zx
 apply Zs; intros
 iterate 3 (refine Zo ?_ (by simp [hb1, hx, hw] <;> omega); simp [hb1, hx, hw])
 refine Zl [] rfl Tryz.func260 (hc2 x.fArms[k1] (gm hb1) _) ?_ (by simp [hb1, hx, hw]); simp [hb1, hx, hw]
 iterate 2 (refine Zo ?_ (by simp [hb1, hx, hw] <;> omega); simp [hb1, hx, hw])
 exact Zx
 apply Zs; intros
 iterate 2 (refine Zo ?_ (by simp [hb1, hx, hw] <;> omega); simp [hb1, hx, hw])
 exact Zx
 refine ⟨hb1, Wz.to rfl rfl rfl ?_⟩
 simp [hw]
 have hkl : k1 = x.fArms.length := by omega
 subst hkl
 have hres := xr_full x
 refine W.exit ?_
 apply Zr; intros
 iterate 2 (refine Zo ?_; simp)
 exact Zx
 refine W.ret (Zq ?_)
 simp [Tryz.f260, hres]
theorem iSzX_d (x : TExpr) (hz : x.sz ≤ 134217728) (h : HP) : CS cx.P 260 [.d (x.dd false)] h (.d (.lf (.int .i64 ((szX x : Nat) : Int)))) h := iSzX_a x hz (fun y hy h => iSzX_d y (by have h1 := szL_le TExpr.sz hy; have h2 := x.sz_eq; unfold szs at h2; omega) h) (fun a ha h => iSzX_d a.fBody (by have h1 := szL_le TArm.sz ha; have h2 := x.sz_eq; have h3 := a.sz_eq; unfold szs at h2; omega) h) h
termination_by SizeOf.sizeOf x
decreasing_by
 ·have := List.sizeOf_lt_of_mem hy; have := x.lt_fArgs; omega
 ·have := List.sizeOf_lt_of_mem ha; have := x.lt_fArms; have := a.lt_fBody; omega
def opsB : ByteArray := ⟨#[43, 45, 42, 60, 61]⟩
def ixO (n : Int) : Int := Lib.indexByte opsB.data.toList n.toNat.toUInt8
theorem ixO_all : ∀ k : Fin 256, (-1 ≤ ixO (k.val : Int) ∧ ixO (k.val : Int) < 5) ∧ decide (0 ≤ ixO (k.val : Int)) = hasS prims ⟨#[UInt8.ofNat k.val]⟩ := by decide +kernel
theorem prims_one {s : ByteArray} (h : hasS prims s = true) : s.size = 1 := by
 unfold hasS prims at h
 simp at h
 rcases h with h | h | h | h | h <;> subst h <;> rfl
theorem one_eq {s : ByteArray} (h : s.size = 1) : s = ⟨#[UInt8.ofNat (bt s 0)]⟩ := by
 cases s with
 | mk d =>
  have h1 : d.size = 1 := h
  have h2 : d = #[d[0]] := by
   refine Array.ext (by simp [h1]) fun i h3 h4 => ?_
   have : i = 0 := by omega
   subst this; simp
  have h3 : bt ⟨d⟩ 0 = d[0].toNat := by
   unfold bt
   simp [Array.getD_eq_getD_getElem?, Array.getElem?_eq_getElem (show 0 < d.size by omega)]
  rw [h3, UInt8.ofNat_toNat]
  exact congrArg ByteArray.mk h2
theorem ixO_prims {s : ByteArray} (h : s.size = 1) : decide (0 ≤ ixO ((bt s 0 : Nat) : Int)) = hasS prims s := by
 have := (ixO_all ⟨bt s 0, bt_lt s 0⟩).2
 rw [← one_eq h] at this
 exact this
theorem idxByteO_d (k : Fin 256) (h : HP) : CS cx.P 284 [.d (.lf (.string opsB)), .d (.lf (.int .u8 (k.val : Int)))] h (.d (.lf (.int .i64 (ixO (k.val : Int))))) h := by
 refine CS.ofVal (c := cx) (args := [.lf (.string opsB), .lf (.int .u8 (k.val : Int))]) (v := .int .i64 (ixO (k.val : Int))) (fun w F => ⟨?_, rfl⟩) (fun w vs ⟨F, _, _, hl, hv⟩ => ?_) h
 ·have := (ixO_all k).1
  simp only [rp, okLeaf, i64mn, i64mx]
  exact ⟨trivial, by omega, trivial⟩
 ·obtain ⟨c0, h0, e0⟩ := hv 0 _ rfl
  obtain ⟨c1, h1, e1⟩ := hv 1 _ rfl
  simp only [DD.vw, rp] at h0 h1
  obtain ⟨rfl, -⟩ := h0
  obtain ⟨rfl, -⟩ := h1
  match vs, hl, e0, e1 with
  | [a, b], _, e0, e1 =>
   simp [DD.mk] at e0 e1
   subst e0; subst e1
   refine (idxByte0 opsB (k.val : Int) w).mono fun e w' ⟨h1, h2⟩ => ⟨h1, ?_⟩
   subst h2; exact Below.refl _ _
theorem slIx_d (s : ByteArray) (hs : s.size = 1) (h : HP) : CS cx.P 295 [.d (.lf (.string opsB)), .d (.lf (.string s))] h (.d (.lf (.int .i64 (ixO ((bt s 0 : Nat) : Int))))) h := by
 refine Ze Tryz.func295 rfl 143 ?_
 apply Zr; intros
 refine Zo ?_; simp
 exact Zx
 apply Zr; intros
 iterate 3 (refine Zo ?_; simp)
 exact Zx
 refine Zb ?_
 refine W.seq ?_
 refine W.regJ0 (D := _) rfl fun _ K hD hK => ?_
 iterate 3 (refine Zo ?_; simp)
 refine WL.split 19 _ rfl (fun g19 => ?_) fun g19 => ?_ <;> try simp at g19
 simp
 iterate 3 (refine Zn hD rfl rfl ?_; simp)
 iterate 2 (refine Zo ?_; simp)
 refine WL.nil (hK _ ?_)
 refine W.condT rfl trivial ?_
 apply Zr; intros
 refine Zo ?_; simp
 exact Zx
 refine W.ret (Zq ?_)
 first | (exfalso; rw [g19] at hs; revert hs; decide) | simp [Tryz.f295]
 simp
 iterate 3 (refine Zg hD rfl rfl ?_; simp)
 iterate 2 (refine Zo ?_; simp)
 refine WL.nil (hK _ ?_)
 refine Zc rfl ?_ ?_ <;> intro hb0 <;> try simp at hb0
 exfalso
 subst hb0
 revert hs
 decide
 apply Zr; intros
 iterate 3 (refine Zo ?_; simp)
 exact Zx
 refine Zc rfl ?_ ?_ <;> intro hb1 <;> try simp at hb1
 apply Zr; intros
 iterate 3 (refine Zo ?_; simp)
 refine Zl [] rfl Tryz.func284 (idxByteO_d ⟨bt s 0, bt_lt s 0⟩ _) ?_; simp
 refine Zo ?_; simp
 exact Zx
 refine W.ret (Zq ?_)
 first | (exfalso; rw [g19] at hs; revert hs; decide) | simp [Tryz.f295]
 exfalso; omega
theorem strIx_d (s : ByteArray) (hs : s.size = 1) (h : HP) : CS cx.P 294 [.d (.lf (.string opsB)), .d (.lf (.string s))] h (.d (.lf (.int .i64 (ixO ((bt s 0 : Nat) : Int))))) h := by
 refine Ze Tryz.func294 rfl 8 ?_
 apply Zr; intros
 refine Zo ?_; simp
 exact Zx
 apply Zr; intros
 iterate 2 (refine Zo ?_; simp)
 refine Zl [] rfl Tryz.func295 (slIx_d s hs _) ?_; simp
 refine Zo ?_; simp
 exact Zx
 refine W.ret (Zq ?_)
 simp [Tryz.f294]
theorem ctn_d (s : ByteArray) (hs : s.size = 1) (h : HP) : CS cx.P 293 [.d (.lf (.string opsB)), .d (.lf (.string s))] h (.d (.lf (.bool (hasS prims s)))) h := by
 have hp := ixO_prims hs
 refine Ze Tryz.func293 rfl 9 ?_
 apply Zr; intros
 refine Zo ?_; simp
 exact Zx
 apply Zr; intros
 iterate 2 (refine Zo ?_; simp)
 refine Zl [] rfl Tryz.func294 (strIx_d s hs _) ?_; simp
 iterate 2 (refine Zo ?_; simp)
 exact Zx
 refine W.ret (Zq ?_)
 simp [Tryz.f293, hp]
theorem isOp_d (s : ByteArray) (_ : s.size ≤ 134217728) (h : HP) : CS cx.P 288 [.d (.lf (.string s))] h (.d (.lf (.bool (hasS prims s)))) h := by
 refine Ze Tryz.func288 rfl 10 ?_
 apply Zr; intros
 refine Zo ?_ (by simp [opsB] <;> omega); simp [opsB]
 exact Zx
 refine W.seq ?_
 refine W.regJ0 (D := _) rfl fun _ K hD hK => ?_
 iterate 4 (refine Zo ?_ (by simp [opsB] <;> omega); simp [opsB])
 refine WL.split 6 _ rfl (fun g6 => ?_) fun g6 => ?_ <;> try simp at g6
 simp [opsB]
 refine Zg hD rfl rfl ?_ (by simp [opsB] <;> omega); simp [opsB]
 refine Zk hD rfl rfl [] rfl Tryz.func293 (ctn_d s (by omega) _) ?_ (by simp [opsB]); simp [opsB]
 iterate 2 (refine Zo ?_ (by simp [opsB] <;> omega); simp [opsB])
 refine WL.nil (hK _ ?_)
 refine W.ret (Zq ?_)
 simp [Tryz.f288] <;> (try (have := prims_one (s := s); grind))
 simp [opsB]
 iterate 2 (refine Zn hD rfl rfl ?_; simp [opsB])
 iterate 2 (refine Zo ?_ (by simp [opsB] <;> omega); simp [opsB])
 refine WL.nil (hK _ ?_)
 refine W.ret (Zq ?_)
 simp [Tryz.f288] <;> (try (have := prims_one (s := s); grind))
theorem hasF_d (x : TExpr) (hz : x.sz ≤ 134217728) (h : HP) : CS cx.P 277 [.d (x.dd false)] h (.d (.lf (.bool (iF0 x)))) h := by
 have hz2 := x.sz_eq; unfold szs at hz2
 have hac := ac_rng x.fKind
 refine Ze Tryz.func277 rfl 131 ?_
 apply Zr; intros
 iterate 2 (refine Zo ?_; simp)
 exact Zx
 apply Zr; intros
 iterate 2 (refine Zo ?_; simp)
 refine Zl [] rfl Tryz.func287 (argc_d x.fKind _) ?_; simp
 iterate 5 (refine Zo ?_; simp)
 exact Zx
 refine W.seq ?_
 refine W.seq ?_
 refine W.regJ (D := _) [1] [1] [(35, .d (.lf (.bool (!if1 x))))] [] rfl (fun _ K hD hK => ?_) fun T hT => ?_
 iterate 4 (refine Zo ?_; simp)
 refine WL.split 17 _ rfl (fun g17 => ?_) fun g17 => ?_ <;> try simp at g17
 simp
 iterate 3 (refine Zn hD rfl rfl ?_; simp)
 iterate 2 (refine Zo ?_; simp)
 iterate 5 (refine Zn hD rfl rfl ?_; simp)
 iterate 2 (refine Zo ?_; simp)
 iterate 5 (refine Zn hD rfl rfl ?_; simp)
 refine Zo ?_; simp
 refine WL.nil (hK _ (Wz.to rfl rfl rfl ?_))
 simp [if1, within, g17] <;> first | omega | grind
 simp
 iterate 3 (refine Zg hD rfl rfl ?_; simp)
 iterate 2 (refine Zo ?_; simp)
 refine WL.split 22 _ rfl (fun g22 => ?_) fun g22 => ?_ <;> try simp at g22
 simp
 iterate 5 (refine Zn hD rfl rfl ?_; simp)
 iterate 2 (refine Zo ?_; simp)
 iterate 5 (refine Zn hD rfl rfl ?_; simp)
 refine Zo ?_; simp
 refine WL.nil (hK _ (Wz.to rfl rfl rfl ?_))
 simp [if1, within, g17, g22] <;> first | omega | grind
 simp
 iterate 5 (refine Zg hD rfl rfl ?_; simp)
 iterate 2 (refine Zo ?_; simp)
 refine WL.split 29 _ rfl (fun g29 => ?_) fun g29 => ?_ <;> try simp at g29
 simp
 iterate 5 (refine Zn hD rfl rfl ?_; simp)
 refine Zo ?_; simp
 refine WL.nil (hK _ (Wz.to rfl rfl rfl ?_))
 simp [if1, within, g17, g22, g29] <;> first | omega | grind
 simp
 iterate 5 (refine Zg hD rfl rfl ?_; simp)
 refine Zo ?_; simp
 refine WL.nil (hK _ (Wz.to rfl rfl rfl ?_))
 simp [if1, within, g17, g22, g29] <;> first | omega | grind
 simp at hT; subst hT
 refine Zc rfl ?_ ?_ <;> intro hb0 <;> try simp at hb0
 have hres : iF0 x = false := by unfold iF0; rw [show if1 x = false by simpa using hb0]; simp
 apply Zr; intros
 refine Zo ?_; simp
 exact Zx
 refine W.ret (Zq ?_)
 simp [Tryz.f277, hres] <;> grind
 have h1 : if1 x = true := by simpa using hb0
 refine W.skip ?_
 apply Yr rfl; intro K hK
 iterate 8 (refine Yo ?_; simp)
 exact DL.nil rfl hK
 refine W.seq ?_
 apply Zr; intros
 iterate 2 (refine Zo ?_; simp)
 exact Zx
 refine W.join [1] [1] [(5, .d (.lf (.bool (ifT x)))), (6, .d (.lf (.bool (ifN x))))] [] ?_ fun T hT => ?_
 refine W.block ?_
 refine W.seq ?_
 apply Zr; intros
 iterate 2 (refine Zo ?_; simp)
 exact Zx
 refine Zc rfl ?_ ?_ <;> intro hb1 <;> try simp at hb1
 refine W.skip ?_
 refine W.condT (by simp [hb1]) trivial ?_
 apply Zs; intros
 iterate 2 (refine Zo ?_; simp)
 refine Zl [] rfl Tryz.func101 (iName_d x.fName (by omega) _) ?_; simp
 refine Zo ?_; simp
 exact Zx
 refine Wz.to rfl rfl rfl ?_
 simp [ifT, ifN, noS_ie, hb0, hb1]
 apply Zr; intros
 iterate 2 (refine Zo ?_; simp)
 exact Zx
 refine Zc rfl ?_ ?_ <;> intro hb2 <;> try simp at hb2
 refine W.skip ?_
 refine W.condT (by simp [hb2]) trivial ?_
 apply Zs; intros
 iterate 2 (refine Zo ?_; simp)
 refine Zl [] rfl Tryz.func101 (iName_d x.fName (by omega) _) ?_; simp
 refine Zo ?_; simp
 exact Zx
 refine Wz.to rfl rfl rfl ?_
 simp [ifT, ifN, noS_ie, hb0, hb1, hb2]
 apply Zr; intros
 iterate 2 (refine Zo ?_; simp)
 exact Zx
 refine Zc rfl ?_ ?_ <;> intro hb3 <;> try simp at hb3
 refine W.skip ?_
 refine W.condT (by simp [hb3]) trivial ?_
 apply Zs; intros
 iterate 2 (refine Zo ?_; simp)
 refine Zl [] rfl Tryz.func101 (iName_d x.fName (by omega) _) ?_; simp
 refine Zo ?_; simp
 exact Zx
 refine Wz.to rfl rfl rfl ?_
 simp [ifT, ifN, noS_ie, hb0, hb1, hb2, hb3]
 apply Zs; intros
 iterate 2 (refine Zo ?_; simp)
 exact Zx
 refine Zc rfl ?_ ?_ <;> intro hb4 <;> try simp at hb4
 apply Zs; intros
 iterate 2 (refine Zo ?_; simp)
 refine Zl [] rfl Tryz.func101 (iName_d x.fName (by omega) _) ?_; simp
 refine Zo ?_; simp
 exact Zx
 refine Wz.to rfl rfl rfl ?_
 simp [ifT, ifN, noS_ie, hb0, hb1, hb2, hb3, hb4]
 apply Zr; intros
 iterate 2 (refine Zo ?_; simp)
 exact Zx
 refine Zc rfl ?_ ?_ <;> intro hb5 <;> try simp at hb5
 apply W.regSD rfl; intro K hK
 iterate 2 (refine Yo ?_; simp)
 refine Yl [] rfl Tryz.func101 (iName_d x.fTrait (by omega)) ?_; simp
 iterate 2 (refine Yo ?_; simp)
 refine Yl [] rfl Tryz.func101 (iName_d x.fName (by omega)) ?_; simp
 iterate 2 (refine Yo ?_; simp)
 exact DL.nil rfl hK
 refine Wz.to rfl rfl rfl ?_
 simp [ifT, ifN, noS_ie, hb0, hb1, hb2, hb3, hb4, hb5]
 apply Zr; intros
 iterate 2 (refine Zo ?_; simp)
 exact Zx
 refine Zc rfl ?_ ?_ <;> intro hb6 <;> try simp at hb6
 apply Zs; intros
 iterate 2 (refine Zo ?_; simp)
 refine Zl [] rfl Tryz.func288 (isOp_d x.fName (by omega) _) ?_; simp
 refine Zo ?_; simp
 exact Zx
 refine Wz.to rfl rfl rfl ?_
 simp [ifT, ifN, noS_ie, hb0, hb1, hb2, hb3, hb4, hb5, hb6]
 apply Zr; intros
 iterate 2 (refine Zo ?_; simp)
 exact Zx
 refine Zc rfl ?_ ?_ <;> intro hb7 <;> try simp at hb7
 apply Zs; intros
 iterate 2 (refine Zo ?_; simp)
 refine Zl [] rfl Tryz.func101 (iName_d x.fTrait (by omega) _) ?_; simp
 refine Zo ?_; simp
 exact Zx
 refine Wz.to rfl rfl rfl ?_
 simp [ifT, ifN, noS_ie, hb0, hb1, hb2, hb3, hb4, hb5, hb6, hb7]
 refine W.skip ?_
 refine Wz.to rfl rfl rfl ?_
 simp [ifT, ifN, noS_ie, hb0, hb1, hb2, hb3, hb4, hb5, hb6, hb7]
 simp at hT; subst hT
 apply Zr; intros
 iterate 4 (refine Zo ?_; simp)
 exact Zx
 refine W.seq ?_
 apply Zr; intros
 iterate 2 (refine Zo ?_; simp)
 exact Zx
 refine W.join [1, 5, 6] [1] [(7, .d (.lf (.bool (ifI x))))] [] ?_ fun T hT => ?_
 refine W.block ?_
 apply Zr; intros
 iterate 2 (refine Zo ?_; simp)
 exact Zx
 refine Zc rfl ?_ ?_ <;> intro hb8 <;> try simp at hb8
 refine W.regJ0 (D := _) rfl fun _ K hD hK => ?_
 iterate 4 (refine Zo ?_; simp)
 refine WL.split 80 _ rfl (fun g80 => ?_) fun g80 => ?_ <;> try simp at g80
 simp
 iterate 3 (refine Zg hD rfl rfl ?_; simp)
 iterate 2 (refine Zo ?_; simp)
 refine WL.nil (hK _ ?_)
 refine Wz.to rfl rfl rfl ?_
 simp [ifI, within, hb0, hb8, g80] <;> first | omega | grind
 simp
 iterate 3 (refine Zn hD rfl rfl ?_; simp)
 iterate 2 (refine Zo ?_; simp)
 refine WL.nil (hK _ ?_)
 refine Wz.to rfl rfl rfl ?_
 simp [ifI, within, hb0, hb8, g80] <;> first | omega | grind
 apply Zr; intros
 iterate 2 (refine Zo ?_; simp)
 exact Zx
 refine Zc rfl ?_ ?_ <;> intro hb9 <;> try simp at hb9
 refine W.regJ0 (D := _) rfl fun _ K hD hK => ?_
 iterate 4 (refine Zo ?_; simp)
 refine WL.split 90 _ rfl (fun g90 => ?_) fun g90 => ?_ <;> try simp at g90
 simp
 iterate 3 (refine Zn hD rfl rfl ?_; simp)
 iterate 2 (refine Zo ?_; simp)
 refine WL.nil (hK _ ?_)
 refine Wz.to rfl rfl rfl ?_
 simp [ifI, within, hb0, hb8, hb9, g90] <;> first | omega | grind
 simp
 iterate 3 (refine Zg hD rfl rfl ?_; simp)
 iterate 2 (refine Zo ?_; simp)
 refine WL.nil (hK _ ?_)
 refine Wz.to rfl rfl rfl ?_
 simp [ifI, within, hb0, hb8, hb9, g90] <;> first | omega | grind
 refine W.skip ?_
 refine Wz.to rfl rfl rfl ?_
 simp [ifI, within, hb0, hb8, hb9] <;> first | omega | grind
 simp at hT; subst hT
 refine W.seq ?_
 refine W.seq ?_
 refine W.regDJ (D := _) rfl [1, 5, 6, 7] [1] [(113, .d (.lf (.bool (ifY x))))] [] rfl (fun K hD hK => ?_) fun T hT => ?_
 iterate 5 (refine Yo ?_; simp)
 refine Yl [] rfl Tryz.func169 (iZeroT_d x.fType) ?_; simp
 iterate 3 (refine Yo ?_; simp)
 refine DL.split 103 _ rfl (fun g103 => ?_) fun g103 => ?_ <;> try simp at g103
 simp
 iterate 9 (refine Yn hD rfl rfl ?_; simp)
 refine Yo ?_; simp
 refine DL.nil rfl (hK _ (Wz.to rfl rfl rfl ?_))
 simp [ifY, g103] <;> grind
 simp
 iterate 4 (refine Yg hD rfl rfl ?_; simp)
 refine DL.split 107 _ rfl (fun g107 => ?_) fun g107 => ?_ <;> try simp at g107
 simp
 iterate 2 (refine Yg hD rfl rfl ?_; simp)
 refine Yk hD rfl rfl [] rfl Tryz.func219 (iValidT_d x.fType (by omega)) ?_; simp
 iterate 2 (refine Yg hD rfl rfl ?_; simp)
 refine Yo ?_; simp
 refine DL.nil rfl (hK _ (Wz.to rfl rfl rfl ?_))
 simp [ifY, g103, g107] <;> grind
 simp
 iterate 4 (refine Yn hD rfl rfl ?_; simp)
 refine Yg hD rfl rfl ?_; simp
 refine Yo ?_; simp
 refine DL.nil rfl (hK _ (Wz.to rfl rfl rfl ?_))
 simp [ifY, g103, g107] <;> grind
 simp at hT; subst hT
 refine Zc rfl ?_ ?_ <;> intro hb10 <;> try simp at hb10
 have hres : iF0 x = false := by unfold iF0; rw [show ifY x = true by simpa using hb10]; simp
 apply Zr; intros
 refine Zo ?_; simp
 exact Zx
 refine W.ret (Zq ?_)
 simp [Tryz.f277, hres] <;> grind
 have h2 : ifY x = false := by simpa using hb10
 have hres : iF0 x = (ifT x && ifN x && ifI x && (decide (x.fKind = 7) == decide (0 < x.fArms.length))) := by unfold iF0; rw [h1, h2]; simp
 refine W.skip ?_
 refine W.seq ?_
 refine W.regJ0 (D := _) rfl fun _ K hD hK => ?_
 iterate 2 (refine Zo ?_; simp)
 refine WL.split 115 _ rfl (fun g115 => ?_) fun g115 => ?_ <;> try simp at g115
 simp
 refine Zg hD rfl rfl ?_; simp
 iterate 2 (refine Zo ?_; simp)
 refine WL.split 118 _ rfl (fun g118 => ?_) fun g118 => ?_ <;> try simp at g118
 simp
 refine Zg hD rfl rfl ?_; simp
 iterate 2 (refine Zo ?_; simp)
 refine WL.split 121 _ rfl (fun g121 => ?_) fun g121 => ?_ <;> try simp at g121
 simp
 iterate 8 (refine Zg hD rfl rfl ?_; simp)
 iterate 2 (refine Zo ?_; simp)
 refine WL.nil (hK _ ?_)
 refine W.ret (Zq ?_)
 simp [Tryz.f277, hres, g115, g118, g121] <;> grind
 simp
 iterate 8 (refine Zn hD rfl rfl ?_; simp)
 iterate 2 (refine Zo ?_; simp)
 refine WL.nil (hK _ ?_)
 refine W.ret (Zq ?_)
 simp [Tryz.f277, hres, g115, g118, g121] <;> grind
 simp
 refine Zn hD rfl rfl ?_; simp
 iterate 2 (refine Zo ?_; simp)
 iterate 8 (refine Zn hD rfl rfl ?_; simp)
 iterate 2 (refine Zo ?_; simp)
 refine WL.nil (hK _ ?_)
 refine W.ret (Zq ?_)
 simp [Tryz.f277, hres, g115, g118] <;> grind
 simp
 refine Zn hD rfl rfl ?_; simp
 iterate 2 (refine Zo ?_; simp)
 refine Zn hD rfl rfl ?_; simp
 iterate 2 (refine Zo ?_; simp)
 iterate 8 (refine Zn hD rfl rfl ?_; simp)
 iterate 2 (refine Zo ?_; simp)
 refine WL.nil (hK _ ?_)
 refine W.ret (Zq ?_)
 simp [Tryz.f277, hres, g115] <;> grind
theorem xClo_d (x : TExpr) (hc : ∀ h, CS cx.P 261 [.d (x.dd false)] h (.d (.lf (.bool (iF x)))) h) (h : HP) : CS cx.P 279 [.d (x.dd false)] h (.d (.lf (.bool (!iF x)))) h := by
 refine Ze Tryz.func279 rfl 6 ?_
 apply Zr; intros
 iterate 2 (refine Zo ?_; simp)
 exact Zx
 apply Zr; intros
 refine Zo ?_; simp
 refine Zl [] rfl Tryz.func261 (hc _) ?_; simp
 iterate 2 (refine Zo ?_; simp)
 exact Zx
 refine W.ret (Zq ?_)
 simp [Tryz.f279]
theorem aClo_d (x : TArm) (hz : x.sz ≤ 134217728) (hc : ∀ h, CS cx.P 261 [.d (x.fBody.dd false)] h (.d (.lf (.bool (iF x.fBody)))) h) (h : HP) : CS cx.P 281 [.d (x.dd false)] h (.d (.lf (.bool (!iFa x)))) h := by
 have hz2 := x.sz_eq; unfold szs at hz2
 have hvs : ∀ s ∈ x.fVars, s.size ≤ 134217728 := fun s hs => by have := szL_le ByteArray.size hs; omega
 refine Ze Tryz.func281 rfl 19 ?_
 apply Zr; intros
 iterate 2 (refine Zo ?_; simp)
 exact Zx
 refine W.seq ?_
 refine W.regJ0 (D := _) rfl fun _ K hD hK => ?_
 iterate 2 (refine Zo ?_; simp)
 refine Zl [] rfl Tryz.func101 (iName_d x.fConstructor (by omega) _) ?_; simp
 iterate 2 (refine Zo ?_; simp)
 refine WL.split 7 _ rfl (fun g7 => ?_) fun g7 => ?_ <;> try simp at g7
 simp
 iterate 4 (refine Zn hD rfl rfl ?_; simp)
 iterate 2 (refine Zo ?_; simp)
 iterate 4 (refine Zn hD rfl rfl ?_; simp)
 iterate 2 (refine Zo ?_; simp)
 refine WL.nil (hK _ ?_)
 refine W.ret (Zq ?_)
 simp [Tryz.f281, iFa_eq, g7] <;> grind
 simp
 iterate 2 (refine Zg hD rfl rfl ?_; simp)
 refine Zk hD rfl rfl [] rfl Tryz.func102 (areNames_d x.fVars hvs (by omega) _) ?_; simp
 refine Zg hD rfl rfl ?_; simp
 iterate 2 (refine Zo ?_; simp)
 refine WL.split 13 _ rfl (fun g13 => ?_) fun g13 => ?_ <;> try simp at g13
 simp
 iterate 4 (refine Zn hD rfl rfl ?_; simp)
 iterate 2 (refine Zo ?_; simp)
 refine WL.nil (hK _ ?_)
 refine W.ret (Zq ?_)
 simp [Tryz.f281, iFa_eq, g7, g13] <;> grind
 simp
 iterate 2 (refine Zg hD rfl rfl ?_; simp)
 refine Zk hD rfl rfl [] rfl Tryz.func261 (hc _) ?_; simp
 refine Zg hD rfl rfl ?_; simp
 iterate 2 (refine Zo ?_; simp)
 refine WL.nil (hK _ ?_)
 refine W.ret (Zq ?_)
 simp [Tryz.f281, iFa_eq, g7, g13] <;> grind
theorem isX_a (x : TExpr) (hz : x.sz ≤ 134217728) (hc : ∀ y ∈ x.fArgs, ∀ h, CS cx.P 261 [.d (y.dd false)] h (.d (.lf (.bool (iF y)))) h) (hc2 : ∀ a ∈ x.fArms, ∀ h, CS cx.P 261 [.d (a.fBody.dd false)] h (.d (.lf (.bool (iF a.fBody)))) h) (h : HP) : CS cx.P 261 [.d (x.dd false)] h (.d (.lf (.bool (iF x)))) h := by
 have hz2 := x.sz_eq; unfold szs at hz2
 refine Ze Tryz.func261 rfl 15 ?_
 apply Zr; intros
 iterate 2 (refine Zo ?_; simp)
 exact Zx
 refine W.seq ?_
 refine W.seq ?_
 refine W.regJ (D := _) [1] [1] [(10, .d (.lf (.bool (!(iF0 x && !(x.fArgs.any fun y => !iF y))))))] [] rfl (fun _ K hD hK => ?_) fun T hT => ?_
 refine Zo ?_; simp
 refine Zl [] rfl Tryz.func277 (hasF_d x hz _) ?_; simp
 iterate 2 (refine Zo ?_; simp)
 refine WL.split 6 _ rfl (fun g6 => ?_) fun g6 => ?_ <;> try simp at g6
 simp
 iterate 3 (refine Zn hD rfl rfl ?_; simp)
 refine Zo ?_; simp
 refine WL.nil (hK _ (Wz.to rfl rfl rfl ?_))
 simp [g6] <;> grind
 simp
 iterate 2 (refine Zg hD rfl rfl ?_; simp)
 refine Zk hD rfl rfl [] rfl Tryz.func278 (ContainsFuncExpr_d x.fArgs (by omega) 279 Tryz.f279 _ ⟨Tryz.func279, rfl, rfl⟩ (fun y => !iF y) (fun y hy h => xClo_d y (hc y hy) h) _) ?_; simp
 refine Zo ?_; simp
 refine WL.nil (hK _ (Wz.to rfl rfl rfl ?_))
 simp [g6] <;> grind
 simp at hT; subst hT
 refine Zc rfl ?_ ?_ <;> intro hb0 <;> try simp at hb0
 have hres : iF x = false := by rw [iF_eq]; simp at hb0 ⊢; grind
 apply Zr; intros
 refine Zo ?_; simp
 exact Zx
 refine W.ret (Zq ?_)
 simp [Tryz.f261, hres]
 have hres : iF x = !(x.fArms.any fun y => !iFa y) := by rw [iF_eq]; simp at hb0 ⊢; grind
 refine W.skip ?_
 apply Zr; intros
 iterate 2 (refine Zo ?_; simp)
 refine Zl [] rfl Tryz.func280 (ContainsFuncArm_d x.fArms (by omega) 281 Tryz.f281 _ ⟨Tryz.func281, rfl, rfl⟩ (fun y => !iFa y) (fun y hy h => aClo_d y (by have := szL_le TArm.sz hy; omega) (hc2 y hy) h) _) ?_; simp
 iterate 2 (refine Zo ?_; simp)
 exact Zx
 refine W.ret (Zq ?_)
 simp [Tryz.f261, hres]
theorem isX_d (x : TExpr) (hz : x.sz ≤ 134217728) (h : HP) : CS cx.P 261 [.d (x.dd false)] h (.d (.lf (.bool (iF x)))) h := isX_a x hz (fun y hy h => isX_d y (by have h1 := szL_le TExpr.sz hy; have h2 := x.sz_eq; unfold szs at h2; omega) h) (fun a ha h => isX_d a.fBody (by have h1 := szL_le TArm.sz ha; have h2 := x.sz_eq; have h3 := a.sz_eq; unfold szs at h2; omega) h) h
termination_by SizeOf.sizeOf x
decreasing_by
 ·have := List.sizeOf_lt_of_mem hy; have := x.lt_fArgs; omega
 ·have := List.sizeOf_lt_of_mem ha; have := x.lt_fArms; have := a.lt_fBody; omega
theorem iValidX_d (x : TExpr) (hz : x.sz ≤ 134217728) (h : HP) : CS cx.P 227 [.d (x.dd false)] h (.d (.lf (.bool (exV x)))) h := by
 refine Ze Tryz.func227 rfl 10 ?_
 apply Zr; intros
 iterate 2 (refine Zo ?_; simp)
 exact Zx
 refine W.seq ?_
 refine W.regJ0 (D := _) rfl fun _ K hD hK => ?_
 refine Zo ?_; simp
 refine Zl [] rfl Tryz.func260 (iSzX_d x hz _) ?_; simp
 iterate 2 (refine Zo ?_; simp)
 refine WL.split 6 _ rfl (fun g6 => ?_) fun g6 => ?_ <;> try simp at g6
 simp
 refine Zg hD rfl rfl ?_; simp
 refine Zk hD rfl rfl [] rfl Tryz.func261 (isX_d x hz _) ?_; simp
 iterate 2 (refine Zo ?_; simp)
 refine WL.nil (hK _ ?_)
 refine W.ret (Zq ?_)
 simp [Tryz.f227, exV_iF, g6] <;> omega
 simp
 iterate 2 (refine Zn hD rfl rfl ?_; simp)
 iterate 2 (refine Zo ?_; simp)
 refine WL.nil (hK _ ?_)
 refine W.ret (Zq ?_)
 simp [Tryz.f227, exV_iF, g6] <;> omega
def itoRen : Ren := ⟨fun | 171 => 26 | 243 => 54 | 246 => 100 | 283 => 150 | 284 => 151 | 285 => 152 | 286 => 153 | 317 => 209 | 129 => 210 | 318 => 211 | 319 => 212 | 320 => 213 | 337 => 251 | 338 => 252 | n => n, fun | 0 => 0 | 2 => 2 | 3 => 3 | 4 => 4 | 5 => 5 | 9 => 9 | 20 => 20 | 37 => 58 | 46 => 274 | 51 => 271 | 53 => 216 | 171 => 215 | 173 => 219 | 212 => 270 | 213 => 272 | 232 => 314 | 233 => 315 | n => n, fun | 17 => 0 | 18 => 1 | 19 => 2 | n => n⟩
theorem itoLays : Go.Proofs.LaysM.n171 Tryz.prog itoRen := {
 mixed := by kernel_rfl
 f129 := Tryz.func210.trans (congrArg some (by kernel_rfl))
 f171 := Tryz.func26.trans (congrArg some (by kernel_rfl))
 f243 := Tryz.func54.trans (congrArg some (by kernel_rfl))
 f246 := Tryz.func100.trans (congrArg some (by kernel_rfl))
 f283 := Tryz.func150.trans (congrArg some (by kernel_rfl))
 f284 := Tryz.func151.trans (congrArg some (by kernel_rfl))
 f285 := Tryz.func152.trans (congrArg some (by kernel_rfl))
 f286 := Tryz.func153.trans (congrArg some (by kernel_rfl))
 f317 := Tryz.func209.trans (congrArg some (by kernel_rfl))
 f318 := Tryz.func211.trans (congrArg some (by kernel_rfl))
 f319 := Tryz.func212.trans (congrArg some (by kernel_rfl))
 f320 := Tryz.func213.trans (congrArg some (by kernel_rfl))
 f337 := Tryz.func251.trans (congrArg some (by kernel_rfl))
 f338 := Tryz.func252.trans (congrArg some (by kernel_rfl))
 t0 := Tryz.underlying0
 a0 := Tryz.isAgg0
 z0 := Tryz.sizeOf0
 v0 := Tryz.zeroValue0
 t2 := Tryz.underlying2
 a2 := Tryz.isAgg2
 z2 := Tryz.sizeOf2
 v2 := Tryz.zeroValue2
 t3 := Tryz.underlying3
 a3 := Tryz.isAgg3
 z3 := Tryz.sizeOf3
 v3 := Tryz.zeroValue3
 t4 := Tryz.underlying4
 a4 := Tryz.isAgg4
 z4 := Tryz.sizeOf4
 v4 := Tryz.zeroValue4
 t5 := Tryz.underlying5
 a5 := Tryz.isAgg5
 z5 := Tryz.sizeOf5
 v5 := Tryz.zeroValue5
 t9 := Tryz.underlying9
 a9 := Tryz.isAgg9
 z9 := Tryz.sizeOf9
 v9 := Tryz.zeroValue9
 t20 := Tryz.underlying20
 a20 := Tryz.isAgg20
 z20 := Tryz.sizeOf20
 v20 := Tryz.zeroValue20
 t37 := Tryz.underlying58
 a37 := Tryz.isAgg58
 z37 := Tryz.sizeOf58
 v37 := Tryz.zeroValue58
 t46 := Tryz.underlying274
 a46 := Tryz.isAgg274
 z46 := Tryz.sizeOf274
 v46 := Tryz.zeroValue274
 t51 := Tryz.underlying271
 a51 := Tryz.isAgg271
 z51 := Tryz.sizeOf271
 v51 := Tryz.zeroValue271
 t53 := Tryz.underlying216
 a53 := Tryz.isAgg216
 z53 := Tryz.sizeOf216
 v53 := Tryz.zeroValue216
 t171 := Tryz.underlying215
 a171 := Tryz.isAgg215
 z171 := Tryz.sizeOf215
 v171 := Tryz.zeroValue215
 t173 := Tryz.underlying219
 a173 := Tryz.isAgg219
 z173 := Tryz.sizeOf219
 v173 := Tryz.zeroValue219
 t212 := Tryz.underlying270
 a212 := Tryz.isAgg270
 z212 := Tryz.sizeOf270
 v212 := Tryz.zeroValue270
 t213 := Tryz.underlying272
 a213 := Tryz.isAgg272
 z213 := Tryz.sizeOf272
 t232 := Tryz.underlying314
 a232 := Tryz.isAgg314
 z232 := Tryz.sizeOf314
 v232 := Tryz.zeroValue314
 t233 := Tryz.underlying315
 a233 := Tryz.isAgg315
 z233 := Tryz.sizeOf315
 v233 := Tryz.zeroValue315
 g17 := by kernel_rfl
 g18 := by kernel_rfl
 g19 := by kernel_rfl
 i0 := by kernel_rfl
 i2 := by kernel_rfl
 i3 := by kernel_rfl
 i4 := by kernel_rfl
 i5 := by kernel_rfl
 i9 := by kernel_rfl
 i20 := by kernel_rfl
 i37 := by kernel_rfl
 i46 := by kernel_rfl
 i51 := by kernel_rfl
 i53 := by kernel_rfl
 i171 := by kernel_rfl
 i173 := by kernel_rfl
 i212 := by kernel_rfl
 i232 := by kernel_rfl
 i233 := by kernel_rfl
 m17 := by kernel_rfl
 m18 := by kernel_rfl
 m19 := by kernel_rfl }
open Go.RowKit in
theorem itoa_w (n : Int) (h0 : -9223372036854775808 ≤ n) (h1 : n ≤ 9223372036854775807) (w : World) (htab : Lib.TabIs Tryz.prog w "internal/strconv.uint64pow10" .u64 Lib.pow10Tab) :
  Calls Tryz.prog 26 #[.int .i64 n] w fun e w' => e = .returned (.string ⟨(Lib.itoa n).toArray⟩) ∧ ∃ k os, w' = Sort.grow (w.drewN k) os := Any.strconv_Itoa itoLays n h0 h1 w htab
end Go.Proofs.YtkadbimpaplnmaaGreatDoor
