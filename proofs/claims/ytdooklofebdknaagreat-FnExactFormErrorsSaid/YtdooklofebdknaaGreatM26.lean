/- Walks by the Den rules. No condition but sizes. -/
import Derived.Test.YtdooklofebdknaaGreatM19
import Derived.Test.YtdooklofebdknaaGreatM20
import Derived.Test.YtdooklofebdknaaGreatM25
namespace Go.Proofs.YtdooklofebdknaaGreat
open Go.RowKit
set_option maxRecDepth 10000
set_option linter.unusedSimpArgs false
set_option maxHeartbeats 4000000
mutual
def szX : TExpr → Nat
 | ⟨_, _, _, _, _, al, rl⟩ => 1 + szXs al + szXr rl
def szXs : List TExpr → Nat
 | [] => 0
 | x :: l => szX x + szXs l
def szXa : TArm → Nat
 | ⟨_, _, b⟩ => szX b
def szXr : List TArm → Nat
 | [] => 0
 | x :: l => szXa x + szXr l
end
theorem szXs_app : ∀ a b : List TExpr, szXs (a ++ b) = szXs a + szXs b
 | [], b => by simp [szXs]
 | x :: a, b => by simp only [List.cons_append, szXs, szXs_app a b]; omega
theorem szXr_app : ∀ a b : List TArm, szXr (a ++ b) = szXr a + szXr b
 | [], b => by simp [szXr]
 | x :: a, b => by simp only [List.cons_append, szXr, szXr_app a b]; omega
mutual
theorem szX_le : ∀ x : TExpr, szX x ≤ 1 + x.sz
 | ⟨_, _, _, _, _, al, rl⟩ => by simp only [szX, TExpr.sz]; have := szXs_le al; have := szXr_le rl; omega
theorem szXs_le : ∀ l : List TExpr, szXs l ≤ l.length + TExpr.szLs l
 | [] => by simp [szXs, TExpr.szLs]
 | x :: l => by simp only [szXs, TExpr.szLs, List.length_cons]; have := szX_le x; have := szXs_le l; omega
theorem szXa_le : ∀ x : TArm, szXa x ≤ 1 + x.sz
 | ⟨_, _, b⟩ => by simp only [szXa, TArm.sz]; have := szX_le b; omega
theorem szXr_le : ∀ l : List TArm, szXr l ≤ l.length + TArm.szLs l
 | [] => by simp [szXr, TArm.szLs]
 | x :: l => by simp only [szXr, TArm.szLs, List.length_cons]; have := szXa_le x; have := szXr_le l; omega
end
theorem szXa_eq (x : TArm) : szXa x = szX x.fBody := by cases x; simp only [szXa]
def xk (x : TExpr) (k : Nat) : Nat := 1 + szXs (x.fArgs.take k)
def xr (x : TExpr) (k : Nat) : Nat := xk x x.fArgs.length + szXr (x.fArms.take k)
theorem xk_zero (x : TExpr) : xk x 0 = 1 := rfl
theorem xk_nx {x : TExpr} {k : Nat} (h : k < x.fArgs.length) : xk x (k + 1) = xk x k + szX x.fArgs[k] := by
 unfold xk
 rw [List.take_succ_eq_append_getElem h, szXs_app]; simp [szXs]; omega
theorem xr_nx {x : TExpr} {k : Nat} (h : k < x.fArms.length) : xr x (k + 1) = xr x k + szX x.fArms[k].fBody := by
 unfold xr
 rw [List.take_succ_eq_append_getElem h, szXr_app]; simp [szXr, szXa_eq]; omega
theorem xr_full (x : TExpr) : xr x x.fArms.length = szX x := by cases x; simp [xr, xk, szX]
theorem xr_zero (x : TExpr) : xr x 0 = xk x x.fArgs.length := by simp [xr, szXr]
theorem xk_le (x : TExpr) (k : Nat) : xk x k ≤ xr x 0 := by
 have := szXs_app (x.fArgs.take k) (x.fArgs.drop k)
 rw [List.take_append_drop] at this
 rw [xr_zero]; unfold xk; simp; omega
theorem xr_le (x : TExpr) (k : Nat) : xr x k ≤ szX x := by
 have := szXr_app (x.fArms.take k) (x.fArms.drop k)
 rw [List.take_append_drop] at this
 rw [← xr_full]; unfold xr; simp; omega
theorem lft_x1 {x : TExpr} {k : Nat} {left : Int} (hk : k ≤ x.fArgs.length) (h : k < x.fArgs.length → lft (xk x k) left < 0) : lft (xr x 0) left = lft (xk x k) left := by
 rcases Nat.lt_or_ge k x.fArgs.length with q | q
 ·exact lft_neg (by have := h q; omega) (xk_le x k)
 ·have : k = x.fArgs.length := by omega
  subst this; rw [xr_zero]
theorem lft_x2 {x : TExpr} {k : Nat} {left : Int} (hk : k ≤ x.fArms.length) (h : k < x.fArms.length → lft (xr x k) left < 0) : lft (szX x) left = lft (xr x k) left := by
 rcases Nat.lt_or_ge k x.fArms.length with q | q
 ·exact lft_neg (by have := h q; omega) (xr_le x k)
 ·have : k = x.fArms.length := by omega
  subst this; rw [xr_full]
theorem l11Left_a (x : TExpr) (left : Int) (h0 : 0 ≤ left) (h1 : left ≤ 134217728) (hz : x.sz ≤ 134217728) (hc : ∀ y ∈ x.fArgs, ∀ left, 0 ≤ left → left ≤ 134217728 → ∀ h, CS cx.P 373 [.d (y.dd false), .d (.lf (.int .i64 (left)))] h (.d (.lf (.int .i64 (lft (szX y) left)))) h) (hc2 : ∀ a ∈ x.fArms, ∀ left, 0 ≤ left → left ≤ 134217728 → ∀ h, CS cx.P 373 [.d (a.fBody.dd false), .d (.lf (.int .i64 (left)))] h (.d (.lf (.int .i64 (lft (szX a.fBody) left)))) h) (h : HP) : CS cx.P 373 [.d (x.dd false), .d (.lf (.int .i64 (left)))] h (.d (.lf (.int .i64 (lft (szX x) left)))) h := by
 have hz2 := x.sz_eq; unfold szs at hz2
 have hw0 := i64w (n := left - 1) (by omega) (by omega)
 have hl0 : lft 1 left = left - 1 := by unfold lft; split <;> omega
 refine Ze Tryz.func373 rfl 47 ?_
 apply Zr; intros
 iterate 2 (refine Zo ?_ (by simp [hw0] <;> omega); simp [hw0])
 exact Zx
 apply Zr; intros
 iterate 3 (refine Zo ?_ (by simp [hw0] <;> omega); simp [hw0])
 exact Zx
 refine W.seq ?_
 apply Zr; intros
 refine Zo ?_ (by simp [hw0] <;> omega); simp [hw0]
 exact Zx
 refine W.block ?_
 refine W.loopk [2] [2] (fun k0 => [(5, .d (.lf (.int .i64 (k0 : Int)))), (1, .d (.lf (.int .i64 ((lft (xk x k0) left)))))]) (fun _ => []) x.fArgs.length rfl (by simp [xk_zero, hl0]) fun k0 hk0 T hT => ?_
 simp at hT; subst hT
 refine W.seq ?_
 refine W.seq ?_
 refine W.regJ (D := _) [1, 2, 5] [2] [(17, .d (.lf (.bool (decide (k0 < x.fArgs.length) && decide (0 ≤ (lft (xk x k0) left))))))] [] rfl (fun _ K hD hK => ?_) fun T hT => ?_
 iterate 6 (refine Zo ?_ (by simp [hw0] <;> omega); simp [hw0])
 refine WL.split 14 _ rfl (fun g14 => ?_) fun g14 => ?_ <;> try simp at g14
 simp [hw0]
 iterate 2 (refine Zg hD rfl rfl ?_ (by simp [hw0] <;> omega); simp [hw0])
 refine Zo ?_ (by simp [hw0] <;> omega); simp [hw0]
 refine WL.nil (hK _ (Wz.to rfl rfl rfl ?_))
 simp [g14] <;> first | omega | grind
 simp [hw0]
 iterate 2 (refine Zn hD rfl rfl ?_; simp [hw0])
 refine Zo ?_ (by simp [hw0] <;> omega); simp [hw0]
 refine WL.nil (hK _ (Wz.to rfl rfl rfl ?_))
 simp [g14] <;> first | omega | grind
 simp at hT; subst hT
 refine Zc rfl ?_ ?_ <;> intro hb0 <;> try simp at hb0
 have hk2 := hb0.1
 have hx := ixNext hk2 (by omega)
 refine W.skip ?_
 refine Zb ?_
 apply Zs; intros
 iterate 6 (refine Zo ?_ (by simp [hw0, hk2, hx] <;> omega); simp [hw0, hk2, hx])
 refine Zl [] rfl Tryz.func373 (hc x.fArgs[k0] (gm hk2) (lft (xk x k0) left) hb0.2 (by unfold lft; split <;> omega) _) ?_ (by simp [hw0, hk2, hx]); simp [hw0, hk2, hx]
 refine Zo ?_ (by simp [hw0, hk2, hx] <;> omega); simp [hw0, hk2, hx]
 exact Zx
 apply Zs; intros
 iterate 3 (refine Zo ?_ (by simp [hw0, hk2, hx] <;> omega); simp [hw0, hk2, hx])
 exact Zx
 refine ⟨hk2, Wz.to rfl rfl rfl ?_⟩
 have hs := lft_lft (b := szX x.fArgs[k0]) hb0.2
 rw [← xk_nx hk2] at hs
 simp [hs]
 have h2 : lft (xr x 0) left = (lft (xk x k0) left) := lft_x1 hk0 hb0
 refine W.exit ?_
 refine W.seq ?_
 apply Zr; intros
 refine Zo ?_ (by simp [hw0] <;> omega); simp [hw0]
 exact Zx
 refine W.block ?_
 refine W.loopk [2] [2] (fun k1 => [(6, .d (.lf (.int .i64 (k1 : Int)))), (1, .d (.lf (.int .i64 ((lft (xr x k1) left)))))]) (fun _ => []) x.fArms.length rfl (by simp [h2]) fun k1 hk1 T hT => ?_
 simp at hT; subst hT
 refine W.seq ?_
 refine W.seq ?_
 refine W.regJ (D := _) [1, 2, 6] [2] [(35, .d (.lf (.bool (decide (k1 < x.fArms.length) && decide (0 ≤ (lft (xr x k1) left))))))] [] rfl (fun _ K hD hK => ?_) fun T hT => ?_
 iterate 6 (refine Zo ?_ (by simp [hw0] <;> omega); simp [hw0])
 refine WL.split 32 _ rfl (fun g32 => ?_) fun g32 => ?_ <;> try simp at g32
 simp [hw0]
 iterate 2 (refine Zg hD rfl rfl ?_ (by simp [hw0] <;> omega); simp [hw0])
 refine Zo ?_ (by simp [hw0] <;> omega); simp [hw0]
 refine WL.nil (hK _ (Wz.to rfl rfl rfl ?_))
 simp [g32] <;> first | omega | grind
 simp [hw0]
 iterate 2 (refine Zn hD rfl rfl ?_; simp [hw0])
 refine Zo ?_ (by simp [hw0] <;> omega); simp [hw0]
 refine WL.nil (hK _ (Wz.to rfl rfl rfl ?_))
 simp [g32] <;> first | omega | grind
 simp at hT; subst hT
 refine Zc rfl ?_ ?_ <;> intro hb1 <;> try simp at hb1
 have hk3 := hb1.1
 have hx := ixNext hk3 (by omega)
 refine W.skip ?_
 refine Zb ?_
 apply Zs; intros
 iterate 7 (refine Zo ?_ (by simp [hw0, hk3, hx] <;> omega); simp [hw0, hk3, hx])
 refine Zl [] rfl Tryz.func373 (hc2 x.fArms[k1] (gm hk3) (lft (xr x k1) left) hb1.2 (by unfold lft; split <;> omega) _) ?_ (by simp [hw0, hk3, hx]); simp [hw0, hk3, hx]
 refine Zo ?_ (by simp [hw0, hk3, hx] <;> omega); simp [hw0, hk3, hx]
 exact Zx
 apply Zs; intros
 iterate 3 (refine Zo ?_ (by simp [hw0, hk3, hx] <;> omega); simp [hw0, hk3, hx])
 exact Zx
 refine ⟨hk3, Wz.to rfl rfl rfl ?_⟩
 have hs := lft_lft (b := szX x.fArms[k1].fBody) hb1.2
 rw [← xr_nx hk3] at hs
 simp [hs]
 have hres : lft (szX x) left = (lft (xr x k1) left) := lft_x2 hk1 hb1
 refine W.exit ?_
 apply Zr; intros
 iterate 2 (refine Zo ?_ (by simp [hw0] <;> omega); simp [hw0])
 exact Zx
 refine W.ret (Zq ?_)
 simp [Tryz.f373, hres]
theorem l11Left_d (x : TExpr) (left : Int) (h0 : 0 ≤ left) (h1 : left ≤ 134217728) (hz : x.sz ≤ 134217728) (h : HP) : CS cx.P 373 [.d (x.dd false), .d (.lf (.int .i64 (left)))] h (.d (.lf (.int .i64 (lft (szX x) left)))) h := l11Left_a x left h0 h1 hz (fun y hy left h0 h1 h => l11Left_d y left h0 h1 (by have h1 := szL_le TExpr.sz hy; have h2 := x.sz_eq; unfold szs at h2; omega) h) (fun a ha left h0 h1 h => l11Left_d a.fBody left h0 h1 (by have h1 := szL_le TArm.sz ha; have h2 := x.sz_eq; have h3 := a.sz_eq; unfold szs at h2; omega) h) h
termination_by SizeOf.sizeOf x
decreasing_by
 ·have := List.sizeOf_lt_of_mem hy; have := x.lt_fArgs; omega
 ·have := List.sizeOf_lt_of_mem ha; have := x.lt_fArms; have := a.lt_fBody; omega
theorem l11Form_d (x : TExpr) (hz : x.sz ≤ 134217728) (h : HP) : CS cx.P 374 [.d (x.dd false)] h (.d (.lf (.bool (exF x)))) h := l11Form_a x hz (fun y hy h => l11Form_d y (by have h1 := szL_le TExpr.sz hy; have h2 := x.sz_eq; unfold szs at h2; omega) h) (fun a ha h => l11Form_d a.fBody (by have h1 := szL_le TArm.sz ha; have h2 := x.sz_eq; have h3 := a.sz_eq; unfold szs at h2; omega) h) h
termination_by SizeOf.sizeOf x
decreasing_by
 ·have := List.sizeOf_lt_of_mem hy; have := x.lt_fArgs; omega
 ·have := List.sizeOf_lt_of_mem ha; have := x.lt_fArms; have := a.lt_fBody; omega
def exV (x : TExpr) : Bool := decide (szX x ≤ 300) && exF x
theorem sValidX_d (x : TExpr) (hz : x.sz ≤ 134217728) (h : HP) : CS cx.P 309 [.d (x.dd false)] h (.d (.lf (.bool (exV x)))) h := by
 have hk := lft_ok (szX x) 300 (by omega)
 refine Ze Tryz.func309 rfl 10 ?_
 apply Zr; intros
 iterate 2 (refine Zo ?_; simp)
 exact Zx
 refine W.seq ?_
 refine W.regJ0 (D := _) rfl fun _ K hD hK => ?_
 refine Zo ?_; simp
 refine Zl [] rfl Tryz.func373 (l11Left_d x 300 (by omega) (by omega) hz _) ?_; simp
 iterate 2 (refine Zo ?_; simp)
 refine WL.split 6 _ rfl (fun g6 => ?_) fun g6 => ?_ <;> try simp at g6
 simp
 refine Zg hD rfl rfl ?_; simp
 refine Zk hD rfl rfl [] rfl Tryz.func374 (l11Form_d x hz _) ?_; simp
 iterate 2 (refine Zo ?_; simp)
 refine WL.nil (hK _ ?_)
 refine W.ret (Zq ?_)
 simp [Tryz.f309, exV, g6] <;> simp at hk <;> first | omega | grind
 simp
 iterate 2 (refine Zn hD rfl rfl ?_; simp)
 iterate 2 (refine Zo ?_; simp)
 refine WL.nil (hK _ ?_)
 refine W.ret (Zq ?_)
 simp [Tryz.f309, exV, g6] <;> simp at hk <;> first | omega | grind
def fv0 (b o : List ByteArray) (k : Int) (n : ByteArray) : List ByteArray := if k = 3 ∧ hasS b n = false ∧ hasS o n = false then o ++ [n] else o
mutual
def fvE : TExpr → List ByteArray → List ByteArray → List ByteArray
 | ⟨k, _, n, _, _, al, rl⟩, b, o => fvR rl b (fvA al (decide (k = 8)) n 0 b (fv0 b o k n))
def fvA : List TExpr → Bool → ByteArray → Nat → List ByteArray → List ByteArray → List ByteArray
 | [], _, _, _, _, o => o
 | x :: l, t, n, i, b, o => fvA l t n (i + 1) b (fvE x (if (t && decide (i = 1)) = true then b ++ [n] else b) o)
def fvM : TArm → List ByteArray → List ByteArray → List ByteArray
 | ⟨_, vs, e⟩, b, o => fvE e (b ++ vs) o
def fvR : List TArm → List ByteArray → List ByteArray → List ByteArray
 | [], _, o => o
 | x :: l, b, o => fvR l b (fvM x b o)
end
theorem fvA_app : ∀ (a c : List TExpr) (t : Bool) (n : ByteArray) (i : Nat) (b o : List ByteArray), fvA (a ++ c) t n i b o = fvA c t n (i + a.length) b (fvA a t n i b o)
 | [], c, t, n, i, b, o => rfl
 | x :: a, c, t, n, i, b, o => by simp only [List.cons_append, fvA, fvA_app a c, List.length_cons]; congr 1; omega
theorem fvR_app : ∀ (a c : List TArm) (b o : List ByteArray), fvR (a ++ c) b o = fvR c b (fvR a b o)
 | [], c, b, o => rfl
 | x :: a, c, b, o => by simp only [List.cons_append, fvR, fvR_app a c]
theorem fvM_eq (x : TArm) (b o : List ByteArray) : fvM x b o = fvE x.fBody (b ++ x.fVars) o := by cases x; simp only [fvM]
theorem fv0_len (b o : List ByteArray) (k : Int) (n : ByteArray) : (fv0 b o k n).length ≤ o.length + 1 := by unfold fv0; split <;> simp
mutual
theorem fvE_len : ∀ (x : TExpr) (b o : List ByteArray), (fvE x b o).length ≤ o.length + szX x
 | ⟨k, _, n, _, _, al, rl⟩, b, o => by
  have h1 := fvR_len rl b (fvA al (decide (k = 8)) n 0 b (fv0 b o k n))
  have h2 := fvA_len al (decide (k = 8)) n 0 b (fv0 b o k n)
  have h3 := fv0_len b o k n
  simp only [fvE, szX]; omega
theorem fvA_len : ∀ (l : List TExpr) (t : Bool) (n : ByteArray) (i : Nat) (b o : List ByteArray), (fvA l t n i b o).length ≤ o.length + szXs l
 | [], _, _, _, _, o => by simp [fvA, szXs]
 | x :: l, t, n, i, b, o => by
  have h1 := fvA_len l t n (i + 1) b (fvE x (if (t && decide (i = 1)) = true then b ++ [n] else b) o)
  have h2 := fvE_len x (if (t && decide (i = 1)) = true then b ++ [n] else b) o
  simp only [fvA, szXs]; omega
theorem fvM_len : ∀ (x : TArm) (b o : List ByteArray), (fvM x b o).length ≤ o.length + szXa x
 | ⟨_, vs, e⟩, b, o => by
  have := fvE_len e (b ++ vs) o
  simp only [fvM, szXa]; omega
theorem fvR_len : ∀ (l : List TArm) (b o : List ByteArray), (fvR l b o).length ≤ o.length + szXr l
 | [], _, o => by simp [fvR, szXr]
 | x :: l, b, o => by
  have h1 := fvR_len l b (fvM x b o)
  have h2 := fvM_len x b o
  simp only [fvR, szXr]; omega
end
def bIn (x : TExpr) (b : List ByteArray) (k : Nat) : List ByteArray := if (decide (x.fKind = 8) && decide (k = 1)) = true then b ++ [x.fName] else b
def faK (x : TExpr) (b o : List ByteArray) (k : Nat) : List ByteArray := fvA (x.fArgs.take k) (decide (x.fKind = 8)) x.fName 0 b (fv0 b o x.fKind x.fName)
def frK (x : TExpr) (b o : List ByteArray) (k : Nat) : List ByteArray := fvR (x.fArms.take k) b (faK x b o x.fArgs.length)
theorem faK_zero (x : TExpr) (b o : List ByteArray) : faK x b o 0 = fv0 b o x.fKind x.fName := rfl
theorem faK_step {x : TExpr} {b o : List ByteArray} {k : Nat} (h : k < x.fArgs.length) : fvE x.fArgs[k] (bIn x b k) (faK x b o k) = faK x b o (k + 1) := by
 unfold faK bIn
 rw [List.take_succ_eq_append_getElem h, fvA_app]
 have : (x.fArgs.take k).length = k := by simp; omega
 rw [this, Nat.zero_add]; rfl
theorem frK_zero (x : TExpr) (b o : List ByteArray) : frK x b o 0 = faK x b o x.fArgs.length := rfl
theorem frK_step {x : TExpr} {b o : List ByteArray} {k : Nat} (h : k < x.fArms.length) : fvE x.fArms[k].fBody (b ++ x.fArms[k].fVars) (frK x b o k) = frK x b o (k + 1) := by
 unfold frK
 rw [List.take_succ_eq_append_getElem h, fvR_app, ← fvM_eq]; rfl
theorem frK_full (x : TExpr) (b o : List ByteArray) : frK x b o x.fArms.length = fvE x b o := by cases x; simp [frK, faK, fvE]
theorem faK_len {x : TExpr} {b o : List ByteArray} {k : Nat} (h : k < x.fArgs.length) : (faK x b o k).length + szX x.fArgs[k] ≤ o.length + szX x := by
 have h1 := fvA_len (x.fArgs.take k) (decide (x.fKind = 8)) x.fName 0 b (fv0 b o x.fKind x.fName)
 have h2 := fv0_len b o x.fKind x.fName
 have h3 := xk_nx h
 have h4 := xk_le x (k + 1)
 have h5 := xr_le x 0
 unfold xk at h3 h4
 unfold faK; omega
theorem frK_len {x : TExpr} {b o : List ByteArray} {k : Nat} (h : k < x.fArms.length) : (frK x b o k).length + szX x.fArms[k].fBody ≤ o.length + szX x := by
 have h1 := fvR_len (x.fArms.take k) b (faK x b o x.fArgs.length)
 have h2 := fvA_len (x.fArgs.take x.fArgs.length) (decide (x.fKind = 8)) x.fName 0 b (fv0 b o x.fKind x.fName)
 have h3 := fv0_len b o x.fKind x.fName
 have h4 := xr_nx h
 have h5 := xr_le x (k + 1)
 unfold xr xk at h4 h5
 unfold faK at h1
 unfold frK faK
 omega
def fv (x : TExpr) : List ByteArray := fvE x [] []
theorem l11Free_a (x : TExpr) (b o : List ByteArray) (hz : x.sz ≤ 134217728) (hb : b.length + x.sz ≤ 1073741824) (ho : o.length + szX x ≤ 1073741824) (hc : ∀ y ∈ x.fArgs, ∀ b o : List ByteArray, b.length + y.sz ≤ 1073741824 → o.length + szX y ≤ 1073741824 → ∀ h, CS cx.P 372 [.d (y.dd false), .d (.sl false .one (b.map dS)), .d (.sl true .one (o.map dS))] h (.d (.sl true .one ((fvE y b o).map dS))) h) (hc2 : ∀ a ∈ x.fArms, ∀ b o : List ByteArray, b.length + a.fBody.sz ≤ 1073741824 → o.length + szX a.fBody ≤ 1073741824 → ∀ h, CS cx.P 372 [.d (a.fBody.dd false), .d (.sl false .one (b.map dS)), .d (.sl true .one (o.map dS))] h (.d (.sl true .one ((fvE a.fBody b o).map dS))) h) (h : HP) : CS cx.P 372 [.d (x.dd false), .d (.sl false .one (b.map dS)), .d (.sl true .one (o.map dS))] h (.d (.sl true .one ((fvE x b o).map dS))) h := by
 have hz2 := x.sz_eq; unfold szs at hz2
 refine Ze Tryz.func372 rfl 88 ?_
 apply Zr; intros
 iterate 2 (refine Zo ?_; simp)
 exact Zx
 refine W.seq ?_
 refine W.seq ?_
 refine W.regJ (D := _) [1, 2, 3] [3] [(26, .d (.lf (.bool (decide (x.fKind = 3) && (!hasS b x.fName && !hasS o x.fName)))))] [] rfl (fun _ K hD hK => ?_) fun T hT => ?_
 iterate 4 (refine Zo ?_; simp)
 refine WL.split 13 _ rfl (fun g13 => ?_) fun g13 => ?_ <;> try simp at g13
 simp
 iterate 3 (refine Zg hD rfl rfl ?_; simp)
 refine Zk hD rfl rfl [] rfl Tryz.func92 (l1Has_d b x.fName (by omega) _) ?_; simp
 refine Zg hD rfl rfl ?_; simp
 iterate 2 (refine Zo ?_; simp)
 refine WL.split 20 _ rfl (fun g20 => ?_) fun g20 => ?_ <;> try simp at g20
 simp
 iterate 3 (refine Zg hD rfl rfl ?_; simp)
 refine Zk hD rfl rfl [] rfl Tryz.func92 (l1Has_d o x.fName (by omega) _) ?_; simp
 refine Zg hD rfl rfl ?_; simp
 refine Zo ?_; simp
 refine WL.nil (hK _ (Wz.to rfl rfl rfl ?_))
 simp [g13, g20]
 simp
 iterate 5 (refine Zn hD rfl rfl ?_; simp)
 refine Zo ?_; simp
 refine WL.nil (hK _ (Wz.to rfl rfl rfl ?_))
 simp [g13, g20]
 simp
 iterate 5 (refine Zn hD rfl rfl ?_; simp)
 iterate 2 (refine Zo ?_; simp)
 iterate 5 (refine Zn hD rfl rfl ?_; simp)
 refine Zo ?_; simp
 refine WL.nil (hK _ (Wz.to rfl rfl rfl ?_))
 simp [g13]
 simp at hT; subst hT
 refine W.join [1, 3] [3] [(2, .d (.sl true .one ((fv0 b o x.fKind x.fName).map dS)))] [] ?_ fun T hT => ?_
 refine Zc rfl ?_ ?_ <;> intro hb0 <;> try simp at hb0
 have ht : fv0 b o x.fKind x.fName = o ++ [x.fName] := by unfold fv0; rw [if_pos (by simpa using hb0)]
 apply Zs; intros
 refine Zm [27] ?_; simp
 iterate 5 (refine Zo ?_; simp)
 exact Zx
 refine Wz.to rfl rfl rfl ?_
 simp [ht]
 have ht : fv0 b o x.fKind x.fName = o := by unfold fv0; rw [if_neg (by simpa using hb0)]
 refine W.skip ?_
 refine Wz.to rfl rfl rfl ?_
 simp [ht]
 simp at hT; subst hT
 refine W.seq ?_
 apply Zr; intros
 refine Zo ?_; simp
 exact Zx
 refine W.block ?_
 refine W.loopk [1, 3] [3] (fun k0 => [(7, .d (.lf (.int .i64 (k0 : Int)))), (2, .d (.sl true .one ((faK x b o k0).map dS)))]) (fun _ => []) x.fArgs.length rfl (by simp [faK_zero]) fun k0 hk0 T hT => ?_
 simp at hT; subst hT
 refine W.seq ?_
 apply Zr; intros
 iterate 5 (refine Zo ?_; simp)
 exact Zx
 refine Zc rfl ?_ ?_ <;> intro hb1 <;> try simp at hb1
 have hx := ixNext hb1 (by omega)
 have hl := faK_len (b := b) (o := o) hb1
 have hy := szL_le TExpr.sz (gm hb1)
 have hbl : (bIn x b k0).length ≤ b.length + 1 := by unfold bIn; split <;> simp
 refine W.skip ?_
 refine Zb ?_
 apply Zr; intros
 iterate 2 (refine Zo ?_ (by simp [hb1, hx] <;> omega); simp [hb1, hx])
 exact Zx
 refine W.seq ?_
 refine W.seq ?_
 refine W.regJ (D := _) [1, 2, 3, 7, 8] [3] [(46, .d (.lf (.bool (decide (x.fKind = 8) && decide (k0 = 1)))))] [] rfl (fun _ K hD hK => ?_) fun T hT => ?_
 iterate 4 (refine Zo ?_ (by simp [hb1, hx] <;> omega); simp [hb1, hx])
 refine WL.split 43 _ rfl (fun g43 => ?_) fun g43 => ?_ <;> try simp at g43
 simp [hb1, hx]
 iterate 2 (refine Zg hD rfl rfl ?_ (by simp [hb1, hx] <;> omega); simp [hb1, hx])
 refine Zo ?_ (by simp [hb1, hx] <;> omega); simp [hb1, hx]
 refine WL.nil (hK _ (Wz.to rfl rfl rfl ?_))
 simp [g43] <;> omega
 simp [hb1, hx]
 iterate 2 (refine Zn hD rfl rfl ?_; simp [hb1, hx])
 refine Zo ?_ (by simp [hb1, hx] <;> omega); simp [hb1, hx]
 refine WL.nil (hK _ (Wz.to rfl rfl rfl ?_))
 simp [g43] <;> omega
 simp at hT; subst hT
 refine Zc rfl ?_ ?_ <;> intro hb2 <;> try simp at hb2
 have hbi : bIn x b k0 = b ++ [x.fName] := by unfold bIn; rw [if_pos (by simpa using hb2)]
 apply W.regSD rfl; intro K hK
 refine Yo ?_ (by simp [hb1, hx, hbi] <;> omega); simp [hb1, hx, hbi]
 refine Ym [48] ?_ (by simp [hb1, hx, hbi] <;> omega); simp [hb1, hx, hbi]
 iterate 6 (refine Yo ?_ (by simp [hb1, hx, hbi] <;> omega); simp [hb1, hx, hbi])
 exact DL.nil rfl hK
 apply Zs; intros
 iterate 6 (refine Zo ?_ (by simp [hb1, hx, hbi] <;> omega); simp [hb1, hx, hbi])
 refine Zm [60] ?_ (by simp [hb1, hx, hbi] <;> omega); simp [hb1, hx, hbi]
 refine Zl [60] rfl Tryz.func372 (hc x.fArgs[k0] (gm hb1) (bIn x b k0) (faK x b o k0) (by omega) (by omega) _) ?_ (by simp [hb1, hx, hbi]); simp [hb1, hx, hbi]
 refine Zo ?_ (by simp [hb1, hx, hbi] <;> omega); simp [hb1, hx, hbi]
 exact Zx
 apply Zs; intros
 iterate 3 (refine Zo ?_ (by simp [hb1, hx, hbi] <;> omega); simp [hb1, hx, hbi])
 exact Zx
 refine ⟨hb1, Wz.to rfl rfl rfl ?_⟩
 have hs := faK_step (b := b) (o := o) hb1
 rw [hbi] at hs
 simp [hs]
 have hbi : bIn x b k0 = b := by unfold bIn; rw [if_neg (by simpa using hb2)]
 refine W.skip ?_
 apply Zs; intros
 iterate 6 (refine Zo ?_ (by simp [hb1, hx, hbi] <;> omega); simp [hb1, hx, hbi])
 refine Zm [60] ?_ (by simp [hb1, hx, hbi] <;> omega); simp [hb1, hx, hbi]
 refine Zl [60] rfl Tryz.func372 (hc x.fArgs[k0] (gm hb1) (bIn x b k0) (faK x b o k0) (by omega) (by omega) _) ?_ (by simp [hb1, hx, hbi]); simp [hb1, hx, hbi]
 refine Zo ?_ (by simp [hb1, hx, hbi] <;> omega); simp [hb1, hx, hbi]
 exact Zx
 apply Zs; intros
 iterate 3 (refine Zo ?_ (by simp [hb1, hx, hbi] <;> omega); simp [hb1, hx, hbi])
 exact Zx
 refine ⟨hb1, Wz.to rfl rfl rfl ?_⟩
 have hs := faK_step (b := b) (o := o) hb1
 rw [hbi] at hs
 simp [hs]
 have hkl : k0 = x.fArgs.length := by omega
 subst hkl
 refine W.exit ?_
 refine W.seq ?_
 apply Zr; intros
 refine Zo ?_; simp
 exact Zx
 refine W.block ?_
 refine W.loopk [1, 3] [3] (fun k1 => [(9, .d (.lf (.int .i64 (k1 : Int)))), (2, .d (.sl true .one ((frK x b o k1).map dS)))]) (fun _ => []) x.fArms.length rfl (by simp [frK_zero]) fun k1 hk1 T hT => ?_
 simp at hT; subst hT
 refine W.seq ?_
 apply Zr; intros
 iterate 5 (refine Zo ?_; simp)
 exact Zx
 refine Zc rfl ?_ ?_ <;> intro hb3 <;> try simp at hb3
 have hx := ixNext hb3 (by omega)
 have hl := frK_len (b := b) (o := o) hb3
 have hy := szL_le TArm.sz (gm hb3)
 have hy2 := x.fArms[k1].sz_eq; unfold szs at hy2
 refine W.skip ?_
 refine Zb ?_
 apply W.regSD rfl; intro K hK
 iterate 7 (refine Yo ?_ (by simp [hb3, hx] <;> omega); simp [hb3, hx])
 refine Ym [76] ?_ (by simp [hb3, hx] <;> omega); simp [hb3, hx]
 iterate 6 (refine Yo ?_ (by simp [hb3, hx] <;> omega); simp [hb3, hx])
 refine Ym [83] ?_ (by simp [hb3, hx] <;> omega); simp [hb3, hx]
 refine Yo ?_ (by simp [hb3, hx] <;> omega); simp [hb3, hx]
 refine Ym [85] ?_ (by simp [hb3, hx] <;> omega); simp [hb3, hx]
 refine Yl [85] rfl Tryz.func372 (hc2 x.fArms[k1] (gm hb3) (b ++ x.fArms[k1].fVars) (frK x b o k1) (by simp; omega) (by omega)) ?_ (by simp [hb3, hx]); simp [hb3, hx]
 refine Yo ?_ (by simp [hb3, hx] <;> omega); simp [hb3, hx]
 exact DL.nil rfl hK
 apply Zs; intros
 iterate 3 (refine Zo ?_ (by simp [hb3, hx] <;> omega); simp [hb3, hx])
 exact Zx
 refine ⟨hb3, Wz.to rfl rfl rfl ?_⟩
 have hs := frK_step (b := b) (o := o) hb3
 simp [hs]
 have hkl : k1 = x.fArms.length := by omega
 subst hkl
 have hres := frK_full x b o
 refine W.exit ?_
 apply Zr; intros
 refine Zm [87] ?_; simp
 refine Zo ?_; simp
 exact Zx
 refine W.ret (Zq ?_)
 simp [Tryz.f372, hres]
theorem l11Free_d (x : TExpr) (b o : List ByteArray) (hz : x.sz ≤ 134217728) (hb : b.length + x.sz ≤ 1073741824) (ho : o.length + szX x ≤ 1073741824) (h : HP) : CS cx.P 372 [.d (x.dd false), .d (.sl false .one (b.map dS)), .d (.sl true .one (o.map dS))] h (.d (.sl true .one ((fvE x b o).map dS))) h := l11Free_a x b o hz hb ho (fun y hy b o hb ho h => l11Free_d y b o (by have h1 := szL_le TExpr.sz hy; have h2 := x.sz_eq; unfold szs at h2; omega) hb ho h) (fun a ha b o hb ho h => l11Free_d a.fBody b o (by have h1 := szL_le TArm.sz ha; have h2 := x.sz_eq; have h3 := a.sz_eq; unfold szs at h2; omega) hb ho h) h
termination_by SizeOf.sizeOf x
decreasing_by
 ·have := List.sizeOf_lt_of_mem hy; have := x.lt_fArgs; omega
 ·have := List.sizeOf_lt_of_mem ha; have := x.lt_fArms; have := a.lt_fBody; omega
theorem sFv_d (x : TExpr) (hz : x.sz ≤ 134217728) (h : HP) : CS cx.P 308 [.d (x.dd false)] h (.d (.sl true .one ((fv x).map dS))) h := by
 have hsx := szX_le x
 refine Ze Tryz.func308 rfl 7 ?_
 apply Zr; intros
 iterate 2 (refine Zo ?_; simp)
 exact Zx
 apply Zr; intros
 iterate 3 (refine Zo ?_; simp)
 refine Zl [5] rfl Tryz.func372 (l11Free_d x [] [] hz (by simp; omega) (by simp; omega) _) ?_; simp
 refine Zo ?_; simp
 exact Zx
 refine W.ret (Zq ?_)
 simp [Tryz.f308, fv]
def body (x : TExpr) (vars : List ByteArray) : Bool := exV x && sub (fv x) vars
end Go.Proofs.YtdooklofebdknaaGreat
