/- Walks by the Den rules. No condition but sizes. -/
import Derived.Test.YtkadbimpaplnmaaGreatDoorM16
import Derived.Test.YtkadbimpaplnmaaGreatDoorM18
namespace Go.Proofs.YtkadbimpaplnmaaGreatDoor
open Go.RowKit
set_option maxRecDepth 10000
set_option linter.unusedSimpArgs false
set_option maxHeartbeats 4000000
mutual
def tSize : TType → Nat
 | ⟨_, _, l⟩ => 1 + tSizes l
def tSizes : List TType → Nat
 | [] => 0
 | x :: l => tSize x + tSizes l
end
mutual
def tDepth : TType → Nat
 | ⟨_, _, l⟩ => tDepths l
def tDepths : List TType → Nat
 | [] => 0
 | x :: l => max (tDepth x + 1) (tDepths l)
end
theorem tSizes_app : ∀ a b : List TType, tSizes (a ++ b) = tSizes a + tSizes b
 | [], b => by simp [tSizes]
 | x :: a, b => by simp only [List.cons_append, tSizes, tSizes_app a b]; omega
theorem tDepths_app : ∀ a b : List TType, tDepths (a ++ b) = max (tDepths a) (tDepths b)
 | [], b => by simp [tDepths]
 | x :: a, b => by simp only [List.cons_append, tDepths, tDepths_app a b]; exact (Nat.max_assoc _ _ _).symm
mutual
theorem tSize_le : ∀ x : TType, tSize x ≤ 1 + x.sz
 | ⟨_, _, l⟩ => by simp only [tSize, TType.sz]; have := tSizes_le l; omega
theorem tSizes_le : ∀ l : List TType, tSizes l ≤ l.length + TType.szLs l
 | [] => by simp [tSizes, TType.szLs]
 | x :: l => by simp only [tSizes, TType.szLs, List.length_cons]; have := tSize_le x; have := tSizes_le l; omega
end
mutual
theorem tDepth_le : ∀ x : TType, tDepth x ≤ x.sz
 | ⟨_, _, l⟩ => by simp only [tDepth, TType.sz]; have := tDepths_le l; omega
theorem tDepths_le : ∀ l : List TType, tDepths l ≤ l.length + TType.szLs l
 | [] => by simp [tDepths, TType.szLs]
 | x :: l => by simp only [tDepths, TType.szLs, List.length_cons]; have := tDepth_le x; have := tDepths_le l; omega
end
def tSzk (l : List TType) (k : Nat) : Nat := 1 + tSizes (l.take k)
theorem tSzk_zero (l : List TType) : tSzk l 0 = 1 := rfl
theorem tSzk_full (x : TType) : tSzk x.fArgs x.fArgs.length = tSize x := by cases x; simp [tSzk, tSize]
theorem tSzk_step {l : List TType} {k : Nat} (h : k < l.length) (hz : szs TType.sz l ≤ 134217728) : IntKind.i64.wrap ((tSzk l k : Int) + (tSize l[k] : Int)) = (tSzk l (k + 1) : Int) := by
 have h1 : tSzk l (k + 1) = tSzk l k + tSize l[k] := by
  unfold tSzk
  rw [List.take_succ_eq_append_getElem h, tSizes_app]; simp [tSizes]; omega
 have h2 : tSzk l (k + 1) ≤ 1 + tSizes l := by
  unfold tSzk
  have := tSizes_app (l.take (k + 1)) (l.drop (k + 1))
  rw [List.take_append_drop] at this; omega
 have h3 := tSizes_le l
 rw [TType.szLs_eq] at h3
 unfold szs at hz
 rw [i64w (by omega) (by omega)]; omega
def tDpk (l : List TType) (k : Nat) : Nat := tDepths (l.take k)
theorem tDpk_zero (l : List TType) : tDpk l 0 = 0 := rfl
theorem tDpk_full (x : TType) : tDpk x.fArgs x.fArgs.length = tDepth x := by cases x; simp [tDpk, tDepth]
theorem tDpk_step {l : List TType} {k : Nat} (h : k < l.length) : tDpk l (k + 1) = max (tDpk l k) (tDepth l[k] + 1) := by
 unfold tDpk
 rw [List.take_succ_eq_append_getElem h, tDepths_app]; simp [tDepths]
theorem TypeSize_a (x : TType) (hz : x.sz ≤ 134217728) (hc : ∀ y ∈ x.fArgs, ∀ h, CS cx.P 257 [.d (y.dd false)] h (.d (.lf (.int .i64 ((tSize y : Nat) : Int)))) h) (h : HP) : CS cx.P 257 [.d (x.dd false)] h (.d (.lf (.int .i64 ((tSize x : Nat) : Int)))) h := by
 have hz2 := x.sz_eq; unfold szs at hz2
 refine Ze Tryz.func257 rfl 19 ?_
 apply Zr; intros
 iterate 2 (refine Zo ?_; simp)
 exact Zx
 apply Zr; intros
 refine Zo ?_; simp
 exact Zx
 refine W.seq ?_
 apply Zr; intros
 iterate 4 (refine Zo ?_; simp)
 exact Zx
 refine W.block ?_
 refine W.loopk [7, 8] [] (fun k0 => [(9, .d (.lf (.int .i64 (k0 : Int)))), (3, .d (.lf (.int .i64 ((tSzk x.fArgs k0 : Nat) : Int))))]) (fun _ => []) x.fArgs.length rfl (by simp [tSzk_zero]) fun k0 hk0 T hT => ?_
 simp at hT; subst hT
 apply Zr; intros
 refine Zo ?_; simp
 exact Zx
 refine Zv rfl ?_ ?_ <;> intro hb0 <;> try simp at hb0
 have hx := ixNext hb0 (by omega)
 have hw := tSzk_step hb0 (by unfold szs; omega)
 refine W.skip ?_
 refine Zb ?_
 apply Zr; intros
 refine Zo ?_ (by simp [hb0, hx, hw] <;> omega); simp [hb0, hx, hw]
 refine Zm [12] ?_ (by simp [hb0, hx, hw] <;> omega); simp [hb0, hx, hw]
 iterate 2 (refine Zo ?_ (by simp [hb0, hx, hw] <;> omega); simp [hb0, hx, hw])
 exact Zx
 apply Zs; intros
 iterate 2 (refine Zo ?_ (by simp [hb0, hx, hw] <;> omega); simp [hb0, hx, hw])
 refine Zl [] rfl Tryz.func257 (hc x.fArgs[k0] (gm hb0) _) ?_ (by simp [hb0, hx, hw]); simp [hb0, hx, hw]
 iterate 2 (refine Zo ?_ (by simp [hb0, hx, hw] <;> omega); simp [hb0, hx, hw])
 exact Zx
 apply Zs; intros
 iterate 2 (refine Zo ?_ (by simp [hb0, hx, hw] <;> omega); simp [hb0, hx, hw])
 exact Zx
 refine ⟨hb0, Wz.to rfl rfl rfl ?_⟩
 simp
 have hkl : k0 = x.fArgs.length := by omega
 subst hkl
 refine W.exit ?_
 apply Zr; intros
 iterate 2 (refine Zo ?_; simp)
 exact Zx
 refine W.ret (Zq ?_)
 simp [Tryz.f257, tSzk_full]
theorem tDpk_i {l : List TType} {k : Nat} (h : k < l.length) : (if (tDpk l k : Int) < (tDepth l[k] : Int) + 1 then (tDepth l[k] : Int) + 1 else (tDpk l k : Int)) = (tDpk l (k + 1) : Int) := by
 rw [tDpk_step h]; split <;> omega
theorem tDpk_s {l : List TType} {k : Nat} (h : k < l.length) : (if 1 + (tDepth l[k] : Int) < (tDpk l k : Int) then (tDpk l k : Int) else 1 + (tDepth l[k] : Int)) = (tDpk l (k + 1) : Int) := by
 rw [tDpk_step h]; split <;> omega
theorem l1Max_d (x y : Int) (h : HP) : CS cx.P 142 [.d (.lf (.int .i64 (x))), .d (.lf (.int .i64 (y)))] h (.d (.lf (.int .i64 (if y < x then x else y)))) h := by
 refine Ze Tryz.func142 rfl 10 ?_
 apply Zr; intros
 refine Zo ?_; simp
 exact Zx
 refine W.seq ?_
 apply Zr; intros
 iterate 3 (refine Zo ?_; simp)
 exact Zx
 refine Zc rfl ?_ ?_ <;> intro hb0 <;> try simp at hb0
 apply Zr; intros
 iterate 2 (refine Zo ?_; simp)
 exact Zx
 refine W.ret (Zq ?_)
 simp [Tryz.f142]
 omega
 refine W.skip ?_
 apply Zr; intros
 iterate 2 (refine Zo ?_; simp)
 exact Zx
 refine W.ret (Zq ?_)
 simp [Tryz.f142]
 omega
theorem iDepth_a (x : TType) (hz : x.sz ≤ 134217728) (hc : ∀ y ∈ x.fArgs, ∀ h, CS cx.P 256 [.d (y.dd false)] h (.d (.lf (.int .i64 ((tDepth y : Nat) : Int)))) h) (h : HP) : CS cx.P 256 [.d (x.dd false)] h (.d (.lf (.int .i64 ((tDepth x : Nat) : Int)))) h := by
 have hz2 := x.sz_eq; unfold szs at hz2
 refine Ze Tryz.func256 rfl 20 ?_
 apply Zr; intros
 iterate 2 (refine Zo ?_; simp)
 exact Zx
 apply Zr; intros
 refine Zo ?_; simp
 exact Zx
 refine W.seq ?_
 apply Zr; intros
 iterate 4 (refine Zo ?_; simp)
 exact Zx
 refine W.block ?_
 refine W.loopk [7, 8] [] (fun k0 => [(9, .d (.lf (.int .i64 (k0 : Int)))), (3, .d (.lf (.int .i64 ((tDpk x.fArgs k0 : Nat) : Int))))]) (fun _ => []) x.fArgs.length rfl (by simp [tDpk_zero]) fun k0 hk0 T hT => ?_
 simp at hT; subst hT
 apply Zr; intros
 refine Zo ?_; simp
 exact Zx
 refine Zv rfl ?_ ?_ <;> intro hb0 <;> try simp at hb0
 have hx := ixNext hb0 (by omega)
 have hd := tDepth_le x.fArgs[k0]; have hs := szL_le TType.sz (gm hb0)
 have hv := i64w (n := (tDepth x.fArgs[k0] : Int) + 1) (by omega) (by omega)
 have hw := tDpk_i hb0
 refine W.skip ?_
 refine Zb ?_
 apply Zr; intros
 refine Zo ?_ (by simp [hb0, hx, hw, hv] <;> omega); simp [hb0, hx, hw, hv]
 refine Zm [12] ?_ (by simp [hb0, hx, hw, hv] <;> omega); simp [hb0, hx, hw, hv]
 iterate 2 (refine Zo ?_ (by simp [hb0, hx, hw, hv] <;> omega); simp [hb0, hx, hw, hv])
 exact Zx
 apply Zs; intros
 iterate 2 (refine Zo ?_ (by simp [hb0, hx, hw, hv] <;> omega); simp [hb0, hx, hw, hv])
 refine Zl [] rfl Tryz.func256 (hc x.fArgs[k0] (gm hb0) _) ?_ (by simp [hb0, hx, hw, hv]); simp [hb0, hx, hw, hv]
 iterate 3 (refine Zo ?_ (by simp [hb0, hx, hw, hv] <;> omega); simp [hb0, hx, hw, hv])
 exact Zx
 apply Zs; intros
 iterate 2 (refine Zo ?_ (by simp [hb0, hx, hw, hv] <;> omega); simp [hb0, hx, hw, hv])
 exact Zx
 refine ⟨hb0, Wz.to rfl rfl rfl ?_⟩
 simp
 have hkl : k0 = x.fArgs.length := by omega
 subst hkl
 refine W.exit ?_
 apply Zr; intros
 iterate 2 (refine Zo ?_; simp)
 exact Zx
 refine W.ret (Zq ?_)
 simp [Tryz.f256, tDpk_full]
theorem sDepth_a (x : TType) (hz : x.sz ≤ 134217728) (hc : ∀ y ∈ x.fArgs, ∀ h, CS cx.P 245 [.d (y.dd false)] h (.d (.lf (.int .i64 ((tDepth y : Nat) : Int)))) h) (h : HP) : CS cx.P 245 [.d (x.dd false)] h (.d (.lf (.int .i64 ((tDepth x : Nat) : Int)))) h := by
 have hz2 := x.sz_eq; unfold szs at hz2
 refine Ze Tryz.func245 rfl 22 ?_
 apply Zr; intros
 iterate 2 (refine Zo ?_; simp)
 exact Zx
 apply Zr; intros
 refine Zo ?_; simp
 exact Zx
 refine W.seq ?_
 apply Zr; intros
 refine Zo ?_; simp
 exact Zx
 refine W.block ?_
 refine W.loopk [1] [1] (fun k0 => [(4, .d (.lf (.int .i64 (k0 : Int)))), (3, .d (.lf (.int .i64 ((tDpk x.fArgs k0 : Nat) : Int))))]) (fun _ => []) x.fArgs.length rfl (by simp [tDpk_zero]) fun k0 hk0 T hT => ?_
 simp at hT; subst hT
 refine W.seq ?_
 apply Zr; intros
 iterate 5 (refine Zo ?_; simp)
 exact Zx
 refine Zc rfl ?_ ?_ <;> intro hb0 <;> try simp at hb0
 have hx := ixNext hb0 (by omega)
 have hd := tDepth_le x.fArgs[k0]; have hs := szL_le TType.sz (gm hb0)
 have hv := i64w (n := 1 + (tDepth x.fArgs[k0] : Int)) (by omega) (by omega)
 have hw := tDpk_s hb0
 refine W.skip ?_
 refine Zb ?_
 apply Zs; intros
 iterate 6 (refine Zo ?_ (by simp [hb0, hx, hw, hv] <;> omega); simp [hb0, hx, hw, hv])
 refine Zl [] rfl Tryz.func245 (hc x.fArgs[k0] (gm hb0) _) ?_ (by simp [hb0, hx, hw, hv]); simp [hb0, hx, hw, hv]
 refine Zo ?_ (by simp [hb0, hx, hw, hv] <;> omega); simp [hb0, hx, hw, hv]
 refine Zl [] rfl Tryz.func142 (l1Max_d (tDpk x.fArgs k0) (1 + (tDepth x.fArgs[k0] : Int)) _) ?_ (by simp [hb0, hx, hw, hv]); simp [hb0, hx, hw, hv]
 refine Zo ?_ (by simp [hb0, hx, hw, hv] <;> omega); simp [hb0, hx, hw, hv]
 exact Zx
 apply Zs; intros
 iterate 3 (refine Zo ?_ (by simp [hb0, hx, hw, hv] <;> omega); simp [hb0, hx, hw, hv])
 exact Zx
 refine ⟨hb0, Wz.to rfl rfl rfl ?_⟩
 simp
 have hkl : k0 = x.fArgs.length := by omega
 subst hkl
 refine W.exit ?_
 apply Zr; intros
 iterate 2 (refine Zo ?_; simp)
 exact Zx
 refine W.ret (Zq ?_)
 simp [Tryz.f245, tDpk_full]
def lft (n : Nat) (left : Int) : Int := if (n : Int) ≤ left then left - n else -1
theorem lft_lft {a b : Nat} {x : Int} (h : 0 ≤ lft a x) : lft b (lft a x) = lft (a + b) x := by
 unfold lft at h ⊢
 split at h
 ·rename_i h1; rw [if_pos h1]; split <;> split <;> omega
 ·omega
theorem lft_neg {a b : Nat} {x : Int} (h : ¬ 0 ≤ lft a x) (hb : a ≤ b) : lft b x = lft a x := by
 unfold lft at h ⊢
 split at h
 ·omega
 ·rename_i h1; rw [if_neg h1, if_neg (by omega)]
theorem tSzk_nx {l : List TType} {k : Nat} (h : k < l.length) : tSzk l (k + 1) = tSzk l k + tSize l[k] := by
 unfold tSzk
 rw [List.take_succ_eq_append_getElem h, tSizes_app]; simp [tSizes]; omega
theorem tSzk_le (x : TType) (k : Nat) : tSzk x.fArgs k ≤ tSize x := by
 rw [← tSzk_full]
 unfold tSzk
 have := tSizes_app (x.fArgs.take k) (x.fArgs.drop k)
 rw [List.take_append_drop] at this
 simp; omega
theorem lft_neg2 {x : TType} {k : Nat} {left : Int} (hk : k ≤ x.fArgs.length) (h : k < x.fArgs.length → lft (tSzk x.fArgs k) left < 0) : lft (tSize x) left = lft (tSzk x.fArgs k) left := by
 rcases Nat.lt_or_ge k x.fArgs.length with q | q
 ·exact lft_neg (by have := h q; omega) (tSzk_le x k)
 ·have : k = x.fArgs.length := by omega
  subst this; rw [tSzk_full]
theorem sLeft_a (x : TType) (left : Int) (h0 : 0 ≤ left) (h1 : left ≤ 134217728) (hz : x.sz ≤ 134217728) (hc : ∀ y ∈ x.fArgs, ∀ left, 0 ≤ left → left ≤ 134217728 → ∀ h, CS cx.P 244 [.d (y.dd false), .d (.lf (.int .i64 (left)))] h (.d (.lf (.int .i64 (lft (tSize y) left)))) h) (h : HP) : CS cx.P 244 [.d (x.dd false), .d (.lf (.int .i64 (left)))] h (.d (.lf (.int .i64 (lft (tSize x) left)))) h := by
 have hz2 := x.sz_eq; unfold szs at hz2
 have hw0 := i64w (n := left - 1) (by omega) (by omega)
 have hl0 : lft 1 left = left - 1 := by unfold lft; split <;> omega
 refine Ze Tryz.func244 rfl 27 ?_
 apply Zr; intros
 iterate 2 (refine Zo ?_ (by simp [hw0] <;> omega); simp [hw0])
 exact Zx
 apply Zr; intros
 iterate 3 (refine Zo ?_ (by simp [hw0] <;> omega); simp [hw0])
 exact Zx
 refine W.seq ?_
 apply Zr; intros
 refine Zo ?_ (by simp [hw0] <;> omega); simp [hw0]
 exact Zx
 refine W.block ?_
 refine W.loopk [2] [2] (fun k0 => [(5, .d (.lf (.int .i64 (k0 : Int)))), (1, .d (.lf (.int .i64 ((lft (tSzk x.fArgs k0) left)))))]) (fun _ => []) x.fArgs.length rfl (by simp [tSzk_zero, hl0]) fun k0 hk0 T hT => ?_
 simp at hT; subst hT
 refine W.seq ?_
 refine W.seq ?_
 refine W.regJ (D := _) [1, 2, 5] [2] [(16, .d (.lf (.bool (decide (k0 < x.fArgs.length) && decide (0 ≤ (lft (tSzk x.fArgs k0) left))))))] [] rfl (fun _ K hD hK => ?_) fun T hT => ?_
 iterate 6 (refine Zo ?_ (by simp [hw0] <;> omega); simp [hw0])
 refine WL.split 13 _ rfl (fun g13 => ?_) fun g13 => ?_ <;> try simp at g13
 simp [hw0]
 iterate 2 (refine Zg hD rfl rfl ?_ (by simp [hw0] <;> omega); simp [hw0])
 refine Zo ?_ (by simp [hw0] <;> omega); simp [hw0]
 refine WL.nil (hK _ (Wz.to rfl rfl rfl ?_))
 simp [g13] <;> first | omega | grind
 simp [hw0]
 iterate 2 (refine Zn hD rfl rfl ?_; simp [hw0])
 refine Zo ?_ (by simp [hw0] <;> omega); simp [hw0]
 refine WL.nil (hK _ (Wz.to rfl rfl rfl ?_))
 simp [g13] <;> first | omega | grind
 simp at hT; subst hT
 refine Zc rfl ?_ ?_ <;> intro hb0 <;> try simp at hb0
 have hk1 := hb0.1
 have hx := ixNext hk1 (by omega)
 refine W.skip ?_
 refine Zb ?_
 apply Zs; intros
 iterate 6 (refine Zo ?_ (by simp [hw0, hk1, hx] <;> omega); simp [hw0, hk1, hx])
 refine Zl [] rfl Tryz.func244 (hc x.fArgs[k0] (gm hk1) (lft (tSzk x.fArgs k0) left) hb0.2 (by unfold lft; split <;> omega) _) ?_ (by simp [hw0, hk1, hx]); simp [hw0, hk1, hx]
 refine Zo ?_ (by simp [hw0, hk1, hx] <;> omega); simp [hw0, hk1, hx]
 exact Zx
 apply Zs; intros
 iterate 3 (refine Zo ?_ (by simp [hw0, hk1, hx] <;> omega); simp [hw0, hk1, hx])
 exact Zx
 refine ⟨hk1, Wz.to rfl rfl rfl ?_⟩
 have hs := lft_lft (b := tSize x.fArgs[k0]) hb0.2
 rw [← tSzk_nx hk1] at hs
 simp [hs]
 have hres : lft (tSize x) left = (lft (tSzk x.fArgs k0) left) := lft_neg2 hk0 hb0
 refine W.exit ?_
 apply Zr; intros
 iterate 2 (refine Zo ?_ (by simp [hw0] <;> omega); simp [hw0])
 exact Zx
 refine W.ret (Zq ?_)
 simp [Tryz.f244, hres]
def hdOk (k : Int) (n : ByteArray) (m : Nat) : Bool := if k = 1 ∨ k = 4 then isNm n && decide (m = 0) else if k = 3 then isNm n && decide (m = 1) else if k = 2 then isNm n && decide (m ≤ 3) || base n && decide (m = 0) else false
mutual
def tForm : TType → Bool
 | ⟨k, n, l⟩ => hdOk k n l.length && tForms l
def tForms : List TType → Bool
 | [] => true
 | x :: l => tForm x && tForms l
end
def tFormk (l : List TType) (k : Nat) : Bool := tForms (l.take k)
theorem tForms_app : ∀ a b : List TType, tForms (a ++ b) = (tForms a && tForms b)
 | [], b => by simp [tForms]
 | x :: a, b => by simp only [List.cons_append, tForms, tForms_app a b, Bool.and_assoc]
theorem tFormk_zero (l : List TType) : tFormk l 0 = true := rfl
theorem tFormk_full (x : TType) : (hdOk x.fKind x.fName x.fArgs.length && tFormk x.fArgs x.fArgs.length) = tForm x := by cases x; simp [tFormk, tForm]
theorem tFormk_step {l : List TType} {k : Nat} (h : k < l.length) : tFormk l (k + 1) = (tFormk l k && tForm l[k]) := by
 unfold tFormk
 rw [List.take_succ_eq_append_getElem h, tForms_app]; simp [tForms]
theorem sForm_a (x : TType) (hz : x.sz ≤ 134217728) (hc : ∀ y ∈ x.fArgs, ∀ h, CS cx.P 246 [.d (y.dd false)] h (.d (.lf (.bool (tForm y)))) h) (h : HP) : CS cx.P 246 [.d (x.dd false)] h (.d (.lf (.bool (tForm x)))) h := by
 have hz2 := x.sz_eq; unfold szs at hz2
 refine Ze Tryz.func246 rfl 66 ?_
 apply Zr; intros
 iterate 2 (refine Zo ?_; simp)
 exact Zx
 apply Zr; intros
 iterate 2 (refine Zo ?_; simp)
 refine Zl [] rfl Tryz.func78 (sName_d x.fName (by omega) _) ?_; simp
 refine Zo ?_; simp
 exact Zx
 refine W.seq ?_
 apply Zr; intros
 iterate 2 (refine Zo ?_; simp)
 exact Zx
 refine W.join [1] [1] [(3, .d (.lf (.bool (hdOk x.fKind x.fName x.fArgs.length))))] [] ?_ fun T hT => ?_
 refine W.block ?_
 refine W.seq ?_
 apply Zr; intros
 iterate 2 (refine Zo ?_; simp)
 exact Zx
 refine Zc rfl ?_ ?_ <;> intro hb0 <;> try simp at hb0
 refine W.skip ?_
 refine W.condT (by simp [hb0]) trivial ?_
 refine W.regJ0 (D := _) rfl fun _ K hD hK => ?_
 iterate 2 (refine Zo ?_; simp)
 refine WL.split 14 _ rfl (fun g14 => ?_) fun g14 => ?_ <;> try simp at g14
 simp
 iterate 4 (refine Zg hD rfl rfl ?_; simp)
 iterate 2 (refine Zo ?_; simp)
 refine WL.nil (hK _ ?_)
 refine Wz.to rfl rfl rfl ?_
 simp [hdOk, hb0, g14] <;> first | omega | grind
 simp
 iterate 4 (refine Zn hD rfl rfl ?_; simp)
 iterate 2 (refine Zo ?_; simp)
 refine WL.nil (hK _ ?_)
 refine Wz.to rfl rfl rfl ?_
 simp [hdOk, hb0, g14] <;> first | omega | grind
 apply Zs; intros
 iterate 2 (refine Zo ?_; simp)
 exact Zx
 refine Zc rfl ?_ ?_ <;> intro hb1 <;> try simp at hb1
 refine W.regJ0 (D := _) rfl fun _ K hD hK => ?_
 iterate 2 (refine Zo ?_; simp)
 refine WL.split 14 _ rfl (fun g14 => ?_) fun g14 => ?_ <;> try simp at g14
 simp
 iterate 4 (refine Zg hD rfl rfl ?_; simp)
 iterate 2 (refine Zo ?_; simp)
 refine WL.nil (hK _ ?_)
 refine Wz.to rfl rfl rfl ?_
 simp [hdOk, hb0, hb1, g14] <;> first | omega | grind
 simp
 iterate 4 (refine Zn hD rfl rfl ?_; simp)
 iterate 2 (refine Zo ?_; simp)
 refine WL.nil (hK _ ?_)
 refine Wz.to rfl rfl rfl ?_
 simp [hdOk, hb0, hb1, g14] <;> first | omega | grind
 apply Zr; intros
 iterate 2 (refine Zo ?_; simp)
 exact Zx
 refine Zc rfl ?_ ?_ <;> intro hb2 <;> try simp at hb2
 refine W.regJ0 (D := _) rfl fun _ K hD hK => ?_
 iterate 2 (refine Zo ?_; simp)
 refine WL.split 23 _ rfl (fun g23 => ?_) fun g23 => ?_ <;> try simp at g23
 simp
 iterate 4 (refine Zg hD rfl rfl ?_; simp)
 iterate 2 (refine Zo ?_; simp)
 refine WL.nil (hK _ ?_)
 refine Wz.to rfl rfl rfl ?_
 simp [hdOk, hb0, hb1, hb2, g23] <;> first | omega | grind
 simp
 iterate 4 (refine Zn hD rfl rfl ?_; simp)
 iterate 2 (refine Zo ?_; simp)
 refine WL.nil (hK _ ?_)
 refine Wz.to rfl rfl rfl ?_
 simp [hdOk, hb0, hb1, hb2, g23] <;> first | omega | grind
 apply Zr; intros
 iterate 2 (refine Zo ?_; simp)
 exact Zx
 refine Zc rfl ?_ ?_ <;> intro hb3 <;> try simp at hb3
 refine W.regJ0 (D := _) rfl fun _ K hD hK => ?_
 iterate 2 (refine Zo ?_; simp)
 refine WL.split 32 _ rfl (fun g32 => ?_) fun g32 => ?_ <;> try simp at g32
 simp
 iterate 4 (refine Zg hD rfl rfl ?_; simp)
 iterate 2 (refine Zo ?_; simp)
 refine WL.split 38 _ rfl (fun g38 => ?_) fun g38 => ?_ <;> try simp at g38
 simp
 iterate 9 (refine Zn hD rfl rfl ?_; simp)
 iterate 2 (refine Zo ?_; simp)
 refine WL.nil (hK _ ?_)
 refine Wz.to rfl rfl rfl ?_
 simp [hdOk, hb0, hb1, hb2, hb3, g32, g38] <;> first | omega | grind
 simp
 iterate 2 (refine Zg hD rfl rfl ?_; simp)
 refine Zk hD rfl rfl [] rfl Tryz.func267 (l4Base_d x.fName _) ?_; simp
 refine Zg hD rfl rfl ?_; simp
 refine WL.split 42 _ rfl (fun g42 => ?_) fun g42 => ?_ <;> try simp at g42
 simp
 iterate 5 (refine Zg hD rfl rfl ?_; simp)
 iterate 2 (refine Zo ?_; simp)
 refine WL.nil (hK _ ?_)
 refine Wz.to rfl rfl rfl ?_
 simp [hdOk, hb0, hb1, hb2, hb3, g32, g38, g42] <;> first | omega | grind
 simp
 iterate 4 (refine Zn hD rfl rfl ?_; simp)
 refine Zg hD rfl rfl ?_; simp
 iterate 2 (refine Zo ?_; simp)
 refine WL.nil (hK _ ?_)
 refine Wz.to rfl rfl rfl ?_
 simp [hdOk, hb0, hb1, hb2, hb3, g32, g38, g42] <;> first | omega | grind
 simp
 iterate 4 (refine Zn hD rfl rfl ?_; simp)
 iterate 2 (refine Zo ?_; simp)
 iterate 2 (refine Zg hD rfl rfl ?_; simp)
 refine Zk hD rfl rfl [] rfl Tryz.func267 (l4Base_d x.fName _) ?_; simp
 refine Zg hD rfl rfl ?_; simp
 refine WL.split 42 _ rfl (fun g42 => ?_) fun g42 => ?_ <;> try simp at g42
 simp
 iterate 5 (refine Zg hD rfl rfl ?_; simp)
 iterate 2 (refine Zo ?_; simp)
 refine WL.nil (hK _ ?_)
 refine Wz.to rfl rfl rfl ?_
 simp [hdOk, hb0, hb1, hb2, hb3, g32, g42] <;> first | omega | grind
 simp
 iterate 4 (refine Zn hD rfl rfl ?_; simp)
 refine Zg hD rfl rfl ?_; simp
 iterate 2 (refine Zo ?_; simp)
 refine WL.nil (hK _ ?_)
 refine Wz.to rfl rfl rfl ?_
 simp [hdOk, hb0, hb1, hb2, hb3, g32, g42] <;> first | omega | grind
 have hres : tForm x = false := by rw [← tFormk_full]; simp [hdOk, hb0, hb1, hb2, hb3]
 apply Zr; intros
 refine Zo ?_; simp
 exact Zx
 refine W.ret (Zq ?_)
 simp [Tryz.f246, hres]
 simp at hT; subst hT
 refine W.seq ?_
 apply Zr; intros
 refine Zo ?_; simp
 exact Zx
 refine W.block ?_
 refine W.loopk [1] [1] (fun k0 => [(4, .d (.lf (.int .i64 (k0 : Int)))), (3, .d (.lf (.bool (hdOk x.fKind x.fName x.fArgs.length && tFormk x.fArgs k0))))]) (fun _ => []) x.fArgs.length rfl (by simp [tFormk_zero]) fun k0 hk0 T hT => ?_
 simp at hT; subst hT
 refine W.seq ?_
 apply Zr; intros
 iterate 5 (refine Zo ?_; simp)
 exact Zx
 refine Zc rfl ?_ ?_ <;> intro hb4 <;> try simp at hb4
 have hx := ixNext hb4 (by omega)
 refine W.skip ?_
 refine Zb ?_
 refine W.regJ (D := _) [1, 4] [1] [(3, .d (.lf (.bool (hdOk x.fKind x.fName x.fArgs.length && tFormk x.fArgs (k0 + 1)))))] [] rfl (fun _ K hD hK => ?_) fun T hT => ?_
 iterate 2 (refine Zo ?_ (by simp [hb4, hx] <;> omega); simp [hb4, hx])
 refine WL.split 57 _ rfl (fun g57 => ?_) fun g57 => ?_ <;> try simp at g57
 simp [hb4, hx]
 iterate 5 (refine Zg hD rfl rfl ?_ (by simp [hb4, hx] <;> omega); simp [hb4, hx])
 refine Zk hD rfl rfl [] rfl Tryz.func246 (hc x.fArgs[k0] (gm hb4) _) ?_ (by simp [hb4, hx]); simp [hb4, hx]
 iterate 2 (refine Zo ?_ (by simp [hb4, hx] <;> omega); simp [hb4, hx])
 refine WL.nil (hK _ (Wz.to rfl rfl rfl ?_))
 simp [tFormk_step hb4, g57] <;> grind
 simp [hb4, hx]
 iterate 6 (refine Zn hD rfl rfl ?_; simp [hb4, hx])
 iterate 2 (refine Zo ?_ (by simp [hb4, hx] <;> omega); simp [hb4, hx])
 refine WL.nil (hK _ (Wz.to rfl rfl rfl ?_))
 simp [tFormk_step hb4, g57] <;> grind
 simp at hT; subst hT
 apply Zs; intros
 iterate 3 (refine Zo ?_ (by simp [hb4, hx] <;> omega); simp [hb4, hx])
 exact Zx
 refine ⟨hb4, Wz.to rfl rfl rfl ?_⟩
 simp
 have hkl : k0 = x.fArgs.length := by omega
 subst hkl
 have hres := tFormk_full x
 refine W.exit ?_
 apply Zr; intros
 iterate 2 (refine Zo ?_; simp)
 exact Zx
 refine W.ret (Zq ?_)
 simp [Tryz.f246, hres]
theorem tForms_any : ∀ l : List TType, tForms l = !(l.any fun y => !tForm y)
 | [] => rfl
 | x :: l => by simp only [tForms, tForms_any l, List.any_cons, Bool.not_or, Bool.not_not]
theorem tForm_any (x : TType) : tForm x = (hdOk x.fKind x.fName x.fArgs.length && !(x.fArgs.any fun y => !tForm y)) := by
 cases x; simp only [tForm, tForms_any]
theorem formClo_d (y : TType) (hy : ∀ h, CS cx.P 255 [.d (y.dd false)] h (.d (.lf (.bool (tForm y)))) h) (h : HP) : CS cx.P 276 [.d (y.dd false)] h (.d (.lf (.bool (!tForm y)))) h := by
 refine Ze Tryz.func276 rfl 6 ?_
 apply Zr; intros
 iterate 2 (refine Zo ?_; simp)
 exact Zx
 apply Zr; intros
 refine Zo ?_; simp
 refine Zl [] rfl Tryz.func255 (hy _) ?_; simp
 iterate 2 (refine Zo ?_; simp)
 exact Zx
 refine W.ret (Zq ?_)
 simp [Tryz.f276]
theorem iForm_a (x : TType) (hz : x.sz ≤ 134217728) (hc : ∀ y ∈ x.fArgs, ∀ h, CS cx.P 255 [.d (y.dd false)] h (.d (.lf (.bool (tForm y)))) h) (h : HP) : CS cx.P 255 [.d (x.dd false)] h (.d (.lf (.bool (tForm x)))) h := by
 have hz2 := x.sz_eq; unfold szs at hz2
 refine Ze Tryz.func255 rfl 58 ?_
 apply Zr; intros
 iterate 2 (refine Zo ?_; simp)
 exact Zx
 apply Zr; intros
 refine Zo ?_; simp
 exact Zx
 refine W.seq ?_
 apply Zr; intros
 iterate 2 (refine Zo ?_; simp)
 exact Zx
 refine W.join [1] [1] [(3, .d (.lf (.bool (hdOk x.fKind x.fName x.fArgs.length))))] [] ?_ fun T hT => ?_
 refine W.block ?_
 refine W.seq ?_
 apply Zr; intros
 iterate 2 (refine Zo ?_; simp)
 exact Zx
 refine Zc rfl ?_ ?_ <;> intro hb0 <;> try simp at hb0
 refine W.skip ?_
 refine W.condT (by simp [hb0]) trivial ?_
 refine W.regJ0 (D := _) rfl fun _ K hD hK => ?_
 iterate 2 (refine Zo ?_; simp)
 refine Zl [] rfl Tryz.func101 (iName_d x.fName (by omega) _) ?_; simp
 refine Zo ?_; simp
 refine WL.split 12 _ rfl (fun g12 => ?_) fun g12 => ?_ <;> try simp at g12
 simp
 iterate 4 (refine Zg hD rfl rfl ?_; simp)
 iterate 2 (refine Zo ?_; simp)
 refine WL.nil (hK _ ?_)
 refine Wz.to rfl rfl rfl ?_
 simp [hdOk, hb0, g12] <;> first | omega | grind
 simp
 iterate 4 (refine Zn hD rfl rfl ?_; simp)
 iterate 2 (refine Zo ?_; simp)
 refine WL.nil (hK _ ?_)
 refine Wz.to rfl rfl rfl ?_
 simp [hdOk, hb0, g12] <;> first | omega | grind
 apply Zs; intros
 iterate 2 (refine Zo ?_; simp)
 exact Zx
 refine Zc rfl ?_ ?_ <;> intro hb1 <;> try simp at hb1
 refine W.regJ0 (D := _) rfl fun _ K hD hK => ?_
 iterate 2 (refine Zo ?_; simp)
 refine Zl [] rfl Tryz.func101 (iName_d x.fName (by omega) _) ?_; simp
 refine Zo ?_; simp
 refine WL.split 12 _ rfl (fun g12 => ?_) fun g12 => ?_ <;> try simp at g12
 simp
 iterate 4 (refine Zg hD rfl rfl ?_; simp)
 iterate 2 (refine Zo ?_; simp)
 refine WL.nil (hK _ ?_)
 refine Wz.to rfl rfl rfl ?_
 simp [hdOk, hb0, hb1, g12] <;> first | omega | grind
 simp
 iterate 4 (refine Zn hD rfl rfl ?_; simp)
 iterate 2 (refine Zo ?_; simp)
 refine WL.nil (hK _ ?_)
 refine Wz.to rfl rfl rfl ?_
 simp [hdOk, hb0, hb1, g12] <;> first | omega | grind
 apply Zr; intros
 iterate 2 (refine Zo ?_; simp)
 exact Zx
 refine Zc rfl ?_ ?_ <;> intro hb2 <;> try simp at hb2
 refine W.regJ0 (D := _) rfl fun _ K hD hK => ?_
 iterate 2 (refine Zo ?_; simp)
 refine Zl [] rfl Tryz.func101 (iName_d x.fName (by omega) _) ?_; simp
 refine Zo ?_; simp
 refine WL.split 23 _ rfl (fun g23 => ?_) fun g23 => ?_ <;> try simp at g23
 simp
 iterate 4 (refine Zg hD rfl rfl ?_; simp)
 iterate 2 (refine Zo ?_; simp)
 refine WL.nil (hK _ ?_)
 refine Wz.to rfl rfl rfl ?_
 simp [hdOk, hb0, hb1, hb2, g23] <;> first | omega | grind
 simp
 iterate 4 (refine Zn hD rfl rfl ?_; simp)
 iterate 2 (refine Zo ?_; simp)
 refine WL.nil (hK _ ?_)
 refine Wz.to rfl rfl rfl ?_
 simp [hdOk, hb0, hb1, hb2, g23] <;> first | omega | grind
 apply Zr; intros
 iterate 2 (refine Zo ?_; simp)
 exact Zx
 refine Zc rfl ?_ ?_ <;> intro hb3 <;> try simp at hb3
 refine W.regJ0 (D := _) rfl fun _ K hD hK => ?_
 iterate 2 (refine Zo ?_; simp)
 refine Zl [] rfl Tryz.func101 (iName_d x.fName (by omega) _) ?_; simp
 refine Zo ?_; simp
 refine WL.split 34 _ rfl (fun g34 => ?_) fun g34 => ?_ <;> try simp at g34
 simp
 iterate 4 (refine Zg hD rfl rfl ?_; simp)
 iterate 2 (refine Zo ?_; simp)
 refine WL.split 40 _ rfl (fun g40 => ?_) fun g40 => ?_ <;> try simp at g40
 simp
 iterate 9 (refine Zn hD rfl rfl ?_; simp)
 iterate 2 (refine Zo ?_; simp)
 refine WL.nil (hK _ ?_)
 refine Wz.to rfl rfl rfl ?_
 simp [hdOk, hb0, hb1, hb2, hb3, g34, g40] <;> first | omega | grind
 simp
 iterate 2 (refine Zg hD rfl rfl ?_; simp)
 refine Zk hD rfl rfl [] rfl Tryz.func275 (isBuiltIn_d x.fName _) ?_; simp
 refine Zg hD rfl rfl ?_; simp
 refine WL.split 44 _ rfl (fun g44 => ?_) fun g44 => ?_ <;> try simp at g44
 simp
 iterate 5 (refine Zg hD rfl rfl ?_; simp)
 iterate 2 (refine Zo ?_; simp)
 refine WL.nil (hK _ ?_)
 refine Wz.to rfl rfl rfl ?_
 simp [hdOk, hb0, hb1, hb2, hb3, g34, g40, g44] <;> first | omega | grind
 simp
 iterate 4 (refine Zn hD rfl rfl ?_; simp)
 refine Zg hD rfl rfl ?_; simp
 iterate 2 (refine Zo ?_; simp)
 refine WL.nil (hK _ ?_)
 refine Wz.to rfl rfl rfl ?_
 simp [hdOk, hb0, hb1, hb2, hb3, g34, g40, g44] <;> first | omega | grind
 simp
 iterate 4 (refine Zn hD rfl rfl ?_; simp)
 iterate 2 (refine Zo ?_; simp)
 iterate 2 (refine Zg hD rfl rfl ?_; simp)
 refine Zk hD rfl rfl [] rfl Tryz.func275 (isBuiltIn_d x.fName _) ?_; simp
 refine Zg hD rfl rfl ?_; simp
 refine WL.split 44 _ rfl (fun g44 => ?_) fun g44 => ?_ <;> try simp at g44
 simp
 iterate 5 (refine Zg hD rfl rfl ?_; simp)
 iterate 2 (refine Zo ?_; simp)
 refine WL.nil (hK _ ?_)
 refine Wz.to rfl rfl rfl ?_
 simp [hdOk, hb0, hb1, hb2, hb3, g34, g44] <;> first | omega | grind
 simp
 iterate 4 (refine Zn hD rfl rfl ?_; simp)
 refine Zg hD rfl rfl ?_; simp
 iterate 2 (refine Zo ?_; simp)
 refine WL.nil (hK _ ?_)
 refine Wz.to rfl rfl rfl ?_
 simp [hdOk, hb0, hb1, hb2, hb3, g34, g44] <;> first | omega | grind
 refine W.skip ?_
 refine Wz.to rfl rfl rfl ?_
 simp [hdOk, hb0, hb1, hb2, hb3] <;> first | omega | grind
 simp at hT; subst hT
 refine W.seq ?_
 refine W.regJ0 (D := _) rfl fun _ K hD hK => ?_
 iterate 2 (refine Zo ?_; simp)
 refine WL.split 52 _ rfl (fun g52 => ?_) fun g52 => ?_ <;> try simp at g52
 simp
 iterate 2 (refine Zg hD rfl rfl ?_; simp)
 refine Zk hD rfl rfl [] rfl Tryz.func217 (ContainsFuncType_d x.fArgs (by omega) 276 Tryz.f276 _ ⟨Tryz.func276, rfl, rfl⟩ (fun y => !tForm y) (fun y hy h => formClo_d y (hc y hy) h) _) ?_; simp
 refine Zg hD rfl rfl ?_; simp
 iterate 2 (refine Zo ?_; simp)
 refine WL.nil (hK _ ?_)
 refine W.ret (Zq ?_)
 have hres := tForm_any x
 simp [Tryz.f255, hres, g52]
 simp
 iterate 4 (refine Zn hD rfl rfl ?_; simp)
 iterate 2 (refine Zo ?_; simp)
 refine WL.nil (hK _ ?_)
 refine W.ret (Zq ?_)
 have hres := tForm_any x
 simp [Tryz.f255, hres, g52]
end Go.Proofs.YtkadbimpaplnmaaGreatDoor
