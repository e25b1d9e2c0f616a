/- Walks by the Den rules. No condition but sizes. -/
import Derived.Test.YtdooklofebdknaaGreatM20
import Derived.Test.YtdooklofebdknaaGreatM22
namespace Go.Proofs.YtdooklofebdknaaGreat
open Go.RowKit
set_option maxRecDepth 10000
set_option linter.unusedSimpArgs false
set_option maxHeartbeats 4000000
def lft (n : Nat) (left : Int) : Int := if (n : Int) ≤ left then left - n else -1
theorem lft_lft {a b : Nat} {x : Int} (h : 0 ≤ lft a x) : lft b (lft a x) = lft (a + b) x := by
 unfold lft at h ⊢
 split at h
 ·rename_i h1; rw [if_pos h1]; split <;> split <;> omega
 ·omega
theorem lft_neg {a b : Nat} {x : Int} (h : ¬ 0 ≤ lft a x) (hb : a ≤ b) : lft b x = lft a x := by
 unfold lft at h ⊢
 split at h
 ·omega
 ·rename_i h1; rw [if_neg h1, if_neg (by omega)]
theorem tSzk_nx {l : List TType} {k : Nat} (h : k < l.length) : tSzk l (k + 1) = tSzk l k + tSize l[k] := by
 unfold tSzk
 rw [List.take_succ_eq_append_getElem h, tSizes_app]; simp [tSizes]; omega
theorem tSzk_le (x : TType) (k : Nat) : tSzk x.fArgs k ≤ tSize x := by
 rw [← tSzk_full]
 unfold tSzk
 have := tSizes_app (x.fArgs.take k) (x.fArgs.drop k)
 rw [List.take_append_drop] at this
 simp; omega
theorem lft_neg2 {x : TType} {k : Nat} {left : Int} (hk : k ≤ x.fArgs.length) (h : k < x.fArgs.length → lft (tSzk x.fArgs k) left < 0) : lft (tSize x) left = lft (tSzk x.fArgs k) left := by
 rcases Nat.lt_or_ge k x.fArgs.length with q | q
 ·exact lft_neg (by have := h q; omega) (tSzk_le x k)
 ·have : k = x.fArgs.length := by omega
  subst this; rw [tSzk_full]
theorem sLeft_a (x : TType) (left : Int) (h0 : 0 ≤ left) (h1 : left ≤ 134217728) (hz : x.sz ≤ 134217728) (hc : ∀ y ∈ x.fArgs, ∀ left, 0 ≤ left → left ≤ 134217728 → ∀ h, CS cx.P 369 [.d (y.dd false), .d (.lf (.int .i64 (left)))] h (.d (.lf (.int .i64 (lft (tSize y) left)))) h) (h : HP) : CS cx.P 369 [.d (x.dd false), .d (.lf (.int .i64 (left)))] h (.d (.lf (.int .i64 (lft (tSize x) left)))) h := by
 have hz2 := x.sz_eq; unfold szs at hz2
 have hw0 := i64w (n := left - 1) (by omega) (by omega)
 have hl0 : lft 1 left = left - 1 := by unfold lft; split <;> omega
 refine Ze Tryz.func369 rfl 27 ?_
 apply Zr; intros
 iterate 2 (refine Zo ?_ (by simp [hw0] <;> omega); simp [hw0])
 exact Zx
 apply Zr; intros
 iterate 3 (refine Zo ?_ (by simp [hw0] <;> omega); simp [hw0])
 exact Zx
 refine W.seq ?_
 apply Zr; intros
 refine Zo ?_ (by simp [hw0] <;> omega); simp [hw0]
 exact Zx
 refine W.block ?_
 refine W.loopk [2] [2] (fun k0 => [(5, .d (.lf (.int .i64 (k0 : Int)))), (1, .d (.lf (.int .i64 ((lft (tSzk x.fArgs k0) left)))))]) (fun _ => []) x.fArgs.length rfl (by simp [tSzk_zero, hl0]) fun k0 hk0 T hT => ?_
 simp at hT; subst hT
 refine W.seq ?_
 refine W.seq ?_
 refine W.regJ (D := _) [1, 2, 5] [2] [(16, .d (.lf (.bool (decide (k0 < x.fArgs.length) && decide (0 ≤ (lft (tSzk x.fArgs k0) left))))))] [] rfl (fun _ K hD hK => ?_) fun T hT => ?_
 iterate 6 (refine Zo ?_ (by simp [hw0] <;> omega); simp [hw0])
 refine WL.split 13 _ rfl (fun g13 => ?_) fun g13 => ?_ <;> try simp at g13
 simp [hw0]
 iterate 2 (refine Zg hD rfl rfl ?_ (by simp [hw0] <;> omega); simp [hw0])
 refine Zo ?_ (by simp [hw0] <;> omega); simp [hw0]
 refine WL.nil (hK _ (Wz.to rfl rfl rfl ?_))
 simp [g13] <;> first | omega | grind
 simp [hw0]
 iterate 2 (refine Zn hD rfl rfl ?_; simp [hw0])
 refine Zo ?_ (by simp [hw0] <;> omega); simp [hw0]
 refine WL.nil (hK _ (Wz.to rfl rfl rfl ?_))
 simp [g13] <;> first | omega | grind
 simp at hT; subst hT
 refine Zc rfl ?_ ?_ <;> intro hb0 <;> try simp at hb0
 have hk1 := hb0.1
 have hx := ixNext hk1 (by omega)
 refine W.skip ?_
 refine Zb ?_
 apply Zs; intros
 iterate 6 (refine Zo ?_ (by simp [hw0, hk1, hx] <;> omega); simp [hw0, hk1, hx])
 refine Zl [] rfl Tryz.func369 (hc x.fArgs[k0] (gm hk1) (lft (tSzk x.fArgs k0) left) hb0.2 (by unfold lft; split <;> omega) _) ?_ (by simp [hw0, hk1, hx]); simp [hw0, hk1, hx]
 refine Zo ?_ (by simp [hw0, hk1, hx] <;> omega); simp [hw0, hk1, hx]
 exact Zx
 apply Zs; intros
 iterate 3 (refine Zo ?_ (by simp [hw0, hk1, hx] <;> omega); simp [hw0, hk1, hx])
 exact Zx
 refine ⟨hk1, Wz.to rfl rfl rfl ?_⟩
 have hs := lft_lft (b := tSize x.fArgs[k0]) hb0.2
 rw [← tSzk_nx hk1] at hs
 simp [hs]
 have hres : lft (tSize x) left = (lft (tSzk x.fArgs k0) left) := lft_neg2 hk0 hb0
 refine W.exit ?_
 apply Zr; intros
 iterate 2 (refine Zo ?_ (by simp [hw0] <;> omega); simp [hw0])
 exact Zx
 refine W.ret (Zq ?_)
 simp [Tryz.f369, hres]
def hdOk (k : Int) (n : ByteArray) (m : Nat) : Bool := if k = 1 ∨ k = 4 then isNm n && decide (m = 0) else if k = 3 then isNm n && decide (m = 1) else if k = 2 then isNm n && decide (m ≤ 3) || base n && decide (m = 0) else false
mutual
def tForm : TType → Bool
 | ⟨k, n, l⟩ => hdOk k n l.length && tForms l
def tForms : List TType → Bool
 | [] => true
 | x :: l => tForm x && tForms l
end
def tFormk (l : List TType) (k : Nat) : Bool := tForms (l.take k)
theorem tForms_app : ∀ a b : List TType, tForms (a ++ b) = (tForms a && tForms b)
 | [], b => by simp [tForms]
 | x :: a, b => by simp only [List.cons_append, tForms, tForms_app a b, Bool.and_assoc]
theorem tFormk_zero (l : List TType) : tFormk l 0 = true := rfl
theorem tFormk_full (x : TType) : (hdOk x.fKind x.fName x.fArgs.length && tFormk x.fArgs x.fArgs.length) = tForm x := by cases x; simp [tFormk, tForm]
theorem tFormk_step {l : List TType} {k : Nat} (h : k < l.length) : tFormk l (k + 1) = (tFormk l k && tForm l[k]) := by
 unfold tFormk
 rw [List.take_succ_eq_append_getElem h, tForms_app]; simp [tForms]
theorem sForm_a (x : TType) (hz : x.sz ≤ 134217728) (hc : ∀ y ∈ x.fArgs, ∀ h, CS cx.P 371 [.d (y.dd false)] h (.d (.lf (.bool (tForm y)))) h) (h : HP) : CS cx.P 371 [.d (x.dd false)] h (.d (.lf (.bool (tForm x)))) h := by
 have hz2 := x.sz_eq; unfold szs at hz2
 refine Ze Tryz.func371 rfl 66 ?_
 apply Zr; intros
 iterate 2 (refine Zo ?_; simp)
 exact Zx
 apply Zr; intros
 iterate 2 (refine Zo ?_; simp)
 refine Zl [] rfl Tryz.func90 (sName_d x.fName (by omega) _) ?_; simp
 refine Zo ?_; simp
 exact Zx
 refine W.seq ?_
 apply Zr; intros
 iterate 2 (refine Zo ?_; simp)
 exact Zx
 refine W.join [1] [1] [(3, .d (.lf (.bool (hdOk x.fKind x.fName x.fArgs.length))))] [] ?_ fun T hT => ?_
 refine W.block ?_
 refine W.seq ?_
 apply Zr; intros
 iterate 2 (refine Zo ?_; simp)
 exact Zx
 refine Zc rfl ?_ ?_ <;> intro hb0 <;> try simp at hb0
 refine W.skip ?_
 refine W.condT (by simp [hb0]) trivial ?_
 refine W.regJ0 (D := _) rfl fun _ K hD hK => ?_
 iterate 2 (refine Zo ?_; simp)
 refine WL.split 14 _ rfl (fun g14 => ?_) fun g14 => ?_ <;> try simp at g14
 simp
 iterate 4 (refine Zg hD rfl rfl ?_; simp)
 iterate 2 (refine Zo ?_; simp)
 refine WL.nil (hK _ ?_)
 refine Wz.to rfl rfl rfl ?_
 simp [hdOk, hb0, g14] <;> first | omega | grind
 simp
 iterate 4 (refine Zn hD rfl rfl ?_; simp)
 iterate 2 (refine Zo ?_; simp)
 refine WL.nil (hK _ ?_)
 refine Wz.to rfl rfl rfl ?_
 simp [hdOk, hb0, g14] <;> first | omega | grind
 apply Zs; intros
 iterate 2 (refine Zo ?_; simp)
 exact Zx
 refine Zc rfl ?_ ?_ <;> intro hb1 <;> try simp at hb1
 refine W.regJ0 (D := _) rfl fun _ K hD hK => ?_
 iterate 2 (refine Zo ?_; simp)
 refine WL.split 14 _ rfl (fun g14 => ?_) fun g14 => ?_ <;> try simp at g14
 simp
 iterate 4 (refine Zg hD rfl rfl ?_; simp)
 iterate 2 (refine Zo ?_; simp)
 refine WL.nil (hK _ ?_)
 refine Wz.to rfl rfl rfl ?_
 simp [hdOk, hb0, hb1, g14] <;> first | omega | grind
 simp
 iterate 4 (refine Zn hD rfl rfl ?_; simp)
 iterate 2 (refine Zo ?_; simp)
 refine WL.nil (hK _ ?_)
 refine Wz.to rfl rfl rfl ?_
 simp [hdOk, hb0, hb1, g14] <;> first | omega | grind
 apply Zr; intros
 iterate 2 (refine Zo ?_; simp)
 exact Zx
 refine Zc rfl ?_ ?_ <;> intro hb2 <;> try simp at hb2
 refine W.regJ0 (D := _) rfl fun _ K hD hK => ?_
 iterate 2 (refine Zo ?_; simp)
 refine WL.split 23 _ rfl (fun g23 => ?_) fun g23 => ?_ <;> try simp at g23
 simp
 iterate 4 (refine Zg hD rfl rfl ?_; simp)
 iterate 2 (refine Zo ?_; simp)
 refine WL.nil (hK _ ?_)
 refine Wz.to rfl rfl rfl ?_
 simp [hdOk, hb0, hb1, hb2, g23] <;> first | omega | grind
 simp
 iterate 4 (refine Zn hD rfl rfl ?_; simp)
 iterate 2 (refine Zo ?_; simp)
 refine WL.nil (hK _ ?_)
 refine Wz.to rfl rfl rfl ?_
 simp [hdOk, hb0, hb1, hb2, g23] <;> first | omega | grind
 apply Zr; intros
 iterate 2 (refine Zo ?_; simp)
 exact Zx
 refine Zc rfl ?_ ?_ <;> intro hb3 <;> try simp at hb3
 refine W.regJ0 (D := _) rfl fun _ K hD hK => ?_
 iterate 2 (refine Zo ?_; simp)
 refine WL.split 32 _ rfl (fun g32 => ?_) fun g32 => ?_ <;> try simp at g32
 simp
 iterate 4 (refine Zg hD rfl rfl ?_; simp)
 iterate 2 (refine Zo ?_; simp)
 refine WL.split 38 _ rfl (fun g38 => ?_) fun g38 => ?_ <;> try simp at g38
 simp
 iterate 9 (refine Zn hD rfl rfl ?_; simp)
 iterate 2 (refine Zo ?_; simp)
 refine WL.nil (hK _ ?_)
 refine Wz.to rfl rfl rfl ?_
 simp [hdOk, hb0, hb1, hb2, hb3, g32, g38] <;> first | omega | grind
 simp
 iterate 2 (refine Zg hD rfl rfl ?_; simp)
 refine Zk hD rfl rfl [] rfl Tryz.func239 (l4Base_d x.fName _) ?_; simp
 refine Zg hD rfl rfl ?_; simp
 refine WL.split 42 _ rfl (fun g42 => ?_) fun g42 => ?_ <;> try simp at g42
 simp
 iterate 5 (refine Zg hD rfl rfl ?_; simp)
 iterate 2 (refine Zo ?_; simp)
 refine WL.nil (hK _ ?_)
 refine Wz.to rfl rfl rfl ?_
 simp [hdOk, hb0, hb1, hb2, hb3, g32, g38, g42] <;> first | omega | grind
 simp
 iterate 4 (refine Zn hD rfl rfl ?_; simp)
 refine Zg hD rfl rfl ?_; simp
 iterate 2 (refine Zo ?_; simp)
 refine WL.nil (hK _ ?_)
 refine Wz.to rfl rfl rfl ?_
 simp [hdOk, hb0, hb1, hb2, hb3, g32, g38, g42] <;> first | omega | grind
 simp
 iterate 4 (refine Zn hD rfl rfl ?_; simp)
 iterate 2 (refine Zo ?_; simp)
 iterate 2 (refine Zg hD rfl rfl ?_; simp)
 refine Zk hD rfl rfl [] rfl Tryz.func239 (l4Base_d x.fName _) ?_; simp
 refine Zg hD rfl rfl ?_; simp
 refine WL.split 42 _ rfl (fun g42 => ?_) fun g42 => ?_ <;> try simp at g42
 simp
 iterate 5 (refine Zg hD rfl rfl ?_; simp)
 iterate 2 (refine Zo ?_; simp)
 refine WL.nil (hK _ ?_)
 refine Wz.to rfl rfl rfl ?_
 simp [hdOk, hb0, hb1, hb2, hb3, g32, g42] <;> first | omega | grind
 simp
 iterate 4 (refine Zn hD rfl rfl ?_; simp)
 refine Zg hD rfl rfl ?_; simp
 iterate 2 (refine Zo ?_; simp)
 refine WL.nil (hK _ ?_)
 refine Wz.to rfl rfl rfl ?_
 simp [hdOk, hb0, hb1, hb2, hb3, g32, g42] <;> first | omega | grind
 have hres : tForm x = false := by rw [← tFormk_full]; simp [hdOk, hb0, hb1, hb2, hb3]
 apply Zr; intros
 refine Zo ?_; simp
 exact Zx
 refine W.ret (Zq ?_)
 simp [Tryz.f371, hres]
 simp at hT; subst hT
 refine W.seq ?_
 apply Zr; intros
 refine Zo ?_; simp
 exact Zx
 refine W.block ?_
 refine W.loopk [1] [1] (fun k0 => [(4, .d (.lf (.int .i64 (k0 : Int)))), (3, .d (.lf (.bool (hdOk x.fKind x.fName x.fArgs.length && tFormk x.fArgs k0))))]) (fun _ => []) x.fArgs.length rfl (by simp [tFormk_zero]) fun k0 hk0 T hT => ?_
 simp at hT; subst hT
 refine W.seq ?_
 apply Zr; intros
 iterate 5 (refine Zo ?_; simp)
 exact Zx
 refine Zc rfl ?_ ?_ <;> intro hb4 <;> try simp at hb4
 have hx := ixNext hb4 (by omega)
 refine W.skip ?_
 refine Zb ?_
 refine W.regJ (D := _) [1, 4] [1] [(3, .d (.lf (.bool (hdOk x.fKind x.fName x.fArgs.length && tFormk x.fArgs (k0 + 1)))))] [] rfl (fun _ K hD hK => ?_) fun T hT => ?_
 iterate 2 (refine Zo ?_ (by simp [hb4, hx] <;> omega); simp [hb4, hx])
 refine WL.split 57 _ rfl (fun g57 => ?_) fun g57 => ?_ <;> try simp at g57
 simp [hb4, hx]
 iterate 5 (refine Zg hD rfl rfl ?_ (by simp [hb4, hx] <;> omega); simp [hb4, hx])
 refine Zk hD rfl rfl [] rfl Tryz.func371 (hc x.fArgs[k0] (gm hb4) _) ?_ (by simp [hb4, hx]); simp [hb4, hx]
 iterate 2 (refine Zo ?_ (by simp [hb4, hx] <;> omega); simp [hb4, hx])
 refine WL.nil (hK _ (Wz.to rfl rfl rfl ?_))
 simp [tFormk_step hb4, g57] <;> grind
 simp [hb4, hx]
 iterate 6 (refine Zn hD rfl rfl ?_; simp [hb4, hx])
 iterate 2 (refine Zo ?_ (by simp [hb4, hx] <;> omega); simp [hb4, hx])
 refine WL.nil (hK _ (Wz.to rfl rfl rfl ?_))
 simp [tFormk_step hb4, g57] <;> grind
 simp at hT; subst hT
 apply Zs; intros
 iterate 3 (refine Zo ?_ (by simp [hb4, hx] <;> omega); simp [hb4, hx])
 exact Zx
 refine ⟨hb4, Wz.to rfl rfl rfl ?_⟩
 simp
 have hkl : k0 = x.fArgs.length := by omega
 subst hkl
 have hres := tFormk_full x
 refine W.exit ?_
 apply Zr; intros
 iterate 2 (refine Zo ?_; simp)
 exact Zx
 refine W.ret (Zq ?_)
 simp [Tryz.f371, hres]
theorem tForms_any : ∀ l : List TType, tForms l = !(l.any fun y => !tForm y)
 | [] => rfl
 | x :: l => by simp only [tForms, tForms_any l, List.any_cons, Bool.not_or, Bool.not_not]
theorem tForm_any (x : TType) : tForm x = (hdOk x.fKind x.fName x.fArgs.length && !(x.fArgs.any fun y => !tForm y)) := by
 cases x; simp only [tForm, tForms_any]
theorem formClo_d (y : TType) (hy : ∀ h, CS cx.P 322 [.d (y.dd false)] h (.d (.lf (.bool (tForm y)))) h) (h : HP) : CS cx.P 380 [.d (y.dd false)] h (.d (.lf (.bool (!tForm y)))) h := by
 refine Ze Tryz.func380 rfl 6 ?_
 apply Zr; intros
 iterate 2 (refine Zo ?_; simp)
 exact Zx
 apply Zr; intros
 refine Zo ?_; simp
 refine Zl [] rfl Tryz.func322 (hy _) ?_; simp
 iterate 2 (refine Zo ?_; simp)
 exact Zx
 refine W.ret (Zq ?_)
 simp [Tryz.f380]
theorem iForm_a (x : TType) (hz : x.sz ≤ 134217728) (hc : ∀ y ∈ x.fArgs, ∀ h, CS cx.P 322 [.d (y.dd false)] h (.d (.lf (.bool (tForm y)))) h) (h : HP) : CS cx.P 322 [.d (x.dd false)] h (.d (.lf (.bool (tForm x)))) h := by
 have hz2 := x.sz_eq; unfold szs at hz2
 refine Ze Tryz.func322 rfl 58 ?_
 apply Zr; intros
 iterate 2 (refine Zo ?_; simp)
 exact Zx
 apply Zr; intros
 refine Zo ?_; simp
 exact Zx
 refine W.seq ?_
 apply Zr; intros
 iterate 2 (refine Zo ?_; simp)
 exact Zx
 refine W.join [1] [1] [(3, .d (.lf (.bool (hdOk x.fKind x.fName x.fArgs.length))))] [] ?_ fun T hT => ?_
 refine W.block ?_
 refine W.seq ?_
 apply Zr; intros
 iterate 2 (refine Zo ?_; simp)
 exact Zx
 refine Zc rfl ?_ ?_ <;> intro hb0 <;> try simp at hb0
 refine W.skip ?_
 refine W.condT (by simp [hb0]) trivial ?_
 refine W.regJ0 (D := _) rfl fun _ K hD hK => ?_
 iterate 2 (refine Zo ?_; simp)
 refine Zl [] rfl Tryz.func106 (iName_d x.fName (by omega) _) ?_; simp
 refine Zo ?_; simp
 refine WL.split 12 _ rfl (fun g12 => ?_) fun g12 => ?_ <;> try simp at g12
 simp
 iterate 4 (refine Zg hD rfl rfl ?_; simp)
 iterate 2 (refine Zo ?_; simp)
 refine WL.nil (hK _ ?_)
 refine Wz.to rfl rfl rfl ?_
 simp [hdOk, hb0, g12] <;> first | omega | grind
 simp
 iterate 4 (refine Zn hD rfl rfl ?_; simp)
 iterate 2 (refine Zo ?_; simp)
 refine WL.nil (hK _ ?_)
 refine Wz.to rfl rfl rfl ?_
 simp [hdOk, hb0, g12] <;> first | omega | grind
 apply Zs; intros
 iterate 2 (refine Zo ?_; simp)
 exact Zx
 refine Zc rfl ?_ ?_ <;> intro hb1 <;> try simp at hb1
 refine W.regJ0 (D := _) rfl fun _ K hD hK => ?_
 iterate 2 (refine Zo ?_; simp)
 refine Zl [] rfl Tryz.func106 (iName_d x.fName (by omega) _) ?_; simp
 refine Zo ?_; simp
 refine WL.split 12 _ rfl (fun g12 => ?_) fun g12 => ?_ <;> try simp at g12
 simp
 iterate 4 (refine Zg hD rfl rfl ?_; simp)
 iterate 2 (refine Zo ?_; simp)
 refine WL.nil (hK _ ?_)
 refine Wz.to rfl rfl rfl ?_
 simp [hdOk, hb0, hb1, g12] <;> first | omega | grind
 simp
 iterate 4 (refine Zn hD rfl rfl ?_; simp)
 iterate 2 (refine Zo ?_; simp)
 refine WL.nil (hK _ ?_)
 refine Wz.to rfl rfl rfl ?_
 simp [hdOk, hb0, hb1, g12] <;> first | omega | grind
 apply Zr; intros
 iterate 2 (refine Zo ?_; simp)
 exact Zx
 refine Zc rfl ?_ ?_ <;> intro hb2 <;> try simp at hb2
 refine W.regJ0 (D := _) rfl fun _ K hD hK => ?_
 iterate 2 (refine Zo ?_; simp)
 refine Zl [] rfl Tryz.func106 (iName_d x.fName (by omega) _) ?_; simp
 refine Zo ?_; simp
 refine WL.split 23 _ rfl (fun g23 => ?_) fun g23 => ?_ <;> try simp at g23
 simp
 iterate 4 (refine Zg hD rfl rfl ?_; simp)
 iterate 2 (refine Zo ?_; simp)
 refine WL.nil (hK _ ?_)
 refine Wz.to rfl rfl rfl ?_
 simp [hdOk, hb0, hb1, hb2, g23] <;> first | omega | grind
 simp
 iterate 4 (refine Zn hD rfl rfl ?_; simp)
 iterate 2 (refine Zo ?_; simp)
 refine WL.nil (hK _ ?_)
 refine Wz.to rfl rfl rfl ?_
 simp [hdOk, hb0, hb1, hb2, g23] <;> first | omega | grind
 apply Zr; intros
 iterate 2 (refine Zo ?_; simp)
 exact Zx
 refine Zc rfl ?_ ?_ <;> intro hb3 <;> try simp at hb3
 refine W.regJ0 (D := _) rfl fun _ K hD hK => ?_
 iterate 2 (refine Zo ?_; simp)
 refine Zl [] rfl Tryz.func106 (iName_d x.fName (by omega) _) ?_; simp
 refine Zo ?_; simp
 refine WL.split 34 _ rfl (fun g34 => ?_) fun g34 => ?_ <;> try simp at g34
 simp
 iterate 4 (refine Zg hD rfl rfl ?_; simp)
 iterate 2 (refine Zo ?_; simp)
 refine WL.split 40 _ rfl (fun g40 => ?_) fun g40 => ?_ <;> try simp at g40
 simp
 iterate 9 (refine Zn hD rfl rfl ?_; simp)
 iterate 2 (refine Zo ?_; simp)
 refine WL.nil (hK _ ?_)
 refine Wz.to rfl rfl rfl ?_
 simp [hdOk, hb0, hb1, hb2, hb3, g34, g40] <;> first | omega | grind
 simp
 iterate 2 (refine Zg hD rfl rfl ?_; simp)
 refine Zk hD rfl rfl [] rfl Tryz.func192 (isBuiltIn_d x.fName _) ?_; simp
 refine Zg hD rfl rfl ?_; simp
 refine WL.split 44 _ rfl (fun g44 => ?_) fun g44 => ?_ <;> try simp at g44
 simp
 iterate 5 (refine Zg hD rfl rfl ?_; simp)
 iterate 2 (refine Zo ?_; simp)
 refine WL.nil (hK _ ?_)
 refine Wz.to rfl rfl rfl ?_
 simp [hdOk, hb0, hb1, hb2, hb3, g34, g40, g44] <;> first | omega | grind
 simp
 iterate 4 (refine Zn hD rfl rfl ?_; simp)
 refine Zg hD rfl rfl ?_; simp
 iterate 2 (refine Zo ?_; simp)
 refine WL.nil (hK _ ?_)
 refine Wz.to rfl rfl rfl ?_
 simp [hdOk, hb0, hb1, hb2, hb3, g34, g40, g44] <;> first | omega | grind
 simp
 iterate 4 (refine Zn hD rfl rfl ?_; simp)
 iterate 2 (refine Zo ?_; simp)
 iterate 2 (refine Zg hD rfl rfl ?_; simp)
 refine Zk hD rfl rfl [] rfl Tryz.func192 (isBuiltIn_d x.fName _) ?_; simp
 refine Zg hD rfl rfl ?_; simp
 refine WL.split 44 _ rfl (fun g44 => ?_) fun g44 => ?_ <;> try simp at g44
 simp
 iterate 5 (refine Zg hD rfl rfl ?_; simp)
 iterate 2 (refine Zo ?_; simp)
 refine WL.nil (hK _ ?_)
 refine Wz.to rfl rfl rfl ?_
 simp [hdOk, hb0, hb1, hb2, hb3, g34, g44] <;> first | omega | grind
 simp
 iterate 4 (refine Zn hD rfl rfl ?_; simp)
 refine Zg hD rfl rfl ?_; simp
 iterate 2 (refine Zo ?_; simp)
 refine WL.nil (hK _ ?_)
 refine Wz.to rfl rfl rfl ?_
 simp [hdOk, hb0, hb1, hb2, hb3, g34, g44] <;> first | omega | grind
 refine W.skip ?_
 refine Wz.to rfl rfl rfl ?_
 simp [hdOk, hb0, hb1, hb2, hb3] <;> first | omega | grind
 simp at hT; subst hT
 refine W.seq ?_
 refine W.regJ0 (D := _) rfl fun _ K hD hK => ?_
 iterate 2 (refine Zo ?_; simp)
 refine WL.split 52 _ rfl (fun g52 => ?_) fun g52 => ?_ <;> try simp at g52
 simp
 iterate 2 (refine Zg hD rfl rfl ?_; simp)
 refine Zk hD rfl rfl [] rfl Tryz.func252 (ContainsFuncType_d x.fArgs (by omega) 380 Tryz.f380 _ ⟨Tryz.func380, rfl, rfl⟩ (fun y => !tForm y) (fun y hy h => formClo_d y (hc y hy) h) _) ?_; simp
 refine Zg hD rfl rfl ?_; simp
 iterate 2 (refine Zo ?_; simp)
 refine WL.nil (hK _ ?_)
 refine W.ret (Zq ?_)
 have hres := tForm_any x
 simp [Tryz.f322, hres, g52]
 simp
 iterate 4 (refine Zn hD rfl rfl ?_; simp)
 iterate 2 (refine Zo ?_; simp)
 refine WL.nil (hK _ ?_)
 refine W.ret (Zq ?_)
 have hres := tForm_any x
 simp [Tryz.f322, hres, g52]
theorem TypeSize_d (x : TType) (hz : x.sz ≤ 134217728) (h : HP) : CS cx.P 290 [.d (x.dd false)] h (.d (.lf (.int .i64 ((tSize x : Nat) : Int)))) h := TypeSize_a x hz (fun y hy h => TypeSize_d y (by have h1 := szL_le TType.sz hy; have h2 := x.sz_eq; unfold szs at h2; omega) h) h
termination_by SizeOf.sizeOf x
decreasing_by have := List.sizeOf_lt_of_mem hy; have := x.lt_fArgs; omega
theorem iDepth_d (x : TType) (hz : x.sz ≤ 134217728) (h : HP) : CS cx.P 323 [.d (x.dd false)] h (.d (.lf (.int .i64 ((tDepth x : Nat) : Int)))) h := iDepth_a x hz (fun y hy h => iDepth_d y (by have h1 := szL_le TType.sz hy; have h2 := x.sz_eq; unfold szs at h2; omega) h) h
termination_by SizeOf.sizeOf x
decreasing_by have := List.sizeOf_lt_of_mem hy; have := x.lt_fArgs; omega
theorem sDepth_d (x : TType) (hz : x.sz ≤ 134217728) (h : HP) : CS cx.P 370 [.d (x.dd false)] h (.d (.lf (.int .i64 ((tDepth x : Nat) : Int)))) h := sDepth_a x hz (fun y hy h => sDepth_d y (by have h1 := szL_le TType.sz hy; have h2 := x.sz_eq; unfold szs at h2; omega) h) h
termination_by SizeOf.sizeOf x
decreasing_by have := List.sizeOf_lt_of_mem hy; have := x.lt_fArgs; omega
theorem sForm_d (x : TType) (hz : x.sz ≤ 134217728) (h : HP) : CS cx.P 371 [.d (x.dd false)] h (.d (.lf (.bool (tForm x)))) h := sForm_a x hz (fun y hy h => sForm_d y (by have h1 := szL_le TType.sz hy; have h2 := x.sz_eq; unfold szs at h2; omega) h) h
termination_by SizeOf.sizeOf x
decreasing_by have := List.sizeOf_lt_of_mem hy; have := x.lt_fArgs; omega
theorem iForm_d (x : TType) (hz : x.sz ≤ 134217728) (h : HP) : CS cx.P 322 [.d (x.dd false)] h (.d (.lf (.bool (tForm x)))) h := iForm_a x hz (fun y hy h => iForm_d y (by have h1 := szL_le TType.sz hy; have h2 := x.sz_eq; unfold szs at h2; omega) h) h
termination_by SizeOf.sizeOf x
decreasing_by have := List.sizeOf_lt_of_mem hy; have := x.lt_fArgs; omega
theorem sLeft_d (x : TType) (left : Int) (h0 : 0 ≤ left) (h1 : left ≤ 134217728) (hz : x.sz ≤ 134217728) (h : HP) : CS cx.P 369 [.d (x.dd false), .d (.lf (.int .i64 (left)))] h (.d (.lf (.int .i64 (lft (tSize x) left)))) h := sLeft_a x left h0 h1 hz (fun y hy left h0 h1 h => sLeft_d y left h0 h1 (by have h1 := szL_le TType.sz hy; have h2 := x.sz_eq; unfold szs at h2; omega) h) h
termination_by SizeOf.sizeOf x
decreasing_by have := List.sizeOf_lt_of_mem hy; have := x.lt_fArgs; omega
def tValid (x : TType) : Bool := tForm x && decide (tDepth x ≤ 6) && decide (tSize x ≤ 60)
theorem lft_ok (n : Nat) (x : Int) (_ : 0 ≤ x) : decide (0 ≤ lft n x) = decide ((n : Int) ≤ x) := by
 unfold lft; by_cases q : (n : Int) ≤ x
 ·rw [if_pos q]; simp <;> omega
 ·rw [if_neg q]; simp <;> omega
theorem iValidT_d (x : TType) (hz : x.sz ≤ 134217728) (h : HP) : CS cx.P 254 [.d (x.dd false)] h (.d (.lf (.bool (tValid x)))) h := by
 refine Ze Tryz.func254 rfl 15 ?_
 apply Zr; intros
 iterate 2 (refine Zo ?_; simp)
 exact Zx
 refine W.seq ?_
 refine W.regJ0 (D := _) rfl fun _ K hD hK => ?_
 refine Zo ?_; simp
 refine Zl [] rfl Tryz.func322 (iForm_d x hz _) ?_; simp
 refine Zo ?_; simp
 refine WL.split 5 _ rfl (fun g5 => ?_) fun g5 => ?_ <;> try simp at g5
 simp
 refine Zg hD rfl rfl ?_; simp
 refine Zk hD rfl rfl [] rfl Tryz.func323 (iDepth_d x hz _) ?_; simp
 refine Zg hD rfl rfl ?_; simp
 iterate 2 (refine Zo ?_; simp)
 refine WL.split 10 _ rfl (fun g10 => ?_) fun g10 => ?_ <;> try simp at g10
 simp
 refine Zg hD rfl rfl ?_; simp
 refine Zk hD rfl rfl [] rfl Tryz.func290 (TypeSize_d x hz _) ?_; simp
 refine Zg hD rfl rfl ?_; simp
 iterate 2 (refine Zo ?_; simp)
 refine WL.nil (hK _ ?_)
 refine W.ret (Zq ?_)
 simp [Tryz.f254, tValid, g5, g10] <;> first | omega | grind
 simp
 iterate 3 (refine Zn hD rfl rfl ?_; simp)
 iterate 2 (refine Zo ?_; simp)
 refine WL.nil (hK _ ?_)
 refine W.ret (Zq ?_)
 simp [Tryz.f254, tValid, g5, g10] <;> first | omega | grind
 simp
 iterate 3 (refine Zn hD rfl rfl ?_; simp)
 iterate 2 (refine Zo ?_; simp)
 iterate 3 (refine Zn hD rfl rfl ?_; simp)
 iterate 2 (refine Zo ?_; simp)
 refine WL.nil (hK _ ?_)
 refine W.ret (Zq ?_)
 simp [Tryz.f254, tValid, g5] <;> first | omega | grind
theorem sValidT_d (x : TType) (hz : x.sz ≤ 134217728) (h : HP) : CS cx.P 306 [.d (x.dd false)] h (.d (.lf (.bool (tValid x)))) h := by
 have hk := lft_ok (tSize x) 60 (by omega)
 refine Ze Tryz.func306 rfl 15 ?_
 apply Zr; intros
 iterate 2 (refine Zo ?_; simp)
 exact Zx
 refine W.seq ?_
 refine W.regJ0 (D := _) rfl fun _ K hD hK => ?_
 refine Zo ?_; simp
 refine Zl [] rfl Tryz.func369 (sLeft_d x 60 (by omega) (by omega) hz _) ?_; simp
 iterate 2 (refine Zo ?_; simp)
 refine WL.split 6 _ rfl (fun g6 => ?_) fun g6 => ?_ <;> try simp at g6
 simp
 refine Zg hD rfl rfl ?_; simp
 refine Zk hD rfl rfl [] rfl Tryz.func370 (sDepth_d x hz _) ?_; simp
 refine Zg hD rfl rfl ?_; simp
 iterate 2 (refine Zo ?_; simp)
 refine WL.split 11 _ rfl (fun g11 => ?_) fun g11 => ?_ <;> try simp at g11
 simp
 refine Zg hD rfl rfl ?_; simp
 refine Zk hD rfl rfl [] rfl Tryz.func371 (sForm_d x hz _) ?_; simp
 iterate 2 (refine Zo ?_; simp)
 refine WL.nil (hK _ ?_)
 refine W.ret (Zq ?_)
 simp [Tryz.f306, tValid, g6, g11] <;> simp at hk <;> first | omega | grind
 simp
 iterate 2 (refine Zn hD rfl rfl ?_; simp)
 iterate 2 (refine Zo ?_; simp)
 refine WL.nil (hK _ ?_)
 refine W.ret (Zq ?_)
 simp [Tryz.f306, tValid, g6, g11] <;> simp at hk <;> first | omega | grind
 simp
 iterate 3 (refine Zn hD rfl rfl ?_; simp)
 iterate 2 (refine Zo ?_; simp)
 iterate 2 (refine Zn hD rfl rfl ?_; simp)
 iterate 2 (refine Zo ?_; simp)
 refine WL.nil (hK _ ?_)
 refine W.ret (Zq ?_)
 simp [Tryz.f306, tValid, g6] <;> simp at hk <;> first | omega | grind
theorem iValidB_d (x : TBound) (hz : x.sz ≤ 134217728) (h : HP) : CS cx.P 259 [.d (x.dd false)] h (.d (.lf (.bool (isNm x.fTrait && tValid x.fType)))) h := by
 have hz2 := x.sz_eq
 refine Ze Tryz.func259 rfl 11 ?_
 apply Zr; intros
 iterate 2 (refine Zo ?_; simp)
 exact Zx
 refine W.seq ?_
 refine W.regJ0 (D := _) rfl fun _ K hD hK => ?_
 iterate 2 (refine Zo ?_; simp)
 refine Zl [] rfl Tryz.func106 (iName_d x.fTrait (by omega) _) ?_; simp
 refine Zo ?_; simp
 refine WL.split 6 _ rfl (fun g6 => ?_) fun g6 => ?_ <;> try simp at g6
 simp
 iterate 2 (refine Zg hD rfl rfl ?_; simp)
 refine Zk hD rfl rfl [] rfl Tryz.func254 (iValidT_d x.fType (by omega) _) ?_; simp
 iterate 2 (refine Zo ?_; simp)
 refine WL.nil (hK _ ?_)
 refine W.ret (Zq ?_)
 simp [Tryz.f259, g6]
 simp
 iterate 3 (refine Zn hD rfl rfl ?_; simp)
 iterate 2 (refine Zo ?_; simp)
 refine WL.nil (hK _ ?_)
 refine W.ret (Zq ?_)
 simp [Tryz.f259, g6]
theorem anyP_no {α : Type} {l : List α} {p : α → Bool} (h : ∀ j, j < l.length → ∀ y, l[j]? = some y → p y = false) : l.any p = false := by
 rw [List.any_eq_false]
 intro y hy
 obtain ⟨j, hj⟩ := List.mem_iff_getElem?.1 hy
 have := h j (List.getElem?_eq_some_iff.1 hj).1 y hj
 simp [this]
theorem anyP_yes {α : Type} {l : List α} {p : α → Bool} {k : Nat} (hk : k < l.length) (e : p l[k] = true) : l.any p = true := List.any_eq_true.2 ⟨l[k], List.getElem_mem hk, e⟩
def nms (l : List ByteArray) : Bool := !(l.any fun s => !isNm s)
def dstAt (l : List ByteArray) (i : Nat) : Bool := !hasS (l.take i) (l.getD i ⟨#[]⟩)
def dst (l : List ByteArray) : Bool := allB l.length (dstAt l)
def sub (l all : List ByteArray) : Bool := !(l.any fun s => !hasS all s)
theorem dstAt_eq {l : List ByteArray} {k : Nat} (h : k < l.length) : dstAt l k = !hasS (l.take k) l[k] := by unfold dstAt; simp [List.getD_eq_getElem?_getD, List.getElem?_eq_getElem h]
theorem dst_no {l : List ByteArray} {k : Nat} (h : k < l.length) (e : hasS (l.take k) l[k] = true) : dst l = false := allB_false h (by rw [dstAt_eq h, e]; rfl)
theorem vws_takeS (l : List ByteArray) (k : Nat) : DD.vws (List.take k (List.map dS l)) = List.take k (List.map dS l) := by rw [← List.map_take, vws_dS]
attribute [simp] vws_takeS
theorem dst_yes {l : List ByteArray} (h : ∀ j, j < l.length → dstAt l j = true) : dst l = true := allB_true h
def tvS (out : List ByteArray) (k : Int) (n : ByteArray) : List ByteArray := if k = 1 ∧ ¬ hasS out n = true then out ++ [n] else out
mutual
def tvs : TType → List ByteArray → List ByteArray
 | ⟨k, n, l⟩, out => tvss l (tvS out k n)
def tvss : List TType → List ByteArray → List ByteArray
 | [], out => out
 | x :: l, out => tvss l (tvs x out)
end
theorem tvss_app : ∀ (a b : List TType) (o : List ByteArray), tvss (a ++ b) o = tvss b (tvss a o)
 | [], b, o => rfl
 | x :: a, b, o => by simp only [List.cons_append, tvss, tvss_app a b]
theorem tvS_len (o : List ByteArray) (k : Int) (n : ByteArray) : (tvS o k n).length ≤ o.length + 1 := by unfold tvS; split <;> simp
mutual
theorem tvs_len : ∀ (x : TType) (o : List ByteArray), (tvs x o).length ≤ o.length + tSize x
 | ⟨k, n, l⟩, o => by
  have h1 := tvss_len l (tvS o k n)
  have h2 := tvS_len o k n
  simp only [tvs, tSize]; omega
theorem tvss_len : ∀ (l : List TType) (o : List ByteArray), (tvss l o).length ≤ o.length + tSizes l
 | [], o => by simp [tvss, tSizes]
 | x :: l, o => by
  have h1 := tvss_len l (tvs x o)
  have h2 := tvs_len x o
  simp only [tvss, tSizes]; omega
end
def tvK (x : TType) (o : List ByteArray) (k : Nat) : List ByteArray := tvss (x.fArgs.take k) (tvS o x.fKind x.fName)
theorem tvK_zero (x : TType) (o : List ByteArray) : tvK x o 0 = tvS o x.fKind x.fName := rfl
theorem tvK_full (x : TType) (o : List ByteArray) : tvK x o x.fArgs.length = tvs x o := by cases x; simp [tvK, tvs]
theorem tvK_step {x : TType} {o : List ByteArray} {k : Nat} (h : k < x.fArgs.length) : tvs x.fArgs[k] (tvK x o k) = tvK x o (k + 1) := by
 unfold tvK
 rw [List.take_succ_eq_append_getElem h, tvss_app]; rfl
theorem tvK_len (x : TType) (o : List ByteArray) (k : Nat) : (tvK x o k).length ≤ o.length + tSzk x.fArgs k := by
 have h1 := tvss_len (x.fArgs.take k) (tvS o x.fKind x.fName)
 have h2 := tvS_len o x.fKind x.fName
 unfold tvK tSzk; omega
def tv (x : TType) : List ByteArray := tvs x []
def tOver (x : TType) (vars : List ByteArray) : Bool := tValid x && sub (tv x) vars
mutual
def hasPj : TType → Bool
 | ⟨k, _, l⟩ => hasPjs l || decide (k = 3)
def hasPjs : List TType → Bool
 | [] => false
 | x :: l => hasPj x || hasPjs l
end
theorem hasPjs_any : ∀ l : List TType, hasPjs l = l.any hasPj
 | [] => rfl
 | x :: l => by simp only [hasPjs, hasPjs_any l, List.any_cons]
theorem hasPj_eq (x : TType) : hasPj x = (x.fArgs.any hasPj || decide (x.fKind = 3)) := by rw [← hasPjs_any]; cases x; simp only [hasPj]
mutual
def occ (v : ByteArray) : TType → Nat
 | ⟨k, n, l⟩ => (if k = 1 ∧ n = v then 1 else 0) + occs v l
def occs (v : ByteArray) : List TType → Nat
 | [] => 0
 | x :: l => occ v x + occs v l
end
theorem tl_len (s : ByteArray) : s.toList.length = s.size := by rw [Go.ByteArray.toList_eq]; simp
end Go.Proofs.YtdooklofebdknaaGreat
