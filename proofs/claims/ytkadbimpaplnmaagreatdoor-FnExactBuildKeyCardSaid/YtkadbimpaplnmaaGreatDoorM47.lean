/- Walks by the Den rules. No condition but sizes. -/
import Derived.Test.YtkadbimpaplnmaaGreatDoorM16
import Derived.Test.YtkadbimpaplnmaaGreatDoorM17
import Derived.Test.YtkadbimpaplnmaaGreatDoorM18
namespace Go.Proofs.YtkadbimpaplnmaaGreatDoor
open Go.RowKit
set_option maxRecDepth 10000
set_option linter.unusedSimpArgs false
set_option linter.unusedVariables false
set_option maxHeartbeats 4000000
theorem toStringS_d (l : List ByteArray) (hm : l.length ≤ 134217728) (h : HP) : CS cx.P 47 [.d (.sl false .one (l.map dS))] h (.d (.sl true .one (l.map dS))) h := by
 refine Ze Tryz.func47 rfl 22 ?_
 apply Zr; intros
 refine Zo ?_; simp
 exact Zx
 apply Zr; intros
 iterate 4 (refine Zo ?_; simp)
 exact Zx
 refine W.seq ?_
 apply Zr; intros
 refine Zo ?_; simp
 exact Zx
 refine W.block ?_
 refine W.loopk [0, 3] [] (fun k0 => [(4, .d (.lf (.int .i64 (k0 : Int))))]) (fun k0 => [(7, .d (.st (rowL (dS) l k0 (.lf (.string ⟨#[]⟩)))))]) l.length rfl (by simp) fun k0 hk0 T hT => ?_
 simp at hT; subst hT
 have hr := shs_rowL (f := dS) (s := .one) (fun _ => rfl) (z := .lf (.string ⟨#[]⟩)) rfl hk0
 refine W.seq ?_
 apply Zr; intros
 iterate 4 (refine Zo ?_ (by simp [hr, rowL_at] <;> omega); simp [hr, rowL_at])
 exact Zx
 refine Zc rfl ?_ ?_ <;> intro hb0 <;> try simp at hb0
 have hx := ixNext hb0 (by omega)
 refine W.skip ?_
 refine Zb ?_
 apply Zs; intros
 iterate 8 (refine Zo ?_ (by simp [hr, rowL_at, hb0, hx] <;> omega); simp [hr, rowL_at, hb0, hx])
 exact Zx
 apply Zs; intros
 iterate 3 (refine Zo ?_ (by simp [hr, rowL_at, hb0, hx] <;> omega); simp [hr, rowL_at, hb0, hx])
 exact Zx
 refine ⟨hb0, Wz.to rfl rfl rfl ?_⟩
 have hs := rowL_set (f := dS) (z := .lf (.string ⟨#[]⟩)) hb0
 simp at hs
 simp [hs]
 have hkl : k0 = l.length := by omega
 subst hkl
 refine W.frz 3 7 l.length (l.map (dS)) .one [] [] rfl (by simp) (by simp) (by simp [rowL_full]) (by simp) (by simp) (by simp) (by simp) rfl ?_
 refine W.exit ?_
 apply Zr; intros
 refine Zm [21] ?_ (by simp [hr, rowL_at] <;> omega); simp [hr, rowL_at]
 refine Zo ?_ (by simp [hr, rowL_at] <;> omega); simp [hr, rowL_at]
 exact Zx
 refine W.ret (Zq ?_)
 simp [Tryz.f47]
theorem toType_a (x : TType) (hz : x.sz ≤ 134217728) (hcArgs : ∀ h, CS cx.P 203 [.d (.sl false sh88 (x.fArgs.map (TType.dd false)))] h (.d (.sl true sh88 (x.fArgs.map (TType.dd true)))) h) (h : HP) : CS cx.P 145 [.d (x.dd false)] h (.d (x.dd true)) h := by
 have hz2 := x.sz_eq
 refine Ze Tryz.func145 rfl 15 ?_
 apply Zr; intros
 iterate 2 (refine Zo ?_; simp)
 exact Zx
 apply Zr; intros
 refine Zo ?_; simp
 exact Zx
 apply Zr; intros
 iterate 4 (refine Zo ?_; simp)
 exact Zx
 apply Zr; intros
 iterate 4 (refine Zo ?_; simp)
 exact Zx
 apply Zr; intros
 iterate 2 (refine Zo ?_; simp)
 refine Zl [] rfl Tryz.func203 (hcArgs _) ?_; simp
 iterate 2 (refine Zo ?_; simp)
 exact Zx
 apply Zr; intros
 refine Zm [14] ?_; simp
 refine Zo ?_; simp
 exact Zx
 refine W.ret (Zq ?_)
 simp [Tryz.f145]
theorem toTypeS_a (l : List TType) (hm : l.length ≤ 134217728) (hc : ∀ y ∈ l, ∀ h, CS cx.P 145 [.d (y.dd false)] h (.d (y.dd true)) h) (h : HP) : CS cx.P 203 [.d (.sl false sh88 (l.map (TType.dd false)))] h (.d (.sl true sh88 (l.map (TType.dd true)))) h := by
 refine Ze Tryz.func203 rfl 23 ?_
 apply Zr; intros
 refine Zo ?_; simp
 exact Zx
 apply Zr; intros
 iterate 4 (refine Zo ?_; simp)
 exact Zx
 refine W.seq ?_
 apply Zr; intros
 refine Zo ?_; simp
 exact Zx
 refine W.block ?_
 refine W.loopk [0, 3] [] (fun k0 => [(4, .d (.lf (.int .i64 (k0 : Int))))]) (fun k0 => [(7, .d (.st (rowL (TType.dd true) l k0 (.st [.lf (.int .i64 0), .lf (.string ⟨#[]⟩), .sl true sh88 []]))))]) l.length rfl (by simp) fun k0 hk0 T hT => ?_
 simp at hT; subst hT
 have hr := shs_rowL (f := TType.dd true) (s := sh88) (TType.sh_dd true) (z := .st [.lf (.int .i64 0), .lf (.string ⟨#[]⟩), .sl true sh88 []]) rfl hk0
 refine W.seq ?_
 apply Zr; intros
 iterate 4 (refine Zo ?_ (by simp [hr, rowL_at] <;> omega); simp [hr, rowL_at])
 exact Zx
 refine Zc rfl ?_ ?_ <;> intro hb0 <;> try simp at hb0
 have hx := ixNext hb0 (by omega)
 refine W.skip ?_
 refine Zb ?_
 apply Zs; intros
 iterate 6 (refine Zo ?_ (by simp [hr, rowL_at, hb0, hx] <;> omega); simp [hr, rowL_at, hb0, hx])
 refine Zl [] rfl Tryz.func145 (hc l[k0] (gm hb0) _) ?_ (by simp [hr, rowL_at, hb0, hx]); simp [hr, rowL_at, hb0, hx]
 iterate 2 (refine Zo ?_ (by simp [hr, rowL_at, hb0, hx] <;> omega); simp [hr, rowL_at, hb0, hx])
 exact Zx
 apply Zs; intros
 iterate 3 (refine Zo ?_ (by simp [hr, rowL_at, hb0, hx] <;> omega); simp [hr, rowL_at, hb0, hx])
 exact Zx
 refine ⟨hb0, Wz.to rfl rfl rfl ?_⟩
 have hs := rowL_set (f := TType.dd true) (z := .st [.lf (.int .i64 0), .lf (.string ⟨#[]⟩), .sl true sh88 []]) hb0
 simp at hs
 simp [hs]
 have hkl : k0 = l.length := by omega
 subst hkl
 refine W.frz 3 7 l.length (l.map (TType.dd true)) sh88 [] [] rfl (by simp) (by simp) (by simp [rowL_full]) (by simp) (by simp) (by simp) (by simp) rfl ?_
 refine W.exit ?_
 apply Zr; intros
 refine Zm [22] ?_ (by simp [hr, rowL_at] <;> omega); simp [hr, rowL_at]
 refine Zo ?_ (by simp [hr, rowL_at] <;> omega); simp [hr, rowL_at]
 exact Zx
 refine W.ret (Zq ?_)
 simp [Tryz.f203]
theorem toType_d (x : TType) (hz : x.sz ≤ 134217728) (h : HP) : CS cx.P 145 [.d (x.dd false)] h (.d (x.dd true)) h := toType_a x hz (fun h => toTypeS_a x.fArgs  (by have h2 := x.sz_eq; unfold szs at h2;  omega) (fun y0 hy0 h => toType_d y0 (by have h2 := x.sz_eq; unfold szs at h2; have hy0 := szL_le TType.sz hy0;  omega) h) h) h
termination_by SizeOf.sizeOf x
decreasing_by
 ·have := List.sizeOf_lt_of_mem hy0; have := x.lt_fArgs; omega
theorem toTypeS_d (l : List TType) (hs : szs TType.sz l ≤ 134217728) (h : HP) : CS cx.P 203 [.d (.sl false sh88 (l.map (TType.dd false)))] h (.d (.sl true sh88 (l.map (TType.dd true)))) h := toTypeS_a l (by unfold szs at hs; omega) (fun y hy h => toType_d y (by have := szL_le TType.sz hy; unfold szs at hs; omega) h) h
theorem toArm_a (x : TArm) (hz : x.sz ≤ 134217728) (hcBody : ∀ h, CS cx.P 149 [.d (x.fBody.dd false)] h (.d (x.fBody.dd true)) h) (h : HP) : CS cx.P 250 [.d (x.dd false)] h (.d (x.dd true)) h := by
 have hz2 := x.sz_eq
 refine Ze Tryz.func250 rfl 16 ?_
 apply Zr; intros
 iterate 2 (refine Zo ?_; simp)
 exact Zx
 apply Zr; intros
 refine Zo ?_; simp
 exact Zx
 apply Zr; intros
 iterate 4 (refine Zo ?_; simp)
 exact Zx
 apply Zr; intros
 iterate 2 (refine Zo ?_; simp)
 refine Zl [] rfl Tryz.func47 (toStringS_d x.fVars (by unfold szs at hz2; omega) _) ?_; simp
 iterate 2 (refine Zo ?_; simp)
 exact Zx
 apply Zr; intros
 iterate 2 (refine Zo ?_; simp)
 refine Zl [] rfl Tryz.func149 (hcBody _) ?_; simp
 iterate 2 (refine Zo ?_; simp)
 exact Zx
 apply Zr; intros
 refine Zm [15] ?_; simp
 refine Zo ?_; simp
 exact Zx
 refine W.ret (Zq ?_)
 simp [Tryz.f250]
theorem toArmS_a (l : List TArm) (hm : l.length ≤ 134217728) (hc : ∀ y ∈ l, ∀ h, CS cx.P 250 [.d (y.dd false)] h (.d (y.dd true)) h) (h : HP) : CS cx.P 208 [.d (.sl false sh198 (l.map (TArm.dd false)))] h (.d (.sl true sh198 (l.map (TArm.dd true)))) h := by
 refine Ze Tryz.func208 rfl 23 ?_
 apply Zr; intros
 refine Zo ?_; simp
 exact Zx
 apply Zr; intros
 iterate 4 (refine Zo ?_; simp)
 exact Zx
 refine W.seq ?_
 apply Zr; intros
 refine Zo ?_; simp
 exact Zx
 refine W.block ?_
 refine W.loopk [0, 3] [] (fun k0 => [(4, .d (.lf (.int .i64 (k0 : Int))))]) (fun k0 => [(7, .d (.st (rowL (TArm.dd true) l k0 (.st [.lf (.string ⟨#[]⟩), .sl true .one [], .st [.lf (.int .i64 0), .lf (.string ⟨#[]⟩), .lf (.string ⟨#[]⟩), .lf (.int .i64 0), .st [.lf (.int .i64 0), .lf (.string ⟨#[]⟩), .sl true sh88 []], .sl true sh98 [], .sl true sh198 []]]))))]) l.length rfl (by simp) fun k0 hk0 T hT => ?_
 simp at hT; subst hT
 have hr := shs_rowL (f := TArm.dd true) (s := sh198) (TArm.sh_dd true) (z := .st [.lf (.string ⟨#[]⟩), .sl true .one [], .st [.lf (.int .i64 0), .lf (.string ⟨#[]⟩), .lf (.string ⟨#[]⟩), .lf (.int .i64 0), .st [.lf (.int .i64 0), .lf (.string ⟨#[]⟩), .sl true sh88 []], .sl true sh98 [], .sl true sh198 []]]) rfl hk0
 refine W.seq ?_
 apply Zr; intros
 iterate 4 (refine Zo ?_ (by simp [hr, rowL_at] <;> omega); simp [hr, rowL_at])
 exact Zx
 refine Zc rfl ?_ ?_ <;> intro hb0 <;> try simp at hb0
 have hx := ixNext hb0 (by omega)
 refine W.skip ?_
 refine Zb ?_
 apply Zs; intros
 iterate 6 (refine Zo ?_ (by simp [hr, rowL_at, hb0, hx] <;> omega); simp [hr, rowL_at, hb0, hx])
 refine Zl [] rfl Tryz.func250 (hc l[k0] (gm hb0) _) ?_ (by simp [hr, rowL_at, hb0, hx]); simp [hr, rowL_at, hb0, hx]
 iterate 2 (refine Zo ?_ (by simp [hr, rowL_at, hb0, hx] <;> omega); simp [hr, rowL_at, hb0, hx])
 exact Zx
 apply Zs; intros
 iterate 3 (refine Zo ?_ (by simp [hr, rowL_at, hb0, hx] <;> omega); simp [hr, rowL_at, hb0, hx])
 exact Zx
 refine ⟨hb0, Wz.to rfl rfl rfl ?_⟩
 have hs := rowL_set (f := TArm.dd true) (z := .st [.lf (.string ⟨#[]⟩), .sl true .one [], .st [.lf (.int .i64 0), .lf (.string ⟨#[]⟩), .lf (.string ⟨#[]⟩), .lf (.int .i64 0), .st [.lf (.int .i64 0), .lf (.string ⟨#[]⟩), .sl true sh88 []], .sl true sh98 [], .sl true sh198 []]]) hb0
 simp at hs
 simp [hs]
 have hkl : k0 = l.length := by omega
 subst hkl
 refine W.frz 3 7 l.length (l.map (TArm.dd true)) sh198 [] [] rfl (by simp) (by simp) (by simp [rowL_full]) (by simp) (by simp) (by simp) (by simp) rfl ?_
 refine W.exit ?_
 apply Zr; intros
 refine Zm [22] ?_ (by simp [hr, rowL_at] <;> omega); simp [hr, rowL_at]
 refine Zo ?_ (by simp [hr, rowL_at] <;> omega); simp [hr, rowL_at]
 exact Zx
 refine W.ret (Zq ?_)
 simp [Tryz.f208]
theorem toExpr_a (x : TExpr) (hz : x.sz ≤ 134217728) (hcArgs : ∀ h, CS cx.P 207 [.d (.sl false sh98 (x.fArgs.map (TExpr.dd false)))] h (.d (.sl true sh98 (x.fArgs.map (TExpr.dd true)))) h) (hcArms : ∀ h, CS cx.P 208 [.d (.sl false sh198 (x.fArms.map (TArm.dd false)))] h (.d (.sl true sh198 (x.fArms.map (TArm.dd true)))) h) (h : HP) : CS cx.P 149 [.d (x.dd false)] h (.d (x.dd true)) h := by
 have hz2 := x.sz_eq
 refine Ze Tryz.func149 rfl 29 ?_
 apply Zr; intros
 iterate 2 (refine Zo ?_; simp)
 exact Zx
 apply Zr; intros
 refine Zo ?_; simp
 exact Zx
 apply Zr; intros
 iterate 4 (refine Zo ?_; simp)
 exact Zx
 apply Zr; intros
 iterate 4 (refine Zo ?_; simp)
 exact Zx
 apply Zr; intros
 iterate 4 (refine Zo ?_; simp)
 exact Zx
 apply Zr; intros
 iterate 4 (refine Zo ?_; simp)
 exact Zx
 apply Zr; intros
 iterate 2 (refine Zo ?_; simp)
 refine Zl [] rfl Tryz.func145 (toType_d x.fType (by omega) _) ?_; simp
 iterate 2 (refine Zo ?_; simp)
 exact Zx
 apply Zr; intros
 iterate 2 (refine Zo ?_; simp)
 refine Zl [] rfl Tryz.func207 (hcArgs _) ?_; simp
 iterate 2 (refine Zo ?_; simp)
 exact Zx
 apply Zr; intros
 iterate 2 (refine Zo ?_; simp)
 refine Zl [] rfl Tryz.func208 (hcArms _) ?_; simp
 iterate 2 (refine Zo ?_; simp)
 exact Zx
 apply Zr; intros
 refine Zm [28] ?_; simp
 refine Zo ?_; simp
 exact Zx
 refine W.ret (Zq ?_)
 simp [Tryz.f149]
theorem toExprS_a (l : List TExpr) (hm : l.length ≤ 134217728) (hc : ∀ y ∈ l, ∀ h, CS cx.P 149 [.d (y.dd false)] h (.d (y.dd true)) h) (h : HP) : CS cx.P 207 [.d (.sl false sh98 (l.map (TExpr.dd false)))] h (.d (.sl true sh98 (l.map (TExpr.dd true)))) h := by
 refine Ze Tryz.func207 rfl 23 ?_
 apply Zr; intros
 refine Zo ?_; simp
 exact Zx
 apply Zr; intros
 iterate 4 (refine Zo ?_; simp)
 exact Zx
 refine W.seq ?_
 apply Zr; intros
 refine Zo ?_; simp
 exact Zx
 refine W.block ?_
 refine W.loopk [0, 3] [] (fun k0 => [(4, .d (.lf (.int .i64 (k0 : Int))))]) (fun k0 => [(7, .d (.st (rowL (TExpr.dd true) l k0 (.st [.lf (.int .i64 0), .lf (.string ⟨#[]⟩), .lf (.string ⟨#[]⟩), .lf (.int .i64 0), .st [.lf (.int .i64 0), .lf (.string ⟨#[]⟩), .sl true sh88 []], .sl true sh98 [], .sl true sh198 []]))))]) l.length rfl (by simp) fun k0 hk0 T hT => ?_
 simp at hT; subst hT
 have hr := shs_rowL (f := TExpr.dd true) (s := sh98) (TExpr.sh_dd true) (z := .st [.lf (.int .i64 0), .lf (.string ⟨#[]⟩), .lf (.string ⟨#[]⟩), .lf (.int .i64 0), .st [.lf (.int .i64 0), .lf (.string ⟨#[]⟩), .sl true sh88 []], .sl true sh98 [], .sl true sh198 []]) rfl hk0
 refine W.seq ?_
 apply Zr; intros
 iterate 4 (refine Zo ?_ (by simp [hr, rowL_at] <;> omega); simp [hr, rowL_at])
 exact Zx
 refine Zc rfl ?_ ?_ <;> intro hb0 <;> try simp at hb0
 have hx := ixNext hb0 (by omega)
 refine W.skip ?_
 refine Zb ?_
 apply Zs; intros
 iterate 6 (refine Zo ?_ (by simp [hr, rowL_at, hb0, hx] <;> omega); simp [hr, rowL_at, hb0, hx])
 refine Zl [] rfl Tryz.func149 (hc l[k0] (gm hb0) _) ?_ (by simp [hr, rowL_at, hb0, hx]); simp [hr, rowL_at, hb0, hx]
 iterate 2 (refine Zo ?_ (by simp [hr, rowL_at, hb0, hx] <;> omega); simp [hr, rowL_at, hb0, hx])
 exact Zx
 apply Zs; intros
 iterate 3 (refine Zo ?_ (by simp [hr, rowL_at, hb0, hx] <;> omega); simp [hr, rowL_at, hb0, hx])
 exact Zx
 refine ⟨hb0, Wz.to rfl rfl rfl ?_⟩
 have hs := rowL_set (f := TExpr.dd true) (z := .st [.lf (.int .i64 0), .lf (.string ⟨#[]⟩), .lf (.string ⟨#[]⟩), .lf (.int .i64 0), .st [.lf (.int .i64 0), .lf (.string ⟨#[]⟩), .sl true sh88 []], .sl true sh98 [], .sl true sh198 []]) hb0
 simp at hs
 simp [hs]
 have hkl : k0 = l.length := by omega
 subst hkl
 refine W.frz 3 7 l.length (l.map (TExpr.dd true)) sh98 [] [] rfl (by simp) (by simp) (by simp [rowL_full]) (by simp) (by simp) (by simp) (by simp) rfl ?_
 refine W.exit ?_
 apply Zr; intros
 refine Zm [22] ?_ (by simp [hr, rowL_at] <;> omega); simp [hr, rowL_at]
 refine Zo ?_ (by simp [hr, rowL_at] <;> omega); simp [hr, rowL_at]
 exact Zx
 refine W.ret (Zq ?_)
 simp [Tryz.f207]
theorem toExpr_d (x : TExpr) (hz : x.sz ≤ 134217728) (h : HP) : CS cx.P 149 [.d (x.dd false)] h (.d (x.dd true)) h := toExpr_a x hz (fun h => toExprS_a x.fArgs  (by have h2 := x.sz_eq; unfold szs at h2;  omega) (fun y0 hy0 h => toExpr_d y0 (by have h2 := x.sz_eq; unfold szs at h2; have hy0 := szL_le TExpr.sz hy0;  omega) h) h) (fun h => toArmS_a x.fArms  (by have h2 := x.sz_eq; unfold szs at h2;  omega) (fun y1 hy1 h => toArm_a y1 (by have h2 := x.sz_eq; unfold szs at h2; have hy1 := szL_le TArm.sz hy1;  omega) (fun h => toExpr_d y1.fBody (by have h2 := x.sz_eq; unfold szs at h2; have hy1 := szL_le TArm.sz hy1; have hzy1 := y1.sz_eq; unfold szs at hzy1;  omega) h) h) h) h
termination_by SizeOf.sizeOf x
decreasing_by
 ·have := List.sizeOf_lt_of_mem hy0; have := x.lt_fArgs; omega
 ·have := List.sizeOf_lt_of_mem hy1; have := x.lt_fArms; have := y1.lt_fBody; omega
theorem toSignature_d (x : TSignature) (hz : x.sz ≤ 134217728) (h : HP) : CS cx.P 201 [.d (x.dd false)] h (.d (x.dd true)) h := by
 have hz2 := x.sz_eq
 refine Ze Tryz.func201 rfl 27 ?_
 apply Zr; intros
 iterate 2 (refine Zo ?_; simp)
 exact Zx
 apply Zr; intros
 refine Zo ?_; simp
 exact Zx
 apply Zr; intros
 iterate 4 (refine Zo ?_; simp)
 exact Zx
 apply Zr; intros
 iterate 2 (refine Zo ?_; simp)
 refine Zl [] rfl Tryz.func203 (toTypeS_d x.fParams (by omega) _) ?_; simp
 iterate 2 (refine Zo ?_; simp)
 exact Zx
 apply Zr; intros
 iterate 2 (refine Zo ?_; simp)
 refine Zl [] rfl Tryz.func145 (toType_d x.fResult (by omega) _) ?_; simp
 iterate 2 (refine Zo ?_; simp)
 exact Zx
 apply Zr; intros
 iterate 4 (refine Zo ?_; simp)
 exact Zx
 apply Zr; intros
 iterate 2 (refine Zo ?_; simp)
 refine Zl [] rfl Tryz.func47 (toStringS_d x.fVars (by unfold szs at hz2; omega) _) ?_; simp
 iterate 2 (refine Zo ?_; simp)
 exact Zx
 apply Zr; intros
 iterate 2 (refine Zo ?_; simp)
 refine Zl [] rfl Tryz.func149 (toExpr_d x.fBody (by omega) _) ?_; simp
 iterate 2 (refine Zo ?_; simp)
 exact Zx
 apply Zr; intros
 refine Zm [26] ?_; simp
 refine Zo ?_; simp
 exact Zx
 refine W.ret (Zq ?_)
 simp [Tryz.f201]
theorem toSignatureS_a (l : List TSignature) (hm : l.length ≤ 134217728) (hc : ∀ y ∈ l, ∀ h, CS cx.P 201 [.d (y.dd false)] h (.d (y.dd true)) h) (h : HP) : CS cx.P 143 [.d (.sl false sh154 (l.map (TSignature.dd false)))] h (.d (.sl true sh154 (l.map (TSignature.dd true)))) h := by
 refine Ze Tryz.func143 rfl 23 ?_
 apply Zr; intros
 refine Zo ?_; simp
 exact Zx
 apply Zr; intros
 iterate 4 (refine Zo ?_; simp)
 exact Zx
 refine W.seq ?_
 apply Zr; intros
 refine Zo ?_; simp
 exact Zx
 refine W.block ?_
 refine W.loopk [0, 3] [] (fun k0 => [(4, .d (.lf (.int .i64 (k0 : Int))))]) (fun k0 => [(7, .d (.st (rowL (TSignature.dd true) l k0 (.st [.lf (.string ⟨#[]⟩), .sl true sh88 [], .st [.lf (.int .i64 0), .lf (.string ⟨#[]⟩), .sl true sh88 []], .lf (.bool false), .sl true .one [], .st [.lf (.int .i64 0), .lf (.string ⟨#[]⟩), .lf (.string ⟨#[]⟩), .lf (.int .i64 0), .st [.lf (.int .i64 0), .lf (.string ⟨#[]⟩), .sl true sh88 []], .sl true sh98 [], .sl true sh198 []]]))))]) l.length rfl (by simp) fun k0 hk0 T hT => ?_
 simp at hT; subst hT
 have hr := shs_rowL (f := TSignature.dd true) (s := sh154) (TSignature.sh_dd true) (z := .st [.lf (.string ⟨#[]⟩), .sl true sh88 [], .st [.lf (.int .i64 0), .lf (.string ⟨#[]⟩), .sl true sh88 []], .lf (.bool false), .sl true .one [], .st [.lf (.int .i64 0), .lf (.string ⟨#[]⟩), .lf (.string ⟨#[]⟩), .lf (.int .i64 0), .st [.lf (.int .i64 0), .lf (.string ⟨#[]⟩), .sl true sh88 []], .sl true sh98 [], .sl true sh198 []]]) rfl hk0
 refine W.seq ?_
 apply Zr; intros
 iterate 4 (refine Zo ?_ (by simp [hr, rowL_at] <;> omega); simp [hr, rowL_at])
 exact Zx
 refine Zc rfl ?_ ?_ <;> intro hb0 <;> try simp at hb0
 have hx := ixNext hb0 (by omega)
 refine W.skip ?_
 refine Zb ?_
 apply Zs; intros
 iterate 6 (refine Zo ?_ (by simp [hr, rowL_at, hb0, hx] <;> omega); simp [hr, rowL_at, hb0, hx])
 refine Zl [] rfl Tryz.func201 (hc l[k0] (gm hb0) _) ?_ (by simp [hr, rowL_at, hb0, hx]); simp [hr, rowL_at, hb0, hx]
 iterate 2 (refine Zo ?_ (by simp [hr, rowL_at, hb0, hx] <;> omega); simp [hr, rowL_at, hb0, hx])
 exact Zx
 apply Zs; intros
 iterate 3 (refine Zo ?_ (by simp [hr, rowL_at, hb0, hx] <;> omega); simp [hr, rowL_at, hb0, hx])
 exact Zx
 refine ⟨hb0, Wz.to rfl rfl rfl ?_⟩
 have hs := rowL_set (f := TSignature.dd true) (z := .st [.lf (.string ⟨#[]⟩), .sl true sh88 [], .st [.lf (.int .i64 0), .lf (.string ⟨#[]⟩), .sl true sh88 []], .lf (.bool false), .sl true .one [], .st [.lf (.int .i64 0), .lf (.string ⟨#[]⟩), .lf (.string ⟨#[]⟩), .lf (.int .i64 0), .st [.lf (.int .i64 0), .lf (.string ⟨#[]⟩), .sl true sh88 []], .sl true sh98 [], .sl true sh198 []]]) hb0
 simp at hs
 simp [hs]
 have hkl : k0 = l.length := by omega
 subst hkl
 refine W.frz 3 7 l.length (l.map (TSignature.dd true)) sh154 [] [] rfl (by simp) (by simp) (by simp [rowL_full]) (by simp) (by simp) (by simp) (by simp) rfl ?_
 refine W.exit ?_
 apply Zr; intros
 refine Zm [22] ?_ (by simp [hr, rowL_at] <;> omega); simp [hr, rowL_at]
 refine Zo ?_ (by simp [hr, rowL_at] <;> omega); simp [hr, rowL_at]
 exact Zx
 refine W.ret (Zq ?_)
 simp [Tryz.f143]
theorem toSignatureS_d (l : List TSignature) (hs : szs TSignature.sz l ≤ 134217728) (h : HP) : CS cx.P 143 [.d (.sl false sh154 (l.map (TSignature.dd false)))] h (.d (.sl true sh154 (l.map (TSignature.dd true)))) h := toSignatureS_a l (by unfold szs at hs; omega) (fun y hy h => toSignature_d y (by have := szL_le TSignature.sz hy; unfold szs at hs; omega) h) h
theorem toTrait_d (x : TTrait) (hz : x.sz ≤ 134217728) (h : HP) : CS cx.P 96 [.d (x.dd false)] h (.d (x.dd true)) h := by
 have hz2 := x.sz_eq
 refine Ze Tryz.func96 rfl 22 ?_
 apply Zr; intros
 iterate 2 (refine Zo ?_; simp)
 exact Zx
 apply Zr; intros
 refine Zo ?_; simp
 exact Zx
 apply Zr; intros
 iterate 4 (refine Zo ?_; simp)
 exact Zx
 apply Zr; intros
 iterate 2 (refine Zo ?_; simp)
 refine Zl [] rfl Tryz.func47 (toStringS_d x.fSupertraits (by unfold szs at hz2; omega) _) ?_; simp
 iterate 2 (refine Zo ?_; simp)
 exact Zx
 apply Zr; intros
 iterate 4 (refine Zo ?_; simp)
 exact Zx
 apply Zr; intros
 iterate 4 (refine Zo ?_; simp)
 exact Zx
 apply Zr; intros
 iterate 2 (refine Zo ?_; simp)
 refine Zl [] rfl Tryz.func143 (toSignatureS_d x.fSignatures (by omega) _) ?_; simp
 iterate 2 (refine Zo ?_; simp)
 exact Zx
 apply Zr; intros
 refine Zm [21] ?_; simp
 refine Zo ?_; simp
 exact Zx
 refine W.ret (Zq ?_)
 simp [Tryz.f96]
theorem toTraitS_a (l : List TTrait) (hm : l.length ≤ 134217728) (hc : ∀ y ∈ l, ∀ h, CS cx.P 96 [.d (y.dd false)] h (.d (y.dd true)) h) (h : HP) : CS cx.P 48 [.d (.sl false sh80 (l.map (TTrait.dd false)))] h (.d (.sl true sh80 (l.map (TTrait.dd true)))) h := by
 refine Ze Tryz.func48 rfl 23 ?_
 apply Zr; intros
 refine Zo ?_; simp
 exact Zx
 apply Zr; intros
 iterate 4 (refine Zo ?_; simp)
 exact Zx
 refine W.seq ?_
 apply Zr; intros
 refine Zo ?_; simp
 exact Zx
 refine W.block ?_
 refine W.loopk [0, 3] [] (fun k0 => [(4, .d (.lf (.int .i64 (k0 : Int))))]) (fun k0 => [(7, .d (.st (rowL (TTrait.dd true) l k0 (.st [.lf (.string ⟨#[]⟩), .sl true .one [], .lf (.bool false), .lf (.bool false), .sl true sh154 []]))))]) l.length rfl (by simp) fun k0 hk0 T hT => ?_
 simp at hT; subst hT
 have hr := shs_rowL (f := TTrait.dd true) (s := sh80) (TTrait.sh_dd true) (z := .st [.lf (.string ⟨#[]⟩), .sl true .one [], .lf (.bool false), .lf (.bool false), .sl true sh154 []]) rfl hk0
 refine W.seq ?_
 apply Zr; intros
 iterate 4 (refine Zo ?_ (by simp [hr, rowL_at] <;> omega); simp [hr, rowL_at])
 exact Zx
 refine Zc rfl ?_ ?_ <;> intro hb0 <;> try simp at hb0
 have hx := ixNext hb0 (by omega)
 refine W.skip ?_
 refine Zb ?_
 apply Zs; intros
 iterate 6 (refine Zo ?_ (by simp [hr, rowL_at, hb0, hx] <;> omega); simp [hr, rowL_at, hb0, hx])
 refine Zl [] rfl Tryz.func96 (hc l[k0] (gm hb0) _) ?_ (by simp [hr, rowL_at, hb0, hx]); simp [hr, rowL_at, hb0, hx]
 iterate 2 (refine Zo ?_ (by simp [hr, rowL_at, hb0, hx] <;> omega); simp [hr, rowL_at, hb0, hx])
 exact Zx
 apply Zs; intros
 iterate 3 (refine Zo ?_ (by simp [hr, rowL_at, hb0, hx] <;> omega); simp [hr, rowL_at, hb0, hx])
 exact Zx
 refine ⟨hb0, Wz.to rfl rfl rfl ?_⟩
 have hs := rowL_set (f := TTrait.dd true) (z := .st [.lf (.string ⟨#[]⟩), .sl true .one [], .lf (.bool false), .lf (.bool false), .sl true sh154 []]) hb0
 simp at hs
 simp [hs]
 have hkl : k0 = l.length := by omega
 subst hkl
 refine W.frz 3 7 l.length (l.map (TTrait.dd true)) sh80 [] [] rfl (by simp) (by simp) (by simp [rowL_full]) (by simp) (by simp) (by simp) (by simp) rfl ?_
 refine W.exit ?_
 apply Zr; intros
 refine Zm [22] ?_ (by simp [hr, rowL_at] <;> omega); simp [hr, rowL_at]
 refine Zo ?_ (by simp [hr, rowL_at] <;> omega); simp [hr, rowL_at]
 exact Zx
 refine W.ret (Zq ?_)
 simp [Tryz.f48]
theorem toTraitS_d (l : List TTrait) (hs : szs TTrait.sz l ≤ 134217728) (h : HP) : CS cx.P 48 [.d (.sl false sh80 (l.map (TTrait.dd false)))] h (.d (.sl true sh80 (l.map (TTrait.dd true)))) h := toTraitS_a l (by unfold szs at hs; omega) (fun y hy h => toTrait_d y (by have := szL_le TTrait.sz hy; unfold szs at hs; omega) h) h
theorem toConstructor_d (x : TConstructor) (hz : x.sz ≤ 134217728) (h : HP) : CS cx.P 202 [.d (x.dd false)] h (.d (x.dd true)) h := by
 have hz2 := x.sz_eq
 refine Ze Tryz.func202 rfl 12 ?_
 apply Zr; intros
 iterate 2 (refine Zo ?_; simp)
 exact Zx
 apply Zr; intros
 refine Zo ?_; simp
 exact Zx
 apply Zr; intros
 iterate 4 (refine Zo ?_; simp)
 exact Zx
 apply Zr; intros
 iterate 2 (refine Zo ?_; simp)
 refine Zl [] rfl Tryz.func203 (toTypeS_d x.fFields (by omega) _) ?_; simp
 iterate 2 (refine Zo ?_; simp)
 exact Zx
 apply Zr; intros
 refine Zm [11] ?_; simp
 refine Zo ?_; simp
 exact Zx
 refine W.ret (Zq ?_)
 simp [Tryz.f202]
theorem toConstructorS_a (l : List TConstructor) (hm : l.length ≤ 134217728) (hc : ∀ y ∈ l, ∀ h, CS cx.P 202 [.d (y.dd false)] h (.d (y.dd true)) h) (h : HP) : CS cx.P 144 [.d (.sl false sh159 (l.map (TConstructor.dd false)))] h (.d (.sl true sh159 (l.map (TConstructor.dd true)))) h := by
 refine Ze Tryz.func144 rfl 23 ?_
 apply Zr; intros
 refine Zo ?_; simp
 exact Zx
 apply Zr; intros
 iterate 4 (refine Zo ?_; simp)
 exact Zx
 refine W.seq ?_
 apply Zr; intros
 refine Zo ?_; simp
 exact Zx
 refine W.block ?_
 refine W.loopk [0, 3] [] (fun k0 => [(4, .d (.lf (.int .i64 (k0 : Int))))]) (fun k0 => [(7, .d (.st (rowL (TConstructor.dd true) l k0 (.st [.lf (.string ⟨#[]⟩), .sl true sh88 []]))))]) l.length rfl (by simp) fun k0 hk0 T hT => ?_
 simp at hT; subst hT
 have hr := shs_rowL (f := TConstructor.dd true) (s := sh159) (TConstructor.sh_dd true) (z := .st [.lf (.string ⟨#[]⟩), .sl true sh88 []]) rfl hk0
 refine W.seq ?_
 apply Zr; intros
 iterate 4 (refine Zo ?_ (by simp [hr, rowL_at] <;> omega); simp [hr, rowL_at])
 exact Zx
 refine Zc rfl ?_ ?_ <;> intro hb0 <;> try simp at hb0
 have hx := ixNext hb0 (by omega)
 refine W.skip ?_
 refine Zb ?_
 apply Zs; intros
 iterate 6 (refine Zo ?_ (by simp [hr, rowL_at, hb0, hx] <;> omega); simp [hr, rowL_at, hb0, hx])
 refine Zl [] rfl Tryz.func202 (hc l[k0] (gm hb0) _) ?_ (by simp [hr, rowL_at, hb0, hx]); simp [hr, rowL_at, hb0, hx]
 iterate 2 (refine Zo ?_ (by simp [hr, rowL_at, hb0, hx] <;> omega); simp [hr, rowL_at, hb0, hx])
 exact Zx
 apply Zs; intros
 iterate 3 (refine Zo ?_ (by simp [hr, rowL_at, hb0, hx] <;> omega); simp [hr, rowL_at, hb0, hx])
 exact Zx
 refine ⟨hb0, Wz.to rfl rfl rfl ?_⟩
 have hs := rowL_set (f := TConstructor.dd true) (z := .st [.lf (.string ⟨#[]⟩), .sl true sh88 []]) hb0
 simp at hs
 simp [hs]
 have hkl : k0 = l.length := by omega
 subst hkl
 refine W.frz 3 7 l.length (l.map (TConstructor.dd true)) sh159 [] [] rfl (by simp) (by simp) (by simp [rowL_full]) (by simp) (by simp) (by simp) (by simp) rfl ?_
 refine W.exit ?_
 apply Zr; intros
 refine Zm [22] ?_ (by simp [hr, rowL_at] <;> omega); simp [hr, rowL_at]
 refine Zo ?_ (by simp [hr, rowL_at] <;> omega); simp [hr, rowL_at]
 exact Zx
 refine W.ret (Zq ?_)
 simp [Tryz.f144]
theorem toConstructorS_d (l : List TConstructor) (hs : szs TConstructor.sz l ≤ 134217728) (h : HP) : CS cx.P 144 [.d (.sl false sh159 (l.map (TConstructor.dd false)))] h (.d (.sl true sh159 (l.map (TConstructor.dd true)))) h := toConstructorS_a l (by unfold szs at hs; omega) (fun y hy h => toConstructor_d y (by have := szL_le TConstructor.sz hy; unfold szs at hs; omega) h) h
theorem toDataType_d (x : TDataType) (hz : x.sz ≤ 134217728) (h : HP) : CS cx.P 97 [.d (x.dd false)] h (.d (x.dd true)) h := by
 have hz2 := x.sz_eq
 refine Ze Tryz.func97 rfl 16 ?_
 apply Zr; intros
 iterate 2 (refine Zo ?_; simp)
 exact Zx
 apply Zr; intros
 refine Zo ?_; simp
 exact Zx
 apply Zr; intros
 iterate 4 (refine Zo ?_; simp)
 exact Zx
 apply Zr; intros
 iterate 2 (refine Zo ?_; simp)
 refine Zl [] rfl Tryz.func47 (toStringS_d x.fVars (by unfold szs at hz2; omega) _) ?_; simp
 iterate 2 (refine Zo ?_; simp)
 exact Zx
 apply Zr; intros
 iterate 2 (refine Zo ?_; simp)
 refine Zl [] rfl Tryz.func144 (toConstructorS_d x.fConstructors (by omega) _) ?_; simp
 iterate 2 (refine Zo ?_; simp)
 exact Zx
 apply Zr; intros
 refine Zm [15] ?_; simp
 refine Zo ?_; simp
 exact Zx
 refine W.ret (Zq ?_)
 simp [Tryz.f97]
theorem toDataTypeS_a (l : List TDataType) (hm : l.length ≤ 134217728) (hc : ∀ y ∈ l, ∀ h, CS cx.P 97 [.d (y.dd false)] h (.d (y.dd true)) h) (h : HP) : CS cx.P 49 [.d (.sl false sh84 (l.map (TDataType.dd false)))] h (.d (.sl true sh84 (l.map (TDataType.dd true)))) h := by
 refine Ze Tryz.func49 rfl 23 ?_
 apply Zr; intros
 refine Zo ?_; simp
 exact Zx
 apply Zr; intros
 iterate 4 (refine Zo ?_; simp)
 exact Zx
 refine W.seq ?_
 apply Zr; intros
 refine Zo ?_; simp
 exact Zx
 refine W.block ?_
 refine W.loopk [0, 3] [] (fun k0 => [(4, .d (.lf (.int .i64 (k0 : Int))))]) (fun k0 => [(7, .d (.st (rowL (TDataType.dd true) l k0 (.st [.lf (.string ⟨#[]⟩), .sl true .one [], .sl true sh159 []]))))]) l.length rfl (by simp) fun k0 hk0 T hT => ?_
 simp at hT; subst hT
 have hr := shs_rowL (f := TDataType.dd true) (s := sh84) (TDataType.sh_dd true) (z := .st [.lf (.string ⟨#[]⟩), .sl true .one [], .sl true sh159 []]) rfl hk0
 refine W.seq ?_
 apply Zr; intros
 iterate 4 (refine Zo ?_ (by simp [hr, rowL_at] <;> omega); simp [hr, rowL_at])
 exact Zx
 refine Zc rfl ?_ ?_ <;> intro hb0 <;> try simp at hb0
 have hx := ixNext hb0 (by omega)
 refine W.skip ?_
 refine Zb ?_
 apply Zs; intros
 iterate 6 (refine Zo ?_ (by simp [hr, rowL_at, hb0, hx] <;> omega); simp [hr, rowL_at, hb0, hx])
 refine Zl [] rfl Tryz.func97 (hc l[k0] (gm hb0) _) ?_ (by simp [hr, rowL_at, hb0, hx]); simp [hr, rowL_at, hb0, hx]
 iterate 2 (refine Zo ?_ (by simp [hr, rowL_at, hb0, hx] <;> omega); simp [hr, rowL_at, hb0, hx])
 exact Zx
 apply Zs; intros
 iterate 3 (refine Zo ?_ (by simp [hr, rowL_at, hb0, hx] <;> omega); simp [hr, rowL_at, hb0, hx])
 exact Zx
 refine ⟨hb0, Wz.to rfl rfl rfl ?_⟩
 have hs := rowL_set (f := TDataType.dd true) (z := .st [.lf (.string ⟨#[]⟩), .sl true .one [], .sl true sh159 []]) hb0
 simp at hs
 simp [hs]
 have hkl : k0 = l.length := by omega
 subst hkl
 refine W.frz 3 7 l.length (l.map (TDataType.dd true)) sh84 [] [] rfl (by simp) (by simp) (by simp [rowL_full]) (by simp) (by simp) (by simp) (by simp) rfl ?_
 refine W.exit ?_
 apply Zr; intros
 refine Zm [22] ?_ (by simp [hr, rowL_at] <;> omega); simp [hr, rowL_at]
 refine Zo ?_ (by simp [hr, rowL_at] <;> omega); simp [hr, rowL_at]
 exact Zx
 refine W.ret (Zq ?_)
 simp [Tryz.f49]
theorem toDataTypeS_d (l : List TDataType) (hs : szs TDataType.sz l ≤ 134217728) (h : HP) : CS cx.P 49 [.d (.sl false sh84 (l.map (TDataType.dd false)))] h (.d (.sl true sh84 (l.map (TDataType.dd true)))) h := toDataTypeS_a l (by unfold szs at hs; omega) (fun y hy h => toDataType_d y (by have := szL_le TDataType.sz hy; unfold szs at hs; omega) h) h
theorem toBound_d (x : TBound) (hz : x.sz ≤ 134217728) (h : HP) : CS cx.P 204 [.d (x.dd false)] h (.d (x.dd true)) h := by
 have hz2 := x.sz_eq
 refine Ze Tryz.func204 rfl 12 ?_
 apply Zr; intros
 iterate 2 (refine Zo ?_; simp)
 exact Zx
 apply Zr; intros
 refine Zo ?_; simp
 exact Zx
 apply Zr; intros
 iterate 4 (refine Zo ?_; simp)
 exact Zx
 apply Zr; intros
 iterate 2 (refine Zo ?_; simp)
 refine Zl [] rfl Tryz.func145 (toType_d x.fType (by omega) _) ?_; simp
 iterate 2 (refine Zo ?_; simp)
 exact Zx
 apply Zr; intros
 refine Zm [11] ?_; simp
 refine Zo ?_; simp
 exact Zx
 refine W.ret (Zq ?_)
 simp [Tryz.f204]
theorem toBoundS_a (l : List TBound) (hm : l.length ≤ 134217728) (hc : ∀ y ∈ l, ∀ h, CS cx.P 204 [.d (y.dd false)] h (.d (y.dd true)) h) (h : HP) : CS cx.P 146 [.d (.sl false sh206 (l.map (TBound.dd false)))] h (.d (.sl true sh206 (l.map (TBound.dd true)))) h := by
 refine Ze Tryz.func146 rfl 23 ?_
 apply Zr; intros
 refine Zo ?_; simp
 exact Zx
 apply Zr; intros
 iterate 4 (refine Zo ?_; simp)
 exact Zx
 refine W.seq ?_
 apply Zr; intros
 refine Zo ?_; simp
 exact Zx
 refine W.block ?_
 refine W.loopk [0, 3] [] (fun k0 => [(4, .d (.lf (.int .i64 (k0 : Int))))]) (fun k0 => [(7, .d (.st (rowL (TBound.dd true) l k0 (.st [.lf (.string ⟨#[]⟩), .st [.lf (.int .i64 0), .lf (.string ⟨#[]⟩), .sl true sh88 []]]))))]) l.length rfl (by simp) fun k0 hk0 T hT => ?_
 simp at hT; subst hT
 have hr := shs_rowL (f := TBound.dd true) (s := sh206) (TBound.sh_dd true) (z := .st [.lf (.string ⟨#[]⟩), .st [.lf (.int .i64 0), .lf (.string ⟨#[]⟩), .sl true sh88 []]]) rfl hk0
 refine W.seq ?_
 apply Zr; intros
 iterate 4 (refine Zo ?_ (by simp [hr, rowL_at] <;> omega); simp [hr, rowL_at])
 exact Zx
 refine Zc rfl ?_ ?_ <;> intro hb0 <;> try simp at hb0
 have hx := ixNext hb0 (by omega)
 refine W.skip ?_
 refine Zb ?_
 apply Zs; intros
 iterate 6 (refine Zo ?_ (by simp [hr, rowL_at, hb0, hx] <;> omega); simp [hr, rowL_at, hb0, hx])
 refine Zl [] rfl Tryz.func204 (hc l[k0] (gm hb0) _) ?_ (by simp [hr, rowL_at, hb0, hx]); simp [hr, rowL_at, hb0, hx]
 iterate 2 (refine Zo ?_ (by simp [hr, rowL_at, hb0, hx] <;> omega); simp [hr, rowL_at, hb0, hx])
 exact Zx
 apply Zs; intros
 iterate 3 (refine Zo ?_ (by simp [hr, rowL_at, hb0, hx] <;> omega); simp [hr, rowL_at, hb0, hx])
 exact Zx
 refine ⟨hb0, Wz.to rfl rfl rfl ?_⟩
 have hs := rowL_set (f := TBound.dd true) (z := .st [.lf (.string ⟨#[]⟩), .st [.lf (.int .i64 0), .lf (.string ⟨#[]⟩), .sl true sh88 []]]) hb0
 simp at hs
 simp [hs]
 have hkl : k0 = l.length := by omega
 subst hkl
 refine W.frz 3 7 l.length (l.map (TBound.dd true)) sh206 [] [] rfl (by simp) (by simp) (by simp [rowL_full]) (by simp) (by simp) (by simp) (by simp) rfl ?_
 refine W.exit ?_
 apply Zr; intros
 refine Zm [22] ?_ (by simp [hr, rowL_at] <;> omega); simp [hr, rowL_at]
 refine Zo ?_ (by simp [hr, rowL_at] <;> omega); simp [hr, rowL_at]
 exact Zx
 refine W.ret (Zq ?_)
 simp [Tryz.f146]
theorem toBoundS_d (l : List TBound) (hs : szs TBound.sz l ≤ 134217728) (h : HP) : CS cx.P 146 [.d (.sl false sh206 (l.map (TBound.dd false)))] h (.d (.sl true sh206 (l.map (TBound.dd true)))) h := toBoundS_a l (by unfold szs at hs; omega) (fun y hy h => toBound_d y (by have := szL_le TBound.sz hy; unfold szs at hs; omega) h) h
theorem toMethod_d (x : TMethod) (hz : x.sz ≤ 134217728) (h : HP) : CS cx.P 205 [.d (x.dd false)] h (.d (x.dd true)) h := by
 have hz2 := x.sz_eq
 refine Ze Tryz.func205 rfl 16 ?_
 apply Zr; intros
 iterate 2 (refine Zo ?_; simp)
 exact Zx
 apply Zr; intros
 refine Zo ?_; simp
 exact Zx
 apply Zr; intros
 iterate 4 (refine Zo ?_; simp)
 exact Zx
 apply Zr; intros
 iterate 2 (refine Zo ?_; simp)
 refine Zl [] rfl Tryz.func47 (toStringS_d x.fVars (by unfold szs at hz2; omega) _) ?_; simp
 iterate 2 (refine Zo ?_; simp)
 exact Zx
 apply Zr; intros
 iterate 2 (refine Zo ?_; simp)
 refine Zl [] rfl Tryz.func149 (toExpr_d x.fBody (by omega) _) ?_; simp
 iterate 2 (refine Zo ?_; simp)
 exact Zx
 apply Zr; intros
 refine Zm [15] ?_; simp
 refine Zo ?_; simp
 exact Zx
 refine W.ret (Zq ?_)
 simp [Tryz.f205]
theorem toMethodS_a (l : List TMethod) (hm : l.length ≤ 134217728) (hc : ∀ y ∈ l, ∀ h, CS cx.P 205 [.d (y.dd false)] h (.d (y.dd true)) h) (h : HP) : CS cx.P 147 [.d (.sl false sh164 (l.map (TMethod.dd false)))] h (.d (.sl true sh164 (l.map (TMethod.dd true)))) h := by
 refine Ze Tryz.func147 rfl 23 ?_
 apply Zr; intros
 refine Zo ?_; simp
 exact Zx
 apply Zr; intros
 iterate 4 (refine Zo ?_; simp)
 exact Zx
 refine W.seq ?_
 apply Zr; intros
 refine Zo ?_; simp
 exact Zx
 refine W.block ?_
 refine W.loopk [0, 3] [] (fun k0 => [(4, .d (.lf (.int .i64 (k0 : Int))))]) (fun k0 => [(7, .d (.st (rowL (TMethod.dd true) l k0 (.st [.lf (.string ⟨#[]⟩), .sl true .one [], .st [.lf (.int .i64 0), .lf (.string ⟨#[]⟩), .lf (.string ⟨#[]⟩), .lf (.int .i64 0), .st [.lf (.int .i64 0), .lf (.string ⟨#[]⟩), .sl true sh88 []], .sl true sh98 [], .sl true sh198 []]]))))]) l.length rfl (by simp) fun k0 hk0 T hT => ?_
 simp at hT; subst hT
 have hr := shs_rowL (f := TMethod.dd true) (s := sh164) (TMethod.sh_dd true) (z := .st [.lf (.string ⟨#[]⟩), .sl true .one [], .st [.lf (.int .i64 0), .lf (.string ⟨#[]⟩), .lf (.string ⟨#[]⟩), .lf (.int .i64 0), .st [.lf (.int .i64 0), .lf (.string ⟨#[]⟩), .sl true sh88 []], .sl true sh98 [], .sl true sh198 []]]) rfl hk0
 refine W.seq ?_
 apply Zr; intros
 iterate 4 (refine Zo ?_ (by simp [hr, rowL_at] <;> omega); simp [hr, rowL_at])
 exact Zx
 refine Zc rfl ?_ ?_ <;> intro hb0 <;> try simp at hb0
 have hx := ixNext hb0 (by omega)
 refine W.skip ?_
 refine Zb ?_
 apply Zs; intros
 iterate 6 (refine Zo ?_ (by simp [hr, rowL_at, hb0, hx] <;> omega); simp [hr, rowL_at, hb0, hx])
 refine Zl [] rfl Tryz.func205 (hc l[k0] (gm hb0) _) ?_ (by simp [hr, rowL_at, hb0, hx]); simp [hr, rowL_at, hb0, hx]
 iterate 2 (refine Zo ?_ (by simp [hr, rowL_at, hb0, hx] <;> omega); simp [hr, rowL_at, hb0, hx])
 exact Zx
 apply Zs; intros
 iterate 3 (refine Zo ?_ (by simp [hr, rowL_at, hb0, hx] <;> omega); simp [hr, rowL_at, hb0, hx])
 exact Zx
 refine ⟨hb0, Wz.to rfl rfl rfl ?_⟩
 have hs := rowL_set (f := TMethod.dd true) (z := .st [.lf (.string ⟨#[]⟩), .sl true .one [], .st [.lf (.int .i64 0), .lf (.string ⟨#[]⟩), .lf (.string ⟨#[]⟩), .lf (.int .i64 0), .st [.lf (.int .i64 0), .lf (.string ⟨#[]⟩), .sl true sh88 []], .sl true sh98 [], .sl true sh198 []]]) hb0
 simp at hs
 simp [hs]
 have hkl : k0 = l.length := by omega
 subst hkl
 refine W.frz 3 7 l.length (l.map (TMethod.dd true)) sh164 [] [] rfl (by simp) (by simp) (by simp [rowL_full]) (by simp) (by simp) (by simp) (by simp) rfl ?_
 refine W.exit ?_
 apply Zr; intros
 refine Zm [22] ?_ (by simp [hr, rowL_at] <;> omega); simp [hr, rowL_at]
 refine Zo ?_ (by simp [hr, rowL_at] <;> omega); simp [hr, rowL_at]
 exact Zx
 refine W.ret (Zq ?_)
 simp [Tryz.f147]
theorem toMethodS_d (l : List TMethod) (hs : szs TMethod.sz l ≤ 134217728) (h : HP) : CS cx.P 147 [.d (.sl false sh164 (l.map (TMethod.dd false)))] h (.d (.sl true sh164 (l.map (TMethod.dd true)))) h := toMethodS_a l (by unfold szs at hs; omega) (fun y hy h => toMethod_d y (by have := szL_le TMethod.sz hy; unfold szs at hs; omega) h) h
theorem toInstance_d (x : TInstance) (hz : x.sz ≤ 134217728) (h : HP) : CS cx.P 98 [.d (x.dd false)] h (.d (x.dd true)) h := by
 have hz2 := x.sz_eq
 refine Ze Tryz.func98 rfl 34 ?_
 apply Zr; intros
 iterate 2 (refine Zo ?_; simp)
 exact Zx
 apply Zr; intros
 refine Zo ?_; simp
 exact Zx
 apply Zr; intros
 iterate 4 (refine Zo ?_; simp)
 exact Zx
 apply Zr; intros
 iterate 2 (refine Zo ?_; simp)
 refine Zl [] rfl Tryz.func47 (toStringS_d x.fVars (by unfold szs at hz2; omega) _) ?_; simp
 iterate 2 (refine Zo ?_; simp)
 exact Zx
 apply Zr; intros
 iterate 2 (refine Zo ?_; simp)
 refine Zl [] rfl Tryz.func145 (toType_d x.fHead (by omega) _) ?_; simp
 iterate 2 (refine Zo ?_; simp)
 exact Zx
 apply Zr; intros
 iterate 2 (refine Zo ?_; simp)
 refine Zl [] rfl Tryz.func146 (toBoundS_d x.fWhere (by omega) _) ?_; simp
 iterate 2 (refine Zo ?_; simp)
 exact Zx
 apply Zr; intros
 iterate 4 (refine Zo ?_; simp)
 exact Zx
 apply Zr; intros
 iterate 4 (refine Zo ?_; simp)
 exact Zx
 apply Zr; intros
 iterate 2 (refine Zo ?_; simp)
 refine Zl [] rfl Tryz.func145 (toType_d x.fAssoc (by omega) _) ?_; simp
 iterate 2 (refine Zo ?_; simp)
 exact Zx
 apply Zr; intros
 iterate 2 (refine Zo ?_; simp)
 refine Zl [] rfl Tryz.func147 (toMethodS_d x.fMethods (by omega) _) ?_; simp
 iterate 2 (refine Zo ?_; simp)
 exact Zx
 apply Zr; intros
 refine Zm [33] ?_; simp
 refine Zo ?_; simp
 exact Zx
 refine W.ret (Zq ?_)
 simp [Tryz.f98]
theorem toInstanceS_a (l : List TInstance) (hm : l.length ≤ 134217728) (hc : ∀ y ∈ l, ∀ h, CS cx.P 98 [.d (y.dd false)] h (.d (y.dd true)) h) (h : HP) : CS cx.P 50 [.d (.sl false sh92 (l.map (TInstance.dd false)))] h (.d (.sl true sh92 (l.map (TInstance.dd true)))) h := by
 refine Ze Tryz.func50 rfl 23 ?_
 apply Zr; intros
 refine Zo ?_; simp
 exact Zx
 apply Zr; intros
 iterate 4 (refine Zo ?_; simp)
 exact Zx
 refine W.seq ?_
 apply Zr; intros
 refine Zo ?_; simp
 exact Zx
 refine W.block ?_
 refine W.loopk [0, 3] [] (fun k0 => [(4, .d (.lf (.int .i64 (k0 : Int))))]) (fun k0 => [(7, .d (.st (rowL (TInstance.dd true) l k0 (.st [.lf (.string ⟨#[]⟩), .sl true .one [], .st [.lf (.int .i64 0), .lf (.string ⟨#[]⟩), .sl true sh88 []], .sl true sh206 [], .lf (.bool false), .lf (.bool false), .st [.lf (.int .i64 0), .lf (.string ⟨#[]⟩), .sl true sh88 []], .sl true sh164 []]))))]) l.length rfl (by simp) fun k0 hk0 T hT => ?_
 simp at hT; subst hT
 have hr := shs_rowL (f := TInstance.dd true) (s := sh92) (TInstance.sh_dd true) (z := .st [.lf (.string ⟨#[]⟩), .sl true .one [], .st [.lf (.int .i64 0), .lf (.string ⟨#[]⟩), .sl true sh88 []], .sl true sh206 [], .lf (.bool false), .lf (.bool false), .st [.lf (.int .i64 0), .lf (.string ⟨#[]⟩), .sl true sh88 []], .sl true sh164 []]) rfl hk0
 refine W.seq ?_
 apply Zr; intros
 iterate 4 (refine Zo ?_ (by simp [hr, rowL_at] <;> omega); simp [hr, rowL_at])
 exact Zx
 refine Zc rfl ?_ ?_ <;> intro hb0 <;> try simp at hb0
 have hx := ixNext hb0 (by omega)
 refine W.skip ?_
 refine Zb ?_
 apply Zs; intros
 iterate 6 (refine Zo ?_ (by simp [hr, rowL_at, hb0, hx] <;> omega); simp [hr, rowL_at, hb0, hx])
 refine Zl [] rfl Tryz.func98 (hc l[k0] (gm hb0) _) ?_ (by simp [hr, rowL_at, hb0, hx]); simp [hr, rowL_at, hb0, hx]
 iterate 2 (refine Zo ?_ (by simp [hr, rowL_at, hb0, hx] <;> omega); simp [hr, rowL_at, hb0, hx])
 exact Zx
 apply Zs; intros
 iterate 3 (refine Zo ?_ (by simp [hr, rowL_at, hb0, hx] <;> omega); simp [hr, rowL_at, hb0, hx])
 exact Zx
 refine ⟨hb0, Wz.to rfl rfl rfl ?_⟩
 have hs := rowL_set (f := TInstance.dd true) (z := .st [.lf (.string ⟨#[]⟩), .sl true .one [], .st [.lf (.int .i64 0), .lf (.string ⟨#[]⟩), .sl true sh88 []], .sl true sh206 [], .lf (.bool false), .lf (.bool false), .st [.lf (.int .i64 0), .lf (.string ⟨#[]⟩), .sl true sh88 []], .sl true sh164 []]) hb0
 simp at hs
 simp [hs]
 have hkl : k0 = l.length := by omega
 subst hkl
 refine W.frz 3 7 l.length (l.map (TInstance.dd true)) sh92 [] [] rfl (by simp) (by simp) (by simp [rowL_full]) (by simp) (by simp) (by simp) (by simp) rfl ?_
 refine W.exit ?_
 apply Zr; intros
 refine Zm [22] ?_ (by simp [hr, rowL_at] <;> omega); simp [hr, rowL_at]
 refine Zo ?_ (by simp [hr, rowL_at] <;> omega); simp [hr, rowL_at]
 exact Zx
 refine W.ret (Zq ?_)
 simp [Tryz.f50]
theorem toInstanceS_d (l : List TInstance) (hs : szs TInstance.sz l ≤ 134217728) (h : HP) : CS cx.P 50 [.d (.sl false sh92 (l.map (TInstance.dd false)))] h (.d (.sl true sh92 (l.map (TInstance.dd true)))) h := toInstanceS_a l (by unfold szs at hs; omega) (fun y hy h => toInstance_d y (by have := szL_le TInstance.sz hy; unfold szs at hs; omega) h) h
theorem toParam_d (x : TParam) (hz : x.sz ≤ 134217728) (h : HP) : CS cx.P 206 [.d (x.dd false)] h (.d (x.dd true)) h := by
 have hz2 := x.sz_eq
 refine Ze Tryz.func206 rfl 12 ?_
 apply Zr; intros
 iterate 2 (refine Zo ?_; simp)
 exact Zx
 apply Zr; intros
 refine Zo ?_; simp
 exact Zx
 apply Zr; intros
 iterate 4 (refine Zo ?_; simp)
 exact Zx
 apply Zr; intros
 iterate 2 (refine Zo ?_; simp)
 refine Zl [] rfl Tryz.func145 (toType_d x.fType (by omega) _) ?_; simp
 iterate 2 (refine Zo ?_; simp)
 exact Zx
 apply Zr; intros
 refine Zm [11] ?_; simp
 refine Zo ?_; simp
 exact Zx
 refine W.ret (Zq ?_)
 simp [Tryz.f206]
theorem toParamS_a (l : List TParam) (hm : l.length ≤ 134217728) (hc : ∀ y ∈ l, ∀ h, CS cx.P 206 [.d (y.dd false)] h (.d (y.dd true)) h) (h : HP) : CS cx.P 148 [.d (.sl false sh167 (l.map (TParam.dd false)))] h (.d (.sl true sh167 (l.map (TParam.dd true)))) h := by
 refine Ze Tryz.func148 rfl 23 ?_
 apply Zr; intros
 refine Zo ?_; simp
 exact Zx
 apply Zr; intros
 iterate 4 (refine Zo ?_; simp)
 exact Zx
 refine W.seq ?_
 apply Zr; intros
 refine Zo ?_; simp
 exact Zx
 refine W.block ?_
 refine W.loopk [0, 3] [] (fun k0 => [(4, .d (.lf (.int .i64 (k0 : Int))))]) (fun k0 => [(7, .d (.st (rowL (TParam.dd true) l k0 (.st [.lf (.string ⟨#[]⟩), .st [.lf (.int .i64 0), .lf (.string ⟨#[]⟩), .sl true sh88 []]]))))]) l.length rfl (by simp) fun k0 hk0 T hT => ?_
 simp at hT; subst hT
 have hr := shs_rowL (f := TParam.dd true) (s := sh167) (TParam.sh_dd true) (z := .st [.lf (.string ⟨#[]⟩), .st [.lf (.int .i64 0), .lf (.string ⟨#[]⟩), .sl true sh88 []]]) rfl hk0
 refine W.seq ?_
 apply Zr; intros
 iterate 4 (refine Zo ?_ (by simp [hr, rowL_at] <;> omega); simp [hr, rowL_at])
 exact Zx
 refine Zc rfl ?_ ?_ <;> intro hb0 <;> try simp at hb0
 have hx := ixNext hb0 (by omega)
 refine W.skip ?_
 refine Zb ?_
 apply Zs; intros
 iterate 6 (refine Zo ?_ (by simp [hr, rowL_at, hb0, hx] <;> omega); simp [hr, rowL_at, hb0, hx])
 refine Zl [] rfl Tryz.func206 (hc l[k0] (gm hb0) _) ?_ (by simp [hr, rowL_at, hb0, hx]); simp [hr, rowL_at, hb0, hx]
 iterate 2 (refine Zo ?_ (by simp [hr, rowL_at, hb0, hx] <;> omega); simp [hr, rowL_at, hb0, hx])
 exact Zx
 apply Zs; intros
 iterate 3 (refine Zo ?_ (by simp [hr, rowL_at, hb0, hx] <;> omega); simp [hr, rowL_at, hb0, hx])
 exact Zx
 refine ⟨hb0, Wz.to rfl rfl rfl ?_⟩
 have hs := rowL_set (f := TParam.dd true) (z := .st [.lf (.string ⟨#[]⟩), .st [.lf (.int .i64 0), .lf (.string ⟨#[]⟩), .sl true sh88 []]]) hb0
 simp at hs
 simp [hs]
 have hkl : k0 = l.length := by omega
 subst hkl
 refine W.frz 3 7 l.length (l.map (TParam.dd true)) sh167 [] [] rfl (by simp) (by simp) (by simp [rowL_full]) (by simp) (by simp) (by simp) (by simp) rfl ?_
 refine W.exit ?_
 apply Zr; intros
 refine Zm [22] ?_ (by simp [hr, rowL_at] <;> omega); simp [hr, rowL_at]
 refine Zo ?_ (by simp [hr, rowL_at] <;> omega); simp [hr, rowL_at]
 exact Zx
 refine W.ret (Zq ?_)
 simp [Tryz.f148]
theorem toParamS_d (l : List TParam) (hs : szs TParam.sz l ≤ 134217728) (h : HP) : CS cx.P 148 [.d (.sl false sh167 (l.map (TParam.dd false)))] h (.d (.sl true sh167 (l.map (TParam.dd true)))) h := toParamS_a l (by unfold szs at hs; omega) (fun y hy h => toParam_d y (by have := szL_le TParam.sz hy; unfold szs at hs; omega) h) h
theorem toFunction_d (x : TFunction) (hz : x.sz ≤ 134217728) (h : HP) : CS cx.P 99 [.d (x.dd false)] h (.d (x.dd true)) h := by
 have hz2 := x.sz_eq
 refine Ze Tryz.func99 rfl 28 ?_
 apply Zr; intros
 iterate 2 (refine Zo ?_; simp)
 exact Zx
 apply Zr; intros
 refine Zo ?_; simp
 exact Zx
 apply Zr; intros
 iterate 4 (refine Zo ?_; simp)
 exact Zx
 apply Zr; intros
 iterate 2 (refine Zo ?_; simp)
 refine Zl [] rfl Tryz.func47 (toStringS_d x.fVars (by unfold szs at hz2; omega) _) ?_; simp
 iterate 2 (refine Zo ?_; simp)
 exact Zx
 apply Zr; intros
 iterate 2 (refine Zo ?_; simp)
 refine Zl [] rfl Tryz.func146 (toBoundS_d x.fWhere (by omega) _) ?_; simp
 iterate 2 (refine Zo ?_; simp)
 exact Zx
 apply Zr; intros
 iterate 2 (refine Zo ?_; simp)
 refine Zl [] rfl Tryz.func148 (toParamS_d x.fParams (by omega) _) ?_; simp
 iterate 2 (refine Zo ?_; simp)
 exact Zx
 apply Zr; intros
 iterate 2 (refine Zo ?_; simp)
 refine Zl [] rfl Tryz.func145 (toType_d x.fResult (by omega) _) ?_; simp
 iterate 2 (refine Zo ?_; simp)
 exact Zx
 apply Zr; intros
 iterate 2 (refine Zo ?_; simp)
 refine Zl [] rfl Tryz.func149 (toExpr_d x.fBody (by omega) _) ?_; simp
 iterate 2 (refine Zo ?_; simp)
 exact Zx
 apply Zr; intros
 refine Zm [27] ?_; simp
 refine Zo ?_; simp
 exact Zx
 refine W.ret (Zq ?_)
 simp [Tryz.f99]
theorem toFunctionS_a (l : List TFunction) (hm : l.length ≤ 134217728) (hc : ∀ y ∈ l, ∀ h, CS cx.P 99 [.d (y.dd false)] h (.d (y.dd true)) h) (h : HP) : CS cx.P 51 [.d (.sl false sh100 (l.map (TFunction.dd false)))] h (.d (.sl true sh100 (l.map (TFunction.dd true)))) h := by
 refine Ze Tryz.func51 rfl 23 ?_
 apply Zr; intros
 refine Zo ?_; simp
 exact Zx
 apply Zr; intros
 iterate 4 (refine Zo ?_; simp)
 exact Zx
 refine W.seq ?_
 apply Zr; intros
 refine Zo ?_; simp
 exact Zx
 refine W.block ?_
 refine W.loopk [0, 3] [] (fun k0 => [(4, .d (.lf (.int .i64 (k0 : Int))))]) (fun k0 => [(7, .d (.st (rowL (TFunction.dd true) l k0 (.st [.lf (.string ⟨#[]⟩), .sl true .one [], .sl true sh206 [], .sl true sh167 [], .st [.lf (.int .i64 0), .lf (.string ⟨#[]⟩), .sl true sh88 []], .st [.lf (.int .i64 0), .lf (.string ⟨#[]⟩), .lf (.string ⟨#[]⟩), .lf (.int .i64 0), .st [.lf (.int .i64 0), .lf (.string ⟨#[]⟩), .sl true sh88 []], .sl true sh98 [], .sl true sh198 []]]))))]) l.length rfl (by simp) fun k0 hk0 T hT => ?_
 simp at hT; subst hT
 have hr := shs_rowL (f := TFunction.dd true) (s := sh100) (TFunction.sh_dd true) (z := .st [.lf (.string ⟨#[]⟩), .sl true .one [], .sl true sh206 [], .sl true sh167 [], .st [.lf (.int .i64 0), .lf (.string ⟨#[]⟩), .sl true sh88 []], .st [.lf (.int .i64 0), .lf (.string ⟨#[]⟩), .lf (.string ⟨#[]⟩), .lf (.int .i64 0), .st [.lf (.int .i64 0), .lf (.string ⟨#[]⟩), .sl true sh88 []], .sl true sh98 [], .sl true sh198 []]]) rfl hk0
 refine W.seq ?_
 apply Zr; intros
 iterate 4 (refine Zo ?_ (by simp [hr, rowL_at] <;> omega); simp [hr, rowL_at])
 exact Zx
 refine Zc rfl ?_ ?_ <;> intro hb0 <;> try simp at hb0
 have hx := ixNext hb0 (by omega)
 refine W.skip ?_
 refine Zb ?_
 apply Zs; intros
 iterate 6 (refine Zo ?_ (by simp [hr, rowL_at, hb0, hx] <;> omega); simp [hr, rowL_at, hb0, hx])
 refine Zl [] rfl Tryz.func99 (hc l[k0] (gm hb0) _) ?_ (by simp [hr, rowL_at, hb0, hx]); simp [hr, rowL_at, hb0, hx]
 iterate 2 (refine Zo ?_ (by simp [hr, rowL_at, hb0, hx] <;> omega); simp [hr, rowL_at, hb0, hx])
 exact Zx
 apply Zs; intros
 iterate 3 (refine Zo ?_ (by simp [hr, rowL_at, hb0, hx] <;> omega); simp [hr, rowL_at, hb0, hx])
 exact Zx
 refine ⟨hb0, Wz.to rfl rfl rfl ?_⟩
 have hs := rowL_set (f := TFunction.dd true) (z := .st [.lf (.string ⟨#[]⟩), .sl true .one [], .sl true sh206 [], .sl true sh167 [], .st [.lf (.int .i64 0), .lf (.string ⟨#[]⟩), .sl true sh88 []], .st [.lf (.int .i64 0), .lf (.string ⟨#[]⟩), .lf (.string ⟨#[]⟩), .lf (.int .i64 0), .st [.lf (.int .i64 0), .lf (.string ⟨#[]⟩), .sl true sh88 []], .sl true sh98 [], .sl true sh198 []]]) hb0
 simp at hs
 simp [hs]
 have hkl : k0 = l.length := by omega
 subst hkl
 refine W.frz 3 7 l.length (l.map (TFunction.dd true)) sh100 [] [] rfl (by simp) (by simp) (by simp [rowL_full]) (by simp) (by simp) (by simp) (by simp) rfl ?_
 refine W.exit ?_
 apply Zr; intros
 refine Zm [22] ?_ (by simp [hr, rowL_at] <;> omega); simp [hr, rowL_at]
 refine Zo ?_ (by simp [hr, rowL_at] <;> omega); simp [hr, rowL_at]
 exact Zx
 refine W.ret (Zq ?_)
 simp [Tryz.f51]
theorem toFunctionS_d (l : List TFunction) (hs : szs TFunction.sz l ≤ 134217728) (h : HP) : CS cx.P 51 [.d (.sl false sh100 (l.map (TFunction.dd false)))] h (.d (.sl true sh100 (l.map (TFunction.dd true)))) h := toFunctionS_a l (by unfold szs at hs; omega) (fun y hy h => toFunction_d y (by have := szL_le TFunction.sz hy; unfold szs at hs; omega) h) h
theorem toPackage_d (x : TPackage) (hz : x.sz ≤ 134217728) (h : HP) : CS cx.P 24 [.d (x.dd false)] h (.d (x.dd true)) h := by
 have hz2 := x.sz_eq
 refine Ze Tryz.func24 rfl 28 ?_
 apply Zr; intros
 iterate 2 (refine Zo ?_; simp)
 exact Zx
 apply Zr; intros
 refine Zo ?_; simp
 exact Zx
 apply Zr; intros
 iterate 4 (refine Zo ?_; simp)
 exact Zx
 apply Zr; intros
 iterate 2 (refine Zo ?_; simp)
 refine Zl [] rfl Tryz.func47 (toStringS_d x.fDeps (by unfold szs at hz2; omega) _) ?_; simp
 iterate 2 (refine Zo ?_; simp)
 exact Zx
 apply Zr; intros
 iterate 2 (refine Zo ?_; simp)
 refine Zl [] rfl Tryz.func48 (toTraitS_d x.fTraits (by omega) _) ?_; simp
 iterate 2 (refine Zo ?_; simp)
 exact Zx
 apply Zr; intros
 iterate 2 (refine Zo ?_; simp)
 refine Zl [] rfl Tryz.func49 (toDataTypeS_d x.fDataTypes (by omega) _) ?_; simp
 iterate 2 (refine Zo ?_; simp)
 exact Zx
 apply Zr; intros
 iterate 2 (refine Zo ?_; simp)
 refine Zl [] rfl Tryz.func50 (toInstanceS_d x.fInstances (by omega) _) ?_; simp
 iterate 2 (refine Zo ?_; simp)
 exact Zx
 apply Zr; intros
 iterate 2 (refine Zo ?_; simp)
 refine Zl [] rfl Tryz.func51 (toFunctionS_d x.fFunctions (by omega) _) ?_; simp
 iterate 2 (refine Zo ?_; simp)
 exact Zx
 apply Zr; intros
 refine Zm [27] ?_; simp
 refine Zo ?_; simp
 exact Zx
 refine W.ret (Zq ?_)
 simp [Tryz.f24]
theorem toPackageS_a (l : List TPackage) (hm : l.length ≤ 134217728) (hc : ∀ y ∈ l, ∀ h, CS cx.P 24 [.d (y.dd false)] h (.d (y.dd true)) h) (h : HP) : CS cx.P 13 [.d (.sl false sh44 (l.map (TPackage.dd false)))] h (.d (.sl true sh44 (l.map (TPackage.dd true)))) h := by
 refine Ze Tryz.func13 rfl 23 ?_
 apply Zr; intros
 refine Zo ?_; simp
 exact Zx
 apply Zr; intros
 iterate 4 (refine Zo ?_; simp)
 exact Zx
 refine W.seq ?_
 apply Zr; intros
 refine Zo ?_; simp
 exact Zx
 refine W.block ?_
 refine W.loopk [0, 3] [] (fun k0 => [(4, .d (.lf (.int .i64 (k0 : Int))))]) (fun k0 => [(7, .d (.st (rowL (TPackage.dd true) l k0 (.st [.lf (.string ⟨#[]⟩), .sl true .one [], .sl true sh80 [], .sl true sh84 [], .sl true sh92 [], .sl true sh100 []]))))]) l.length rfl (by simp) fun k0 hk0 T hT => ?_
 simp at hT; subst hT
 have hr := shs_rowL (f := TPackage.dd true) (s := sh44) (TPackage.sh_dd true) (z := .st [.lf (.string ⟨#[]⟩), .sl true .one [], .sl true sh80 [], .sl true sh84 [], .sl true sh92 [], .sl true sh100 []]) rfl hk0
 refine W.seq ?_
 apply Zr; intros
 iterate 4 (refine Zo ?_ (by simp [hr, rowL_at] <;> omega); simp [hr, rowL_at])
 exact Zx
 refine Zc rfl ?_ ?_ <;> intro hb0 <;> try simp at hb0
 have hx := ixNext hb0 (by omega)
 refine W.skip ?_
 refine Zb ?_
 apply Zs; intros
 iterate 6 (refine Zo ?_ (by simp [hr, rowL_at, hb0, hx] <;> omega); simp [hr, rowL_at, hb0, hx])
 refine Zl [] rfl Tryz.func24 (hc l[k0] (gm hb0) _) ?_ (by simp [hr, rowL_at, hb0, hx]); simp [hr, rowL_at, hb0, hx]
 iterate 2 (refine Zo ?_ (by simp [hr, rowL_at, hb0, hx] <;> omega); simp [hr, rowL_at, hb0, hx])
 exact Zx
 apply Zs; intros
 iterate 3 (refine Zo ?_ (by simp [hr, rowL_at, hb0, hx] <;> omega); simp [hr, rowL_at, hb0, hx])
 exact Zx
 refine ⟨hb0, Wz.to rfl rfl rfl ?_⟩
 have hs := rowL_set (f := TPackage.dd true) (z := .st [.lf (.string ⟨#[]⟩), .sl true .one [], .sl true sh80 [], .sl true sh84 [], .sl true sh92 [], .sl true sh100 []]) hb0
 simp at hs
 simp [hs]
 have hkl : k0 = l.length := by omega
 subst hkl
 refine W.frz 3 7 l.length (l.map (TPackage.dd true)) sh44 [] [] rfl (by simp) (by simp) (by simp [rowL_full]) (by simp) (by simp) (by simp) (by simp) rfl ?_
 refine W.exit ?_
 apply Zr; intros
 refine Zm [22] ?_ (by simp [hr, rowL_at] <;> omega); simp [hr, rowL_at]
 refine Zo ?_ (by simp [hr, rowL_at] <;> omega); simp [hr, rowL_at]
 exact Zx
 refine W.ret (Zq ?_)
 simp [Tryz.f13]
theorem toPackageS_d (l : List TPackage) (hs : szs TPackage.sz l ≤ 134217728) (h : HP) : CS cx.P 13 [.d (.sl false sh44 (l.map (TPackage.dd false)))] h (.d (.sl true sh44 (l.map (TPackage.dd true)))) h := toPackageS_a l (by unfold szs at hs; omega) (fun y hy h => toPackage_d y (by have := szL_le TPackage.sz hy; unfold szs at hs; omega) h) h
theorem toProgram_d (x : TProgram) (hz : x.sz ≤ 134217728) (h : HP) : CS cx.P 6 [.d (x.dd false)] h (.d (x.dd true)) h := by
 have hz2 := x.sz_eq
 refine Ze Tryz.func6 rfl 9 ?_
 apply Zr; intros
 iterate 2 (refine Zo ?_; simp)
 exact Zx
 apply Zr; intros
 refine Zo ?_; simp
 exact Zx
 apply Zr; intros
 iterate 2 (refine Zo ?_; simp)
 refine Zl [] rfl Tryz.func13 (toPackageS_d x.fPackages (by omega) _) ?_; simp
 iterate 2 (refine Zo ?_; simp)
 exact Zx
 apply Zr; intros
 refine Zm [8] ?_; simp
 refine Zo ?_; simp
 exact Zx
 refine W.ret (Zq ?_)
 simp [Tryz.f6]
end Go.Proofs.YtkadbimpaplnmaaGreatDoor
