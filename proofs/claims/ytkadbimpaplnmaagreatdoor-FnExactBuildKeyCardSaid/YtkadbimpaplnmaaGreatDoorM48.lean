/- Walks by the Den rules. No condition but sizes. -/
import Derived.Test.YtkadbimpaplnmaaGreatDoorM16
import Derived.Test.YtkadbimpaplnmaaGreatDoorM17
import Derived.Test.YtkadbimpaplnmaaGreatDoorM18
namespace Go.Proofs.YtkadbimpaplnmaaGreatDoor
open Go.RowKit
set_option maxRecDepth 10000
set_option linter.unusedSimpArgs false
set_option linter.unusedVariables false
set_option maxHeartbeats 4000000
theorem eqStringS_d (l : List ByteArray) (hm : l.length ≤ 134217728) (h : HP) : CS cx.P 68 [.d (.sl false .one (l.map dS)), .d (.sl false .one (l.map dS))] h (.d (.lf (.bool (true)))) h := by
 refine Ze Tryz.func68 rfl 26 ?_
 apply Zr; intros
 refine Zo ?_; simp
 exact Zx
 refine W.seq ?_
 apply Zr; intros
 iterate 5 (refine Zo ?_; simp)
 exact Zx
 refine Zc rfl ?_ ?_ <;> intro hb0 <;> try simp at hb0
 refine W.skip ?_
 refine W.seq ?_
 apply Zr; intros
 refine Zo ?_; simp
 exact Zx
 refine W.block ?_
 refine W.loopk [0, 1] [] (fun k0 => [(5, .d (.lf (.int .i64 (k0 : Int))))]) (fun _ => []) l.length rfl (by simp) fun k0 hk0 T hT => ?_
 simp at hT; subst hT
 refine W.seq ?_
 apply Zr; intros
 iterate 4 (refine Zo ?_; simp)
 exact Zx
 refine Zc rfl ?_ ?_ <;> intro hb1 <;> try simp at hb1
 have hx := ixNext hb1 (by omega)
 refine W.skip ?_
 refine Zb ?_
 apply Yr rfl; intro K hK
 iterate 9 (refine Yo ?_ (by simp [hb1, hx] <;> omega); simp [hb1, hx])
 exact DL.nil rfl hK
 refine Zc rfl ?_ ?_ <;> intro hb2 <;> try simp at hb2
 refine W.skip ?_
 apply Zs; intros
 iterate 3 (refine Zo ?_ (by simp [hb1, hx] <;> omega); simp [hb1, hx])
 exact Zx
 refine ⟨hb1, Wz.to rfl rfl rfl ?_⟩
 simp
 have hkl : k0 = l.length := by omega
 subst hkl
 refine W.exit ?_
 apply Zr; intros
 refine Zo ?_; simp
 exact Zx
 refine W.ret (Zq ?_)
 simp [Tryz.f68]
theorem eqType_a (x : TType) (hz : x.sz ≤ 134217728) (hcArgs : ∀ h, CS cx.P 235 [.d (.sl false sh88 (x.fArgs.map (TType.dd false))), .d (.sl false sh88 (x.fArgs.map (TType.dd false)))] h (.d (.lf (.bool (true)))) h) (h : HP) : CS cx.P 180 [.d (x.dd false), .d (x.dd false)] h (.d (.lf (.bool (true)))) h := by
 have hz2 := x.sz_eq
 refine Ze Tryz.func180 rfl 21 ?_
 apply Zr; intros
 iterate 3 (refine Zo ?_; simp)
 exact Zx
 refine W.seq ?_
 apply Zr; intros
 iterate 5 (refine Zo ?_; simp)
 exact Zx
 refine Zc rfl ?_ ?_ <;> intro hb0 <;> try simp at hb0
 refine W.skip ?_
 refine W.seq ?_
 apply Zr; intros
 iterate 5 (refine Zo ?_; simp)
 exact Zx
 refine Zc rfl ?_ ?_ <;> intro hb1 <;> try simp at hb1
 refine W.skip ?_
 refine W.seq ?_
 apply Zr; intros
 iterate 4 (refine Zo ?_; simp)
 refine Zl [] rfl Tryz.func235 (hcArgs _) ?_; simp
 refine Zo ?_; simp
 exact Zx
 refine Zc rfl ?_ ?_ <;> intro hb2 <;> try simp at hb2
 refine W.skip ?_
 apply Zr; intros
 refine Zo ?_; simp
 exact Zx
 refine W.ret (Zq ?_)
 simp [Tryz.f180]
theorem eqTypeS_a (l : List TType) (hm : l.length ≤ 134217728) (hc : ∀ y ∈ l, ∀ h, CS cx.P 180 [.d (y.dd false), .d (y.dd false)] h (.d (.lf (.bool (true)))) h) (h : HP) : CS cx.P 235 [.d (.sl false sh88 (l.map (TType.dd false))), .d (.sl false sh88 (l.map (TType.dd false)))] h (.d (.lf (.bool (true)))) h := by
 refine Ze Tryz.func235 rfl 27 ?_
 apply Zr; intros
 refine Zo ?_; simp
 exact Zx
 refine W.seq ?_
 apply Zr; intros
 iterate 5 (refine Zo ?_; simp)
 exact Zx
 refine Zc rfl ?_ ?_ <;> intro hb0 <;> try simp at hb0
 refine W.skip ?_
 refine W.seq ?_
 apply Zr; intros
 refine Zo ?_; simp
 exact Zx
 refine W.block ?_
 refine W.loopk [0, 1] [] (fun k0 => [(5, .d (.lf (.int .i64 (k0 : Int))))]) (fun _ => []) l.length rfl (by simp) fun k0 hk0 T hT => ?_
 simp at hT; subst hT
 refine W.seq ?_
 apply Zr; intros
 iterate 4 (refine Zo ?_; simp)
 exact Zx
 refine Zc rfl ?_ ?_ <;> intro hb1 <;> try simp at hb1
 have hx := ixNext hb1 (by omega)
 refine W.skip ?_
 refine Zb ?_
 apply Yr rfl; intro K hK
 iterate 8 (refine Yo ?_ (by simp [hb1, hx] <;> omega); simp [hb1, hx])
 refine Yl [] rfl Tryz.func180 (hc l[k0] (gm hb1)) ?_ (by simp [hb1, hx]); simp [hb1, hx]
 refine Yo ?_ (by simp [hb1, hx] <;> omega); simp [hb1, hx]
 exact DL.nil rfl hK
 refine Zc rfl ?_ ?_ <;> intro hb2 <;> try simp at hb2
 refine W.skip ?_
 apply Zs; intros
 iterate 3 (refine Zo ?_ (by simp [hb1, hx] <;> omega); simp [hb1, hx])
 exact Zx
 refine ⟨hb1, Wz.to rfl rfl rfl ?_⟩
 simp
 have hkl : k0 = l.length := by omega
 subst hkl
 refine W.exit ?_
 apply Zr; intros
 refine Zo ?_; simp
 exact Zx
 refine W.ret (Zq ?_)
 simp [Tryz.f235]
theorem eqType_d (x : TType) (hz : x.sz ≤ 134217728) (h : HP) : CS cx.P 180 [.d (x.dd false), .d (x.dd false)] h (.d (.lf (.bool (true)))) h := eqType_a x hz (fun h => eqTypeS_a x.fArgs  (by have h2 := x.sz_eq; unfold szs at h2;  omega) (fun y0 hy0 h => eqType_d y0 (by have h2 := x.sz_eq; unfold szs at h2; have hy0 := szL_le TType.sz hy0;  omega) h) h) h
termination_by SizeOf.sizeOf x
decreasing_by
 ·have := List.sizeOf_lt_of_mem hy0; have := x.lt_fArgs; omega
theorem eqTypeS_d (l : List TType) (hs : szs TType.sz l ≤ 134217728) (h : HP) : CS cx.P 235 [.d (.sl false sh88 (l.map (TType.dd false))), .d (.sl false sh88 (l.map (TType.dd false)))] h (.d (.lf (.bool (true)))) h := eqTypeS_a l (by unfold szs at hs; omega) (fun y hy h => eqType_d y (by have := szL_le TType.sz hy; unfold szs at hs; omega) h) h
theorem eqArm_a (x : TArm) (hz : x.sz ≤ 134217728) (hcBody : ∀ h, CS cx.P 184 [.d (x.fBody.dd false), .d (x.fBody.dd false)] h (.d (.lf (.bool (true)))) h) (h : HP) : CS cx.P 264 [.d (x.dd false), .d (x.dd false)] h (.d (.lf (.bool (true)))) h := by
 have hz2 := x.sz_eq
 refine Ze Tryz.func264 rfl 22 ?_
 apply Zr; intros
 iterate 3 (refine Zo ?_; simp)
 exact Zx
 refine W.seq ?_
 apply Zr; intros
 iterate 5 (refine Zo ?_; simp)
 exact Zx
 refine Zc rfl ?_ ?_ <;> intro hb0 <;> try simp at hb0
 refine W.skip ?_
 refine W.seq ?_
 apply Zr; intros
 iterate 4 (refine Zo ?_; simp)
 refine Zl [] rfl Tryz.func68 (eqStringS_d x.fVars (by unfold szs at hz2; omega) _) ?_; simp
 refine Zo ?_; simp
 exact Zx
 refine Zc rfl ?_ ?_ <;> intro hb1 <;> try simp at hb1
 refine W.skip ?_
 refine W.seq ?_
 apply Zr; intros
 iterate 4 (refine Zo ?_; simp)
 refine Zl [] rfl Tryz.func184 (hcBody _) ?_; simp
 refine Zo ?_; simp
 exact Zx
 refine Zc rfl ?_ ?_ <;> intro hb2 <;> try simp at hb2
 refine W.skip ?_
 apply Zr; intros
 refine Zo ?_; simp
 exact Zx
 refine W.ret (Zq ?_)
 simp [Tryz.f264]
theorem eqArmS_a (l : List TArm) (hm : l.length ≤ 134217728) (hc : ∀ y ∈ l, ∀ h, CS cx.P 264 [.d (y.dd false), .d (y.dd false)] h (.d (.lf (.bool (true)))) h) (h : HP) : CS cx.P 240 [.d (.sl false sh198 (l.map (TArm.dd false))), .d (.sl false sh198 (l.map (TArm.dd false)))] h (.d (.lf (.bool (true)))) h := by
 refine Ze Tryz.func240 rfl 27 ?_
 apply Zr; intros
 refine Zo ?_; simp
 exact Zx
 refine W.seq ?_
 apply Zr; intros
 iterate 5 (refine Zo ?_; simp)
 exact Zx
 refine Zc rfl ?_ ?_ <;> intro hb0 <;> try simp at hb0
 refine W.skip ?_
 refine W.seq ?_
 apply Zr; intros
 refine Zo ?_; simp
 exact Zx
 refine W.block ?_
 refine W.loopk [0, 1] [] (fun k0 => [(5, .d (.lf (.int .i64 (k0 : Int))))]) (fun _ => []) l.length rfl (by simp) fun k0 hk0 T hT => ?_
 simp at hT; subst hT
 refine W.seq ?_
 apply Zr; intros
 iterate 4 (refine Zo ?_; simp)
 exact Zx
 refine Zc rfl ?_ ?_ <;> intro hb1 <;> try simp at hb1
 have hx := ixNext hb1 (by omega)
 refine W.skip ?_
 refine Zb ?_
 apply Yr rfl; intro K hK
 iterate 8 (refine Yo ?_ (by simp [hb1, hx] <;> omega); simp [hb1, hx])
 refine Yl [] rfl Tryz.func264 (hc l[k0] (gm hb1)) ?_ (by simp [hb1, hx]); simp [hb1, hx]
 refine Yo ?_ (by simp [hb1, hx] <;> omega); simp [hb1, hx]
 exact DL.nil rfl hK
 refine Zc rfl ?_ ?_ <;> intro hb2 <;> try simp at hb2
 refine W.skip ?_
 apply Zs; intros
 iterate 3 (refine Zo ?_ (by simp [hb1, hx] <;> omega); simp [hb1, hx])
 exact Zx
 refine ⟨hb1, Wz.to rfl rfl rfl ?_⟩
 simp
 have hkl : k0 = l.length := by omega
 subst hkl
 refine W.exit ?_
 apply Zr; intros
 refine Zo ?_; simp
 exact Zx
 refine W.ret (Zq ?_)
 simp [Tryz.f240]
theorem eqExpr_a (x : TExpr) (hz : x.sz ≤ 134217728) (hcArgs : ∀ h, CS cx.P 239 [.d (.sl false sh98 (x.fArgs.map (TExpr.dd false))), .d (.sl false sh98 (x.fArgs.map (TExpr.dd false)))] h (.d (.lf (.bool (true)))) h) (hcArms : ∀ h, CS cx.P 240 [.d (.sl false sh198 (x.fArms.map (TArm.dd false))), .d (.sl false sh198 (x.fArms.map (TArm.dd false)))] h (.d (.lf (.bool (true)))) h) (h : HP) : CS cx.P 184 [.d (x.dd false), .d (x.dd false)] h (.d (.lf (.bool (true)))) h := by
 have hz2 := x.sz_eq
 refine Ze Tryz.func184 rfl 43 ?_
 apply Zr; intros
 iterate 3 (refine Zo ?_; simp)
 exact Zx
 refine W.seq ?_
 apply Zr; intros
 iterate 5 (refine Zo ?_; simp)
 exact Zx
 refine Zc rfl ?_ ?_ <;> intro hb0 <;> try simp at hb0
 refine W.skip ?_
 refine W.seq ?_
 apply Zr; intros
 iterate 5 (refine Zo ?_; simp)
 exact Zx
 refine Zc rfl ?_ ?_ <;> intro hb1 <;> try simp at hb1
 refine W.skip ?_
 refine W.seq ?_
 apply Zr; intros
 iterate 5 (refine Zo ?_; simp)
 exact Zx
 refine Zc rfl ?_ ?_ <;> intro hb2 <;> try simp at hb2
 refine W.skip ?_
 refine W.seq ?_
 apply Zr; intros
 iterate 5 (refine Zo ?_; simp)
 exact Zx
 refine Zc rfl ?_ ?_ <;> intro hb3 <;> try simp at hb3
 refine W.skip ?_
 refine W.seq ?_
 apply Zr; intros
 iterate 4 (refine Zo ?_; simp)
 refine Zl [] rfl Tryz.func180 (eqType_d x.fType (by omega) _) ?_; simp
 refine Zo ?_; simp
 exact Zx
 refine Zc rfl ?_ ?_ <;> intro hb4 <;> try simp at hb4
 refine W.skip ?_
 refine W.seq ?_
 apply Zr; intros
 iterate 4 (refine Zo ?_; simp)
 refine Zl [] rfl Tryz.func239 (hcArgs _) ?_; simp
 refine Zo ?_; simp
 exact Zx
 refine Zc rfl ?_ ?_ <;> intro hb5 <;> try simp at hb5
 refine W.skip ?_
 refine W.seq ?_
 apply Zr; intros
 iterate 4 (refine Zo ?_; simp)
 refine Zl [] rfl Tryz.func240 (hcArms _) ?_; simp
 refine Zo ?_; simp
 exact Zx
 refine Zc rfl ?_ ?_ <;> intro hb6 <;> try simp at hb6
 refine W.skip ?_
 apply Zr; intros
 refine Zo ?_; simp
 exact Zx
 refine W.ret (Zq ?_)
 simp [Tryz.f184]
theorem eqExprS_a (l : List TExpr) (hm : l.length ≤ 134217728) (hc : ∀ y ∈ l, ∀ h, CS cx.P 184 [.d (y.dd false), .d (y.dd false)] h (.d (.lf (.bool (true)))) h) (h : HP) : CS cx.P 239 [.d (.sl false sh98 (l.map (TExpr.dd false))), .d (.sl false sh98 (l.map (TExpr.dd false)))] h (.d (.lf (.bool (true)))) h := by
 refine Ze Tryz.func239 rfl 27 ?_
 apply Zr; intros
 refine Zo ?_; simp
 exact Zx
 refine W.seq ?_
 apply Zr; intros
 iterate 5 (refine Zo ?_; simp)
 exact Zx
 refine Zc rfl ?_ ?_ <;> intro hb0 <;> try simp at hb0
 refine W.skip ?_
 refine W.seq ?_
 apply Zr; intros
 refine Zo ?_; simp
 exact Zx
 refine W.block ?_
 refine W.loopk [0, 1] [] (fun k0 => [(5, .d (.lf (.int .i64 (k0 : Int))))]) (fun _ => []) l.length rfl (by simp) fun k0 hk0 T hT => ?_
 simp at hT; subst hT
 refine W.seq ?_
 apply Zr; intros
 iterate 4 (refine Zo ?_; simp)
 exact Zx
 refine Zc rfl ?_ ?_ <;> intro hb1 <;> try simp at hb1
 have hx := ixNext hb1 (by omega)
 refine W.skip ?_
 refine Zb ?_
 apply Yr rfl; intro K hK
 iterate 8 (refine Yo ?_ (by simp [hb1, hx] <;> omega); simp [hb1, hx])
 refine Yl [] rfl Tryz.func184 (hc l[k0] (gm hb1)) ?_ (by simp [hb1, hx]); simp [hb1, hx]
 refine Yo ?_ (by simp [hb1, hx] <;> omega); simp [hb1, hx]
 exact DL.nil rfl hK
 refine Zc rfl ?_ ?_ <;> intro hb2 <;> try simp at hb2
 refine W.skip ?_
 apply Zs; intros
 iterate 3 (refine Zo ?_ (by simp [hb1, hx] <;> omega); simp [hb1, hx])
 exact Zx
 refine ⟨hb1, Wz.to rfl rfl rfl ?_⟩
 simp
 have hkl : k0 = l.length := by omega
 subst hkl
 refine W.exit ?_
 apply Zr; intros
 refine Zo ?_; simp
 exact Zx
 refine W.ret (Zq ?_)
 simp [Tryz.f239]
theorem eqExpr_d (x : TExpr) (hz : x.sz ≤ 134217728) (h : HP) : CS cx.P 184 [.d (x.dd false), .d (x.dd false)] h (.d (.lf (.bool (true)))) h := eqExpr_a x hz (fun h => eqExprS_a x.fArgs  (by have h2 := x.sz_eq; unfold szs at h2;  omega) (fun y0 hy0 h => eqExpr_d y0 (by have h2 := x.sz_eq; unfold szs at h2; have hy0 := szL_le TExpr.sz hy0;  omega) h) h) (fun h => eqArmS_a x.fArms  (by have h2 := x.sz_eq; unfold szs at h2;  omega) (fun y1 hy1 h => eqArm_a y1 (by have h2 := x.sz_eq; unfold szs at h2; have hy1 := szL_le TArm.sz hy1;  omega) (fun h => eqExpr_d y1.fBody (by have h2 := x.sz_eq; unfold szs at h2; have hy1 := szL_le TArm.sz hy1; have hzy1 := y1.sz_eq; unfold szs at hzy1;  omega) h) h) h) h
termination_by SizeOf.sizeOf x
decreasing_by
 ·have := List.sizeOf_lt_of_mem hy0; have := x.lt_fArgs; omega
 ·have := List.sizeOf_lt_of_mem hy1; have := x.lt_fArms; have := y1.lt_fBody; omega
theorem eqSignature_d (x : TSignature) (hz : x.sz ≤ 134217728) (h : HP) : CS cx.P 233 [.d (x.dd false), .d (x.dd false)] h (.d (.lf (.bool (true)))) h := by
 have hz2 := x.sz_eq
 refine Ze Tryz.func233 rfl 39 ?_
 apply Zr; intros
 iterate 3 (refine Zo ?_; simp)
 exact Zx
 refine W.seq ?_
 apply Zr; intros
 iterate 5 (refine Zo ?_; simp)
 exact Zx
 refine Zc rfl ?_ ?_ <;> intro hb0 <;> try simp at hb0
 refine W.skip ?_
 refine W.seq ?_
 apply Zr; intros
 iterate 4 (refine Zo ?_; simp)
 refine Zl [] rfl Tryz.func235 (eqTypeS_d x.fParams (by omega) _) ?_; simp
 refine Zo ?_; simp
 exact Zx
 refine Zc rfl ?_ ?_ <;> intro hb1 <;> try simp at hb1
 refine W.skip ?_
 refine W.seq ?_
 apply Zr; intros
 iterate 4 (refine Zo ?_; simp)
 refine Zl [] rfl Tryz.func180 (eqType_d x.fResult (by omega) _) ?_; simp
 refine Zo ?_; simp
 exact Zx
 refine Zc rfl ?_ ?_ <;> intro hb2 <;> try simp at hb2
 refine W.skip ?_
 refine W.seq ?_
 apply Zr; intros
 iterate 5 (refine Zo ?_; simp)
 exact Zx
 refine Zc rfl ?_ ?_ <;> intro hb3 <;> try simp at hb3
 refine W.skip ?_
 refine W.seq ?_
 apply Zr; intros
 iterate 4 (refine Zo ?_; simp)
 refine Zl [] rfl Tryz.func68 (eqStringS_d x.fVars (by unfold szs at hz2; omega) _) ?_; simp
 refine Zo ?_; simp
 exact Zx
 refine Zc rfl ?_ ?_ <;> intro hb4 <;> try simp at hb4
 refine W.skip ?_
 refine W.seq ?_
 apply Zr; intros
 iterate 4 (refine Zo ?_; simp)
 refine Zl [] rfl Tryz.func184 (eqExpr_d x.fBody (by omega) _) ?_; simp
 refine Zo ?_; simp
 exact Zx
 refine Zc rfl ?_ ?_ <;> intro hb5 <;> try simp at hb5
 refine W.skip ?_
 apply Zr; intros
 refine Zo ?_; simp
 exact Zx
 refine W.ret (Zq ?_)
 simp [Tryz.f233]
theorem eqSignatureS_a (l : List TSignature) (hm : l.length ≤ 134217728) (hc : ∀ y ∈ l, ∀ h, CS cx.P 233 [.d (y.dd false), .d (y.dd false)] h (.d (.lf (.bool (true)))) h) (h : HP) : CS cx.P 178 [.d (.sl false sh154 (l.map (TSignature.dd false))), .d (.sl false sh154 (l.map (TSignature.dd false)))] h (.d (.lf (.bool (true)))) h := by
 refine Ze Tryz.func178 rfl 27 ?_
 apply Zr; intros
 refine Zo ?_; simp
 exact Zx
 refine W.seq ?_
 apply Zr; intros
 iterate 5 (refine Zo ?_; simp)
 exact Zx
 refine Zc rfl ?_ ?_ <;> intro hb0 <;> try simp at hb0
 refine W.skip ?_
 refine W.seq ?_
 apply Zr; intros
 refine Zo ?_; simp
 exact Zx
 refine W.block ?_
 refine W.loopk [0, 1] [] (fun k0 => [(5, .d (.lf (.int .i64 (k0 : Int))))]) (fun _ => []) l.length rfl (by simp) fun k0 hk0 T hT => ?_
 simp at hT; subst hT
 refine W.seq ?_
 apply Zr; intros
 iterate 4 (refine Zo ?_; simp)
 exact Zx
 refine Zc rfl ?_ ?_ <;> intro hb1 <;> try simp at hb1
 have hx := ixNext hb1 (by omega)
 refine W.skip ?_
 refine Zb ?_
 apply Yr rfl; intro K hK
 iterate 8 (refine Yo ?_ (by simp [hb1, hx] <;> omega); simp [hb1, hx])
 refine Yl [] rfl Tryz.func233 (hc l[k0] (gm hb1)) ?_ (by simp [hb1, hx]); simp [hb1, hx]
 refine Yo ?_ (by simp [hb1, hx] <;> omega); simp [hb1, hx]
 exact DL.nil rfl hK
 refine Zc rfl ?_ ?_ <;> intro hb2 <;> try simp at hb2
 refine W.skip ?_
 apply Zs; intros
 iterate 3 (refine Zo ?_ (by simp [hb1, hx] <;> omega); simp [hb1, hx])
 exact Zx
 refine ⟨hb1, Wz.to rfl rfl rfl ?_⟩
 simp
 have hkl : k0 = l.length := by omega
 subst hkl
 refine W.exit ?_
 apply Zr; intros
 refine Zo ?_; simp
 exact Zx
 refine W.ret (Zq ?_)
 simp [Tryz.f178]
theorem eqSignatureS_d (l : List TSignature) (hs : szs TSignature.sz l ≤ 134217728) (h : HP) : CS cx.P 178 [.d (.sl false sh154 (l.map (TSignature.dd false))), .d (.sl false sh154 (l.map (TSignature.dd false)))] h (.d (.lf (.bool (true)))) h := eqSignatureS_a l (by unfold szs at hs; omega) (fun y hy h => eqSignature_d y (by have := szL_le TSignature.sz hy; unfold szs at hs; omega) h) h
theorem eqTrait_d (x : TTrait) (hz : x.sz ≤ 134217728) (h : HP) : CS cx.P 119 [.d (x.dd false), .d (x.dd false)] h (.d (.lf (.bool (true)))) h := by
 have hz2 := x.sz_eq
 refine Ze Tryz.func119 rfl 32 ?_
 apply Zr; intros
 iterate 3 (refine Zo ?_; simp)
 exact Zx
 refine W.seq ?_
 apply Zr; intros
 iterate 5 (refine Zo ?_; simp)
 exact Zx
 refine Zc rfl ?_ ?_ <;> intro hb0 <;> try simp at hb0
 refine W.skip ?_
 refine W.seq ?_
 apply Zr; intros
 iterate 4 (refine Zo ?_; simp)
 refine Zl [] rfl Tryz.func68 (eqStringS_d x.fSupertraits (by unfold szs at hz2; omega) _) ?_; simp
 refine Zo ?_; simp
 exact Zx
 refine Zc rfl ?_ ?_ <;> intro hb1 <;> try simp at hb1
 refine W.skip ?_
 refine W.seq ?_
 apply Zr; intros
 iterate 5 (refine Zo ?_; simp)
 exact Zx
 refine Zc rfl ?_ ?_ <;> intro hb2 <;> try simp at hb2
 refine W.skip ?_
 refine W.seq ?_
 apply Zr; intros
 iterate 5 (refine Zo ?_; simp)
 exact Zx
 refine Zc rfl ?_ ?_ <;> intro hb3 <;> try simp at hb3
 refine W.skip ?_
 refine W.seq ?_
 apply Zr; intros
 iterate 4 (refine Zo ?_; simp)
 refine Zl [] rfl Tryz.func178 (eqSignatureS_d x.fSignatures (by omega) _) ?_; simp
 refine Zo ?_; simp
 exact Zx
 refine Zc rfl ?_ ?_ <;> intro hb4 <;> try simp at hb4
 refine W.skip ?_
 apply Zr; intros
 refine Zo ?_; simp
 exact Zx
 refine W.ret (Zq ?_)
 simp [Tryz.f119]
theorem eqTraitS_a (l : List TTrait) (hm : l.length ≤ 134217728) (hc : ∀ y ∈ l, ∀ h, CS cx.P 119 [.d (y.dd false), .d (y.dd false)] h (.d (.lf (.bool (true)))) h) (h : HP) : CS cx.P 69 [.d (.sl false sh80 (l.map (TTrait.dd false))), .d (.sl false sh80 (l.map (TTrait.dd false)))] h (.d (.lf (.bool (true)))) h := by
 refine Ze Tryz.func69 rfl 27 ?_
 apply Zr; intros
 refine Zo ?_; simp
 exact Zx
 refine W.seq ?_
 apply Zr; intros
 iterate 5 (refine Zo ?_; simp)
 exact Zx
 refine Zc rfl ?_ ?_ <;> intro hb0 <;> try simp at hb0
 refine W.skip ?_
 refine W.seq ?_
 apply Zr; intros
 refine Zo ?_; simp
 exact Zx
 refine W.block ?_
 refine W.loopk [0, 1] [] (fun k0 => [(5, .d (.lf (.int .i64 (k0 : Int))))]) (fun _ => []) l.length rfl (by simp) fun k0 hk0 T hT => ?_
 simp at hT; subst hT
 refine W.seq ?_
 apply Zr; intros
 iterate 4 (refine Zo ?_; simp)
 exact Zx
 refine Zc rfl ?_ ?_ <;> intro hb1 <;> try simp at hb1
 have hx := ixNext hb1 (by omega)
 refine W.skip ?_
 refine Zb ?_
 apply Yr rfl; intro K hK
 iterate 8 (refine Yo ?_ (by simp [hb1, hx] <;> omega); simp [hb1, hx])
 refine Yl [] rfl Tryz.func119 (hc l[k0] (gm hb1)) ?_ (by simp [hb1, hx]); simp [hb1, hx]
 refine Yo ?_ (by simp [hb1, hx] <;> omega); simp [hb1, hx]
 exact DL.nil rfl hK
 refine Zc rfl ?_ ?_ <;> intro hb2 <;> try simp at hb2
 refine W.skip ?_
 apply Zs; intros
 iterate 3 (refine Zo ?_ (by simp [hb1, hx] <;> omega); simp [hb1, hx])
 exact Zx
 refine ⟨hb1, Wz.to rfl rfl rfl ?_⟩
 simp
 have hkl : k0 = l.length := by omega
 subst hkl
 refine W.exit ?_
 apply Zr; intros
 refine Zo ?_; simp
 exact Zx
 refine W.ret (Zq ?_)
 simp [Tryz.f69]
theorem eqTraitS_d (l : List TTrait) (hs : szs TTrait.sz l ≤ 134217728) (h : HP) : CS cx.P 69 [.d (.sl false sh80 (l.map (TTrait.dd false))), .d (.sl false sh80 (l.map (TTrait.dd false)))] h (.d (.lf (.bool (true)))) h := eqTraitS_a l (by unfold szs at hs; omega) (fun y hy h => eqTrait_d y (by have := szL_le TTrait.sz hy; unfold szs at hs; omega) h) h
theorem eqConstructor_d (x : TConstructor) (hz : x.sz ≤ 134217728) (h : HP) : CS cx.P 234 [.d (x.dd false), .d (x.dd false)] h (.d (.lf (.bool (true)))) h := by
 have hz2 := x.sz_eq
 refine Ze Tryz.func234 rfl 16 ?_
 apply Zr; intros
 iterate 3 (refine Zo ?_; simp)
 exact Zx
 refine W.seq ?_
 apply Zr; intros
 iterate 5 (refine Zo ?_; simp)
 exact Zx
 refine Zc rfl ?_ ?_ <;> intro hb0 <;> try simp at hb0
 refine W.skip ?_
 refine W.seq ?_
 apply Zr; intros
 iterate 4 (refine Zo ?_; simp)
 refine Zl [] rfl Tryz.func235 (eqTypeS_d x.fFields (by omega) _) ?_; simp
 refine Zo ?_; simp
 exact Zx
 refine Zc rfl ?_ ?_ <;> intro hb1 <;> try simp at hb1
 refine W.skip ?_
 apply Zr; intros
 refine Zo ?_; simp
 exact Zx
 refine W.ret (Zq ?_)
 simp [Tryz.f234]
theorem eqConstructorS_a (l : List TConstructor) (hm : l.length ≤ 134217728) (hc : ∀ y ∈ l, ∀ h, CS cx.P 234 [.d (y.dd false), .d (y.dd false)] h (.d (.lf (.bool (true)))) h) (h : HP) : CS cx.P 179 [.d (.sl false sh159 (l.map (TConstructor.dd false))), .d (.sl false sh159 (l.map (TConstructor.dd false)))] h (.d (.lf (.bool (true)))) h := by
 refine Ze Tryz.func179 rfl 27 ?_
 apply Zr; intros
 refine Zo ?_; simp
 exact Zx
 refine W.seq ?_
 apply Zr; intros
 iterate 5 (refine Zo ?_; simp)
 exact Zx
 refine Zc rfl ?_ ?_ <;> intro hb0 <;> try simp at hb0
 refine W.skip ?_
 refine W.seq ?_
 apply Zr; intros
 refine Zo ?_; simp
 exact Zx
 refine W.block ?_
 refine W.loopk [0, 1] [] (fun k0 => [(5, .d (.lf (.int .i64 (k0 : Int))))]) (fun _ => []) l.length rfl (by simp) fun k0 hk0 T hT => ?_
 simp at hT; subst hT
 refine W.seq ?_
 apply Zr; intros
 iterate 4 (refine Zo ?_; simp)
 exact Zx
 refine Zc rfl ?_ ?_ <;> intro hb1 <;> try simp at hb1
 have hx := ixNext hb1 (by omega)
 refine W.skip ?_
 refine Zb ?_
 apply Yr rfl; intro K hK
 iterate 8 (refine Yo ?_ (by simp [hb1, hx] <;> omega); simp [hb1, hx])
 refine Yl [] rfl Tryz.func234 (hc l[k0] (gm hb1)) ?_ (by simp [hb1, hx]); simp [hb1, hx]
 refine Yo ?_ (by simp [hb1, hx] <;> omega); simp [hb1, hx]
 exact DL.nil rfl hK
 refine Zc rfl ?_ ?_ <;> intro hb2 <;> try simp at hb2
 refine W.skip ?_
 apply Zs; intros
 iterate 3 (refine Zo ?_ (by simp [hb1, hx] <;> omega); simp [hb1, hx])
 exact Zx
 refine ⟨hb1, Wz.to rfl rfl rfl ?_⟩
 simp
 have hkl : k0 = l.length := by omega
 subst hkl
 refine W.exit ?_
 apply Zr; intros
 refine Zo ?_; simp
 exact Zx
 refine W.ret (Zq ?_)
 simp [Tryz.f179]
theorem eqConstructorS_d (l : List TConstructor) (hs : szs TConstructor.sz l ≤ 134217728) (h : HP) : CS cx.P 179 [.d (.sl false sh159 (l.map (TConstructor.dd false))), .d (.sl false sh159 (l.map (TConstructor.dd false)))] h (.d (.lf (.bool (true)))) h := eqConstructorS_a l (by unfold szs at hs; omega) (fun y hy h => eqConstructor_d y (by have := szL_le TConstructor.sz hy; unfold szs at hs; omega) h) h
theorem eqDataType_d (x : TDataType) (hz : x.sz ≤ 134217728) (h : HP) : CS cx.P 120 [.d (x.dd false), .d (x.dd false)] h (.d (.lf (.bool (true)))) h := by
 have hz2 := x.sz_eq
 refine Ze Tryz.func120 rfl 22 ?_
 apply Zr; intros
 iterate 3 (refine Zo ?_; simp)
 exact Zx
 refine W.seq ?_
 apply Zr; intros
 iterate 5 (refine Zo ?_; simp)
 exact Zx
 refine Zc rfl ?_ ?_ <;> intro hb0 <;> try simp at hb0
 refine W.skip ?_
 refine W.seq ?_
 apply Zr; intros
 iterate 4 (refine Zo ?_; simp)
 refine Zl [] rfl Tryz.func68 (eqStringS_d x.fVars (by unfold szs at hz2; omega) _) ?_; simp
 refine Zo ?_; simp
 exact Zx
 refine Zc rfl ?_ ?_ <;> intro hb1 <;> try simp at hb1
 refine W.skip ?_
 refine W.seq ?_
 apply Zr; intros
 iterate 4 (refine Zo ?_; simp)
 refine Zl [] rfl Tryz.func179 (eqConstructorS_d x.fConstructors (by omega) _) ?_; simp
 refine Zo ?_; simp
 exact Zx
 refine Zc rfl ?_ ?_ <;> intro hb2 <;> try simp at hb2
 refine W.skip ?_
 apply Zr; intros
 refine Zo ?_; simp
 exact Zx
 refine W.ret (Zq ?_)
 simp [Tryz.f120]
theorem eqDataTypeS_a (l : List TDataType) (hm : l.length ≤ 134217728) (hc : ∀ y ∈ l, ∀ h, CS cx.P 120 [.d (y.dd false), .d (y.dd false)] h (.d (.lf (.bool (true)))) h) (h : HP) : CS cx.P 70 [.d (.sl false sh84 (l.map (TDataType.dd false))), .d (.sl false sh84 (l.map (TDataType.dd false)))] h (.d (.lf (.bool (true)))) h := by
 refine Ze Tryz.func70 rfl 27 ?_
 apply Zr; intros
 refine Zo ?_; simp
 exact Zx
 refine W.seq ?_
 apply Zr; intros
 iterate 5 (refine Zo ?_; simp)
 exact Zx
 refine Zc rfl ?_ ?_ <;> intro hb0 <;> try simp at hb0
 refine W.skip ?_
 refine W.seq ?_
 apply Zr; intros
 refine Zo ?_; simp
 exact Zx
 refine W.block ?_
 refine W.loopk [0, 1] [] (fun k0 => [(5, .d (.lf (.int .i64 (k0 : Int))))]) (fun _ => []) l.length rfl (by simp) fun k0 hk0 T hT => ?_
 simp at hT; subst hT
 refine W.seq ?_
 apply Zr; intros
 iterate 4 (refine Zo ?_; simp)
 exact Zx
 refine Zc rfl ?_ ?_ <;> intro hb1 <;> try simp at hb1
 have hx := ixNext hb1 (by omega)
 refine W.skip ?_
 refine Zb ?_
 apply Yr rfl; intro K hK
 iterate 8 (refine Yo ?_ (by simp [hb1, hx] <;> omega); simp [hb1, hx])
 refine Yl [] rfl Tryz.func120 (hc l[k0] (gm hb1)) ?_ (by simp [hb1, hx]); simp [hb1, hx]
 refine Yo ?_ (by simp [hb1, hx] <;> omega); simp [hb1, hx]
 exact DL.nil rfl hK
 refine Zc rfl ?_ ?_ <;> intro hb2 <;> try simp at hb2
 refine W.skip ?_
 apply Zs; intros
 iterate 3 (refine Zo ?_ (by simp [hb1, hx] <;> omega); simp [hb1, hx])
 exact Zx
 refine ⟨hb1, Wz.to rfl rfl rfl ?_⟩
 simp
 have hkl : k0 = l.length := by omega
 subst hkl
 refine W.exit ?_
 apply Zr; intros
 refine Zo ?_; simp
 exact Zx
 refine W.ret (Zq ?_)
 simp [Tryz.f70]
theorem eqDataTypeS_d (l : List TDataType) (hs : szs TDataType.sz l ≤ 134217728) (h : HP) : CS cx.P 70 [.d (.sl false sh84 (l.map (TDataType.dd false))), .d (.sl false sh84 (l.map (TDataType.dd false)))] h (.d (.lf (.bool (true)))) h := eqDataTypeS_a l (by unfold szs at hs; omega) (fun y hy h => eqDataType_d y (by have := szL_le TDataType.sz hy; unfold szs at hs; omega) h) h
theorem eqBound_d (x : TBound) (hz : x.sz ≤ 134217728) (h : HP) : CS cx.P 236 [.d (x.dd false), .d (x.dd false)] h (.d (.lf (.bool (true)))) h := by
 have hz2 := x.sz_eq
 refine Ze Tryz.func236 rfl 16 ?_
 apply Zr; intros
 iterate 3 (refine Zo ?_; simp)
 exact Zx
 refine W.seq ?_
 apply Zr; intros
 iterate 5 (refine Zo ?_; simp)
 exact Zx
 refine Zc rfl ?_ ?_ <;> intro hb0 <;> try simp at hb0
 refine W.skip ?_
 refine W.seq ?_
 apply Zr; intros
 iterate 4 (refine Zo ?_; simp)
 refine Zl [] rfl Tryz.func180 (eqType_d x.fType (by omega) _) ?_; simp
 refine Zo ?_; simp
 exact Zx
 refine Zc rfl ?_ ?_ <;> intro hb1 <;> try simp at hb1
 refine W.skip ?_
 apply Zr; intros
 refine Zo ?_; simp
 exact Zx
 refine W.ret (Zq ?_)
 simp [Tryz.f236]
theorem eqBoundS_a (l : List TBound) (hm : l.length ≤ 134217728) (hc : ∀ y ∈ l, ∀ h, CS cx.P 236 [.d (y.dd false), .d (y.dd false)] h (.d (.lf (.bool (true)))) h) (h : HP) : CS cx.P 181 [.d (.sl false sh206 (l.map (TBound.dd false))), .d (.sl false sh206 (l.map (TBound.dd false)))] h (.d (.lf (.bool (true)))) h := by
 refine Ze Tryz.func181 rfl 27 ?_
 apply Zr; intros
 refine Zo ?_; simp
 exact Zx
 refine W.seq ?_
 apply Zr; intros
 iterate 5 (refine Zo ?_; simp)
 exact Zx
 refine Zc rfl ?_ ?_ <;> intro hb0 <;> try simp at hb0
 refine W.skip ?_
 refine W.seq ?_
 apply Zr; intros
 refine Zo ?_; simp
 exact Zx
 refine W.block ?_
 refine W.loopk [0, 1] [] (fun k0 => [(5, .d (.lf (.int .i64 (k0 : Int))))]) (fun _ => []) l.length rfl (by simp) fun k0 hk0 T hT => ?_
 simp at hT; subst hT
 refine W.seq ?_
 apply Zr; intros
 iterate 4 (refine Zo ?_; simp)
 exact Zx
 refine Zc rfl ?_ ?_ <;> intro hb1 <;> try simp at hb1
 have hx := ixNext hb1 (by omega)
 refine W.skip ?_
 refine Zb ?_
 apply Yr rfl; intro K hK
 iterate 8 (refine Yo ?_ (by simp [hb1, hx] <;> omega); simp [hb1, hx])
 refine Yl [] rfl Tryz.func236 (hc l[k0] (gm hb1)) ?_ (by simp [hb1, hx]); simp [hb1, hx]
 refine Yo ?_ (by simp [hb1, hx] <;> omega); simp [hb1, hx]
 exact DL.nil rfl hK
 refine Zc rfl ?_ ?_ <;> intro hb2 <;> try simp at hb2
 refine W.skip ?_
 apply Zs; intros
 iterate 3 (refine Zo ?_ (by simp [hb1, hx] <;> omega); simp [hb1, hx])
 exact Zx
 refine ⟨hb1, Wz.to rfl rfl rfl ?_⟩
 simp
 have hkl : k0 = l.length := by omega
 subst hkl
 refine W.exit ?_
 apply Zr; intros
 refine Zo ?_; simp
 exact Zx
 refine W.ret (Zq ?_)
 simp [Tryz.f181]
theorem eqBoundS_d (l : List TBound) (hs : szs TBound.sz l ≤ 134217728) (h : HP) : CS cx.P 181 [.d (.sl false sh206 (l.map (TBound.dd false))), .d (.sl false sh206 (l.map (TBound.dd false)))] h (.d (.lf (.bool (true)))) h := eqBoundS_a l (by unfold szs at hs; omega) (fun y hy h => eqBound_d y (by have := szL_le TBound.sz hy; unfold szs at hs; omega) h) h
theorem eqMethod_d (x : TMethod) (hz : x.sz ≤ 134217728) (h : HP) : CS cx.P 237 [.d (x.dd false), .d (x.dd false)] h (.d (.lf (.bool (true)))) h := by
 have hz2 := x.sz_eq
 refine Ze Tryz.func237 rfl 22 ?_
 apply Zr; intros
 iterate 3 (refine Zo ?_; simp)
 exact Zx
 refine W.seq ?_
 apply Zr; intros
 iterate 5 (refine Zo ?_; simp)
 exact Zx
 refine Zc rfl ?_ ?_ <;> intro hb0 <;> try simp at hb0
 refine W.skip ?_
 refine W.seq ?_
 apply Zr; intros
 iterate 4 (refine Zo ?_; simp)
 refine Zl [] rfl Tryz.func68 (eqStringS_d x.fVars (by unfold szs at hz2; omega) _) ?_; simp
 refine Zo ?_; simp
 exact Zx
 refine Zc rfl ?_ ?_ <;> intro hb1 <;> try simp at hb1
 refine W.skip ?_
 refine W.seq ?_
 apply Zr; intros
 iterate 4 (refine Zo ?_; simp)
 refine Zl [] rfl Tryz.func184 (eqExpr_d x.fBody (by omega) _) ?_; simp
 refine Zo ?_; simp
 exact Zx
 refine Zc rfl ?_ ?_ <;> intro hb2 <;> try simp at hb2
 refine W.skip ?_
 apply Zr; intros
 refine Zo ?_; simp
 exact Zx
 refine W.ret (Zq ?_)
 simp [Tryz.f237]
theorem eqMethodS_a (l : List TMethod) (hm : l.length ≤ 134217728) (hc : ∀ y ∈ l, ∀ h, CS cx.P 237 [.d (y.dd false), .d (y.dd false)] h (.d (.lf (.bool (true)))) h) (h : HP) : CS cx.P 182 [.d (.sl false sh164 (l.map (TMethod.dd false))), .d (.sl false sh164 (l.map (TMethod.dd false)))] h (.d (.lf (.bool (true)))) h := by
 refine Ze Tryz.func182 rfl 27 ?_
 apply Zr; intros
 refine Zo ?_; simp
 exact Zx
 refine W.seq ?_
 apply Zr; intros
 iterate 5 (refine Zo ?_; simp)
 exact Zx
 refine Zc rfl ?_ ?_ <;> intro hb0 <;> try simp at hb0
 refine W.skip ?_
 refine W.seq ?_
 apply Zr; intros
 refine Zo ?_; simp
 exact Zx
 refine W.block ?_
 refine W.loopk [0, 1] [] (fun k0 => [(5, .d (.lf (.int .i64 (k0 : Int))))]) (fun _ => []) l.length rfl (by simp) fun k0 hk0 T hT => ?_
 simp at hT; subst hT
 refine W.seq ?_
 apply Zr; intros
 iterate 4 (refine Zo ?_; simp)
 exact Zx
 refine Zc rfl ?_ ?_ <;> intro hb1 <;> try simp at hb1
 have hx := ixNext hb1 (by omega)
 refine W.skip ?_
 refine Zb ?_
 apply Yr rfl; intro K hK
 iterate 8 (refine Yo ?_ (by simp [hb1, hx] <;> omega); simp [hb1, hx])
 refine Yl [] rfl Tryz.func237 (hc l[k0] (gm hb1)) ?_ (by simp [hb1, hx]); simp [hb1, hx]
 refine Yo ?_ (by simp [hb1, hx] <;> omega); simp [hb1, hx]
 exact DL.nil rfl hK
 refine Zc rfl ?_ ?_ <;> intro hb2 <;> try simp at hb2
 refine W.skip ?_
 apply Zs; intros
 iterate 3 (refine Zo ?_ (by simp [hb1, hx] <;> omega); simp [hb1, hx])
 exact Zx
 refine ⟨hb1, Wz.to rfl rfl rfl ?_⟩
 simp
 have hkl : k0 = l.length := by omega
 subst hkl
 refine W.exit ?_
 apply Zr; intros
 refine Zo ?_; simp
 exact Zx
 refine W.ret (Zq ?_)
 simp [Tryz.f182]
theorem eqMethodS_d (l : List TMethod) (hs : szs TMethod.sz l ≤ 134217728) (h : HP) : CS cx.P 182 [.d (.sl false sh164 (l.map (TMethod.dd false))), .d (.sl false sh164 (l.map (TMethod.dd false)))] h (.d (.lf (.bool (true)))) h := eqMethodS_a l (by unfold szs at hs; omega) (fun y hy h => eqMethod_d y (by have := szL_le TMethod.sz hy; unfold szs at hs; omega) h) h
theorem eqInstance_d (x : TInstance) (hz : x.sz ≤ 134217728) (h : HP) : CS cx.P 121 [.d (x.dd false), .d (x.dd false)] h (.d (.lf (.bool (true)))) h := by
 have hz2 := x.sz_eq
 refine Ze Tryz.func121 rfl 50 ?_
 apply Zr; intros
 iterate 3 (refine Zo ?_; simp)
 exact Zx
 refine W.seq ?_
 apply Zr; intros
 iterate 5 (refine Zo ?_; simp)
 exact Zx
 refine Zc rfl ?_ ?_ <;> intro hb0 <;> try simp at hb0
 refine W.skip ?_
 refine W.seq ?_
 apply Zr; intros
 iterate 4 (refine Zo ?_; simp)
 refine Zl [] rfl Tryz.func68 (eqStringS_d x.fVars (by unfold szs at hz2; omega) _) ?_; simp
 refine Zo ?_; simp
 exact Zx
 refine Zc rfl ?_ ?_ <;> intro hb1 <;> try simp at hb1
 refine W.skip ?_
 refine W.seq ?_
 apply Zr; intros
 iterate 4 (refine Zo ?_; simp)
 refine Zl [] rfl Tryz.func180 (eqType_d x.fHead (by omega) _) ?_; simp
 refine Zo ?_; simp
 exact Zx
 refine Zc rfl ?_ ?_ <;> intro hb2 <;> try simp at hb2
 refine W.skip ?_
 refine W.seq ?_
 apply Zr; intros
 iterate 4 (refine Zo ?_; simp)
 refine Zl [] rfl Tryz.func181 (eqBoundS_d x.fWhere (by omega) _) ?_; simp
 refine Zo ?_; simp
 exact Zx
 refine Zc rfl ?_ ?_ <;> intro hb3 <;> try simp at hb3
 refine W.skip ?_
 refine W.seq ?_
 apply Zr; intros
 iterate 5 (refine Zo ?_; simp)
 exact Zx
 refine Zc rfl ?_ ?_ <;> intro hb4 <;> try simp at hb4
 refine W.skip ?_
 refine W.seq ?_
 apply Zr; intros
 iterate 5 (refine Zo ?_; simp)
 exact Zx
 refine Zc rfl ?_ ?_ <;> intro hb5 <;> try simp at hb5
 refine W.skip ?_
 refine W.seq ?_
 apply Zr; intros
 iterate 4 (refine Zo ?_; simp)
 refine Zl [] rfl Tryz.func180 (eqType_d x.fAssoc (by omega) _) ?_; simp
 refine Zo ?_; simp
 exact Zx
 refine Zc rfl ?_ ?_ <;> intro hb6 <;> try simp at hb6
 refine W.skip ?_
 refine W.seq ?_
 apply Zr; intros
 iterate 4 (refine Zo ?_; simp)
 refine Zl [] rfl Tryz.func182 (eqMethodS_d x.fMethods (by omega) _) ?_; simp
 refine Zo ?_; simp
 exact Zx
 refine Zc rfl ?_ ?_ <;> intro hb7 <;> try simp at hb7
 refine W.skip ?_
 apply Zr; intros
 refine Zo ?_; simp
 exact Zx
 refine W.ret (Zq ?_)
 simp [Tryz.f121]
theorem eqInstanceS_a (l : List TInstance) (hm : l.length ≤ 134217728) (hc : ∀ y ∈ l, ∀ h, CS cx.P 121 [.d (y.dd false), .d (y.dd false)] h (.d (.lf (.bool (true)))) h) (h : HP) : CS cx.P 71 [.d (.sl false sh92 (l.map (TInstance.dd false))), .d (.sl false sh92 (l.map (TInstance.dd false)))] h (.d (.lf (.bool (true)))) h := by
 refine Ze Tryz.func71 rfl 27 ?_
 apply Zr; intros
 refine Zo ?_; simp
 exact Zx
 refine W.seq ?_
 apply Zr; intros
 iterate 5 (refine Zo ?_; simp)
 exact Zx
 refine Zc rfl ?_ ?_ <;> intro hb0 <;> try simp at hb0
 refine W.skip ?_
 refine W.seq ?_
 apply Zr; intros
 refine Zo ?_; simp
 exact Zx
 refine W.block ?_
 refine W.loopk [0, 1] [] (fun k0 => [(5, .d (.lf (.int .i64 (k0 : Int))))]) (fun _ => []) l.length rfl (by simp) fun k0 hk0 T hT => ?_
 simp at hT; subst hT
 refine W.seq ?_
 apply Zr; intros
 iterate 4 (refine Zo ?_; simp)
 exact Zx
 refine Zc rfl ?_ ?_ <;> intro hb1 <;> try simp at hb1
 have hx := ixNext hb1 (by omega)
 refine W.skip ?_
 refine Zb ?_
 apply Yr rfl; intro K hK
 iterate 8 (refine Yo ?_ (by simp [hb1, hx] <;> omega); simp [hb1, hx])
 refine Yl [] rfl Tryz.func121 (hc l[k0] (gm hb1)) ?_ (by simp [hb1, hx]); simp [hb1, hx]
 refine Yo ?_ (by simp [hb1, hx] <;> omega); simp [hb1, hx]
 exact DL.nil rfl hK
 refine Zc rfl ?_ ?_ <;> intro hb2 <;> try simp at hb2
 refine W.skip ?_
 apply Zs; intros
 iterate 3 (refine Zo ?_ (by simp [hb1, hx] <;> omega); simp [hb1, hx])
 exact Zx
 refine ⟨hb1, Wz.to rfl rfl rfl ?_⟩
 simp
 have hkl : k0 = l.length := by omega
 subst hkl
 refine W.exit ?_
 apply Zr; intros
 refine Zo ?_; simp
 exact Zx
 refine W.ret (Zq ?_)
 simp [Tryz.f71]
theorem eqInstanceS_d (l : List TInstance) (hs : szs TInstance.sz l ≤ 134217728) (h : HP) : CS cx.P 71 [.d (.sl false sh92 (l.map (TInstance.dd false))), .d (.sl false sh92 (l.map (TInstance.dd false)))] h (.d (.lf (.bool (true)))) h := eqInstanceS_a l (by unfold szs at hs; omega) (fun y hy h => eqInstance_d y (by have := szL_le TInstance.sz hy; unfold szs at hs; omega) h) h
theorem eqParam_d (x : TParam) (hz : x.sz ≤ 134217728) (h : HP) : CS cx.P 238 [.d (x.dd false), .d (x.dd false)] h (.d (.lf (.bool (true)))) h := by
 have hz2 := x.sz_eq
 refine Ze Tryz.func238 rfl 16 ?_
 apply Zr; intros
 iterate 3 (refine Zo ?_; simp)
 exact Zx
 refine W.seq ?_
 apply Zr; intros
 iterate 5 (refine Zo ?_; simp)
 exact Zx
 refine Zc rfl ?_ ?_ <;> intro hb0 <;> try simp at hb0
 refine W.skip ?_
 refine W.seq ?_
 apply Zr; intros
 iterate 4 (refine Zo ?_; simp)
 refine Zl [] rfl Tryz.func180 (eqType_d x.fType (by omega) _) ?_; simp
 refine Zo ?_; simp
 exact Zx
 refine Zc rfl ?_ ?_ <;> intro hb1 <;> try simp at hb1
 refine W.skip ?_
 apply Zr; intros
 refine Zo ?_; simp
 exact Zx
 refine W.ret (Zq ?_)
 simp [Tryz.f238]
theorem eqParamS_a (l : List TParam) (hm : l.length ≤ 134217728) (hc : ∀ y ∈ l, ∀ h, CS cx.P 238 [.d (y.dd false), .d (y.dd false)] h (.d (.lf (.bool (true)))) h) (h : HP) : CS cx.P 183 [.d (.sl false sh167 (l.map (TParam.dd false))), .d (.sl false sh167 (l.map (TParam.dd false)))] h (.d (.lf (.bool (true)))) h := by
 refine Ze Tryz.func183 rfl 27 ?_
 apply Zr; intros
 refine Zo ?_; simp
 exact Zx
 refine W.seq ?_
 apply Zr; intros
 iterate 5 (refine Zo ?_; simp)
 exact Zx
 refine Zc rfl ?_ ?_ <;> intro hb0 <;> try simp at hb0
 refine W.skip ?_
 refine W.seq ?_
 apply Zr; intros
 refine Zo ?_; simp
 exact Zx
 refine W.block ?_
 refine W.loopk [0, 1] [] (fun k0 => [(5, .d (.lf (.int .i64 (k0 : Int))))]) (fun _ => []) l.length rfl (by simp) fun k0 hk0 T hT => ?_
 simp at hT; subst hT
 refine W.seq ?_
 apply Zr; intros
 iterate 4 (refine Zo ?_; simp)
 exact Zx
 refine Zc rfl ?_ ?_ <;> intro hb1 <;> try simp at hb1
 have hx := ixNext hb1 (by omega)
 refine W.skip ?_
 refine Zb ?_
 apply Yr rfl; intro K hK
 iterate 8 (refine Yo ?_ (by simp [hb1, hx] <;> omega); simp [hb1, hx])
 refine Yl [] rfl Tryz.func238 (hc l[k0] (gm hb1)) ?_ (by simp [hb1, hx]); simp [hb1, hx]
 refine Yo ?_ (by simp [hb1, hx] <;> omega); simp [hb1, hx]
 exact DL.nil rfl hK
 refine Zc rfl ?_ ?_ <;> intro hb2 <;> try simp at hb2
 refine W.skip ?_
 apply Zs; intros
 iterate 3 (refine Zo ?_ (by simp [hb1, hx] <;> omega); simp [hb1, hx])
 exact Zx
 refine ⟨hb1, Wz.to rfl rfl rfl ?_⟩
 simp
 have hkl : k0 = l.length := by omega
 subst hkl
 refine W.exit ?_
 apply Zr; intros
 refine Zo ?_; simp
 exact Zx
 refine W.ret (Zq ?_)
 simp [Tryz.f183]
theorem eqParamS_d (l : List TParam) (hs : szs TParam.sz l ≤ 134217728) (h : HP) : CS cx.P 183 [.d (.sl false sh167 (l.map (TParam.dd false))), .d (.sl false sh167 (l.map (TParam.dd false)))] h (.d (.lf (.bool (true)))) h := eqParamS_a l (by unfold szs at hs; omega) (fun y hy h => eqParam_d y (by have := szL_le TParam.sz hy; unfold szs at hs; omega) h) h
theorem eqFunction_d (x : TFunction) (hz : x.sz ≤ 134217728) (h : HP) : CS cx.P 122 [.d (x.dd false), .d (x.dd false)] h (.d (.lf (.bool (true)))) h := by
 have hz2 := x.sz_eq
 refine Ze Tryz.func122 rfl 40 ?_
 apply Zr; intros
 iterate 3 (refine Zo ?_; simp)
 exact Zx
 refine W.seq ?_
 apply Zr; intros
 iterate 5 (refine Zo ?_; simp)
 exact Zx
 refine Zc rfl ?_ ?_ <;> intro hb0 <;> try simp at hb0
 refine W.skip ?_
 refine W.seq ?_
 apply Zr; intros
 iterate 4 (refine Zo ?_; simp)
 refine Zl [] rfl Tryz.func68 (eqStringS_d x.fVars (by unfold szs at hz2; omega) _) ?_; simp
 refine Zo ?_; simp
 exact Zx
 refine Zc rfl ?_ ?_ <;> intro hb1 <;> try simp at hb1
 refine W.skip ?_
 refine W.seq ?_
 apply Zr; intros
 iterate 4 (refine Zo ?_; simp)
 refine Zl [] rfl Tryz.func181 (eqBoundS_d x.fWhere (by omega) _) ?_; simp
 refine Zo ?_; simp
 exact Zx
 refine Zc rfl ?_ ?_ <;> intro hb2 <;> try simp at hb2
 refine W.skip ?_
 refine W.seq ?_
 apply Zr; intros
 iterate 4 (refine Zo ?_; simp)
 refine Zl [] rfl Tryz.func183 (eqParamS_d x.fParams (by omega) _) ?_; simp
 refine Zo ?_; simp
 exact Zx
 refine Zc rfl ?_ ?_ <;> intro hb3 <;> try simp at hb3
 refine W.skip ?_
 refine W.seq ?_
 apply Zr; intros
 iterate 4 (refine Zo ?_; simp)
 refine Zl [] rfl Tryz.func180 (eqType_d x.fResult (by omega) _) ?_; simp
 refine Zo ?_; simp
 exact Zx
 refine Zc rfl ?_ ?_ <;> intro hb4 <;> try simp at hb4
 refine W.skip ?_
 refine W.seq ?_
 apply Zr; intros
 iterate 4 (refine Zo ?_; simp)
 refine Zl [] rfl Tryz.func184 (eqExpr_d x.fBody (by omega) _) ?_; simp
 refine Zo ?_; simp
 exact Zx
 refine Zc rfl ?_ ?_ <;> intro hb5 <;> try simp at hb5
 refine W.skip ?_
 apply Zr; intros
 refine Zo ?_; simp
 exact Zx
 refine W.ret (Zq ?_)
 simp [Tryz.f122]
theorem eqFunctionS_a (l : List TFunction) (hm : l.length ≤ 134217728) (hc : ∀ y ∈ l, ∀ h, CS cx.P 122 [.d (y.dd false), .d (y.dd false)] h (.d (.lf (.bool (true)))) h) (h : HP) : CS cx.P 72 [.d (.sl false sh100 (l.map (TFunction.dd false))), .d (.sl false sh100 (l.map (TFunction.dd false)))] h (.d (.lf (.bool (true)))) h := by
 refine Ze Tryz.func72 rfl 27 ?_
 apply Zr; intros
 refine Zo ?_; simp
 exact Zx
 refine W.seq ?_
 apply Zr; intros
 iterate 5 (refine Zo ?_; simp)
 exact Zx
 refine Zc rfl ?_ ?_ <;> intro hb0 <;> try simp at hb0
 refine W.skip ?_
 refine W.seq ?_
 apply Zr; intros
 refine Zo ?_; simp
 exact Zx
 refine W.block ?_
 refine W.loopk [0, 1] [] (fun k0 => [(5, .d (.lf (.int .i64 (k0 : Int))))]) (fun _ => []) l.length rfl (by simp) fun k0 hk0 T hT => ?_
 simp at hT; subst hT
 refine W.seq ?_
 apply Zr; intros
 iterate 4 (refine Zo ?_; simp)
 exact Zx
 refine Zc rfl ?_ ?_ <;> intro hb1 <;> try simp at hb1
 have hx := ixNext hb1 (by omega)
 refine W.skip ?_
 refine Zb ?_
 apply Yr rfl; intro K hK
 iterate 8 (refine Yo ?_ (by simp [hb1, hx] <;> omega); simp [hb1, hx])
 refine Yl [] rfl Tryz.func122 (hc l[k0] (gm hb1)) ?_ (by simp [hb1, hx]); simp [hb1, hx]
 refine Yo ?_ (by simp [hb1, hx] <;> omega); simp [hb1, hx]
 exact DL.nil rfl hK
 refine Zc rfl ?_ ?_ <;> intro hb2 <;> try simp at hb2
 refine W.skip ?_
 apply Zs; intros
 iterate 3 (refine Zo ?_ (by simp [hb1, hx] <;> omega); simp [hb1, hx])
 exact Zx
 refine ⟨hb1, Wz.to rfl rfl rfl ?_⟩
 simp
 have hkl : k0 = l.length := by omega
 subst hkl
 refine W.exit ?_
 apply Zr; intros
 refine Zo ?_; simp
 exact Zx
 refine W.ret (Zq ?_)
 simp [Tryz.f72]
theorem eqFunctionS_d (l : List TFunction) (hs : szs TFunction.sz l ≤ 134217728) (h : HP) : CS cx.P 72 [.d (.sl false sh100 (l.map (TFunction.dd false))), .d (.sl false sh100 (l.map (TFunction.dd false)))] h (.d (.lf (.bool (true)))) h := eqFunctionS_a l (by unfold szs at hs; omega) (fun y hy h => eqFunction_d y (by have := szL_le TFunction.sz hy; unfold szs at hs; omega) h) h
theorem eqPackage_d (x : TPackage) (hz : x.sz ≤ 134217728) (h : HP) : CS cx.P 30 [.d (x.dd false), .d (x.dd false)] h (.d (.lf (.bool (true)))) h := by
 have hz2 := x.sz_eq
 refine Ze Tryz.func30 rfl 40 ?_
 apply Zr; intros
 iterate 3 (refine Zo ?_; simp)
 exact Zx
 refine W.seq ?_
 apply Zr; intros
 iterate 5 (refine Zo ?_; simp)
 exact Zx
 refine Zc rfl ?_ ?_ <;> intro hb0 <;> try simp at hb0
 refine W.skip ?_
 refine W.seq ?_
 apply Zr; intros
 iterate 4 (refine Zo ?_; simp)
 refine Zl [] rfl Tryz.func68 (eqStringS_d x.fDeps (by unfold szs at hz2; omega) _) ?_; simp
 refine Zo ?_; simp
 exact Zx
 refine Zc rfl ?_ ?_ <;> intro hb1 <;> try simp at hb1
 refine W.skip ?_
 refine W.seq ?_
 apply Zr; intros
 iterate 4 (refine Zo ?_; simp)
 refine Zl [] rfl Tryz.func69 (eqTraitS_d x.fTraits (by omega) _) ?_; simp
 refine Zo ?_; simp
 exact Zx
 refine Zc rfl ?_ ?_ <;> intro hb2 <;> try simp at hb2
 refine W.skip ?_
 refine W.seq ?_
 apply Zr; intros
 iterate 4 (refine Zo ?_; simp)
 refine Zl [] rfl Tryz.func70 (eqDataTypeS_d x.fDataTypes (by omega) _) ?_; simp
 refine Zo ?_; simp
 exact Zx
 refine Zc rfl ?_ ?_ <;> intro hb3 <;> try simp at hb3
 refine W.skip ?_
 refine W.seq ?_
 apply Zr; intros
 iterate 4 (refine Zo ?_; simp)
 refine Zl [] rfl Tryz.func71 (eqInstanceS_d x.fInstances (by omega) _) ?_; simp
 refine Zo ?_; simp
 exact Zx
 refine Zc rfl ?_ ?_ <;> intro hb4 <;> try simp at hb4
 refine W.skip ?_
 refine W.seq ?_
 apply Zr; intros
 iterate 4 (refine Zo ?_; simp)
 refine Zl [] rfl Tryz.func72 (eqFunctionS_d x.fFunctions (by omega) _) ?_; simp
 refine Zo ?_; simp
 exact Zx
 refine Zc rfl ?_ ?_ <;> intro hb5 <;> try simp at hb5
 refine W.skip ?_
 apply Zr; intros
 refine Zo ?_; simp
 exact Zx
 refine W.ret (Zq ?_)
 simp [Tryz.f30]
theorem eqPackageS_a (l : List TPackage) (hm : l.length ≤ 134217728) (hc : ∀ y ∈ l, ∀ h, CS cx.P 30 [.d (y.dd false), .d (y.dd false)] h (.d (.lf (.bool (true)))) h) (h : HP) : CS cx.P 17 [.d (.sl false sh44 (l.map (TPackage.dd false))), .d (.sl false sh44 (l.map (TPackage.dd false)))] h (.d (.lf (.bool (true)))) h := by
 refine Ze Tryz.func17 rfl 27 ?_
 apply Zr; intros
 refine Zo ?_; simp
 exact Zx
 refine W.seq ?_
 apply Zr; intros
 iterate 5 (refine Zo ?_; simp)
 exact Zx
 refine Zc rfl ?_ ?_ <;> intro hb0 <;> try simp at hb0
 refine W.skip ?_
 refine W.seq ?_
 apply Zr; intros
 refine Zo ?_; simp
 exact Zx
 refine W.block ?_
 refine W.loopk [0, 1] [] (fun k0 => [(5, .d (.lf (.int .i64 (k0 : Int))))]) (fun _ => []) l.length rfl (by simp) fun k0 hk0 T hT => ?_
 simp at hT; subst hT
 refine W.seq ?_
 apply Zr; intros
 iterate 4 (refine Zo ?_; simp)
 exact Zx
 refine Zc rfl ?_ ?_ <;> intro hb1 <;> try simp at hb1
 have hx := ixNext hb1 (by omega)
 refine W.skip ?_
 refine Zb ?_
 apply Yr rfl; intro K hK
 iterate 8 (refine Yo ?_ (by simp [hb1, hx] <;> omega); simp [hb1, hx])
 refine Yl [] rfl Tryz.func30 (hc l[k0] (gm hb1)) ?_ (by simp [hb1, hx]); simp [hb1, hx]
 refine Yo ?_ (by simp [hb1, hx] <;> omega); simp [hb1, hx]
 exact DL.nil rfl hK
 refine Zc rfl ?_ ?_ <;> intro hb2 <;> try simp at hb2
 refine W.skip ?_
 apply Zs; intros
 iterate 3 (refine Zo ?_ (by simp [hb1, hx] <;> omega); simp [hb1, hx])
 exact Zx
 refine ⟨hb1, Wz.to rfl rfl rfl ?_⟩
 simp
 have hkl : k0 = l.length := by omega
 subst hkl
 refine W.exit ?_
 apply Zr; intros
 refine Zo ?_; simp
 exact Zx
 refine W.ret (Zq ?_)
 simp [Tryz.f17]
theorem eqPackageS_d (l : List TPackage) (hs : szs TPackage.sz l ≤ 134217728) (h : HP) : CS cx.P 17 [.d (.sl false sh44 (l.map (TPackage.dd false))), .d (.sl false sh44 (l.map (TPackage.dd false)))] h (.d (.lf (.bool (true)))) h := eqPackageS_a l (by unfold szs at hs; omega) (fun y hy h => eqPackage_d y (by have := szL_le TPackage.sz hy; unfold szs at hs; omega) h) h
theorem eqProgram_d (x : TProgram) (hz : x.sz ≤ 134217728) (h : HP) : CS cx.P 8 [.d (x.dd false), .d (x.dd false)] h (.d (.lf (.bool (true)))) h := by
 have hz2 := x.sz_eq
 refine Ze Tryz.func8 rfl 11 ?_
 apply Zr; intros
 iterate 3 (refine Zo ?_; simp)
 exact Zx
 refine W.seq ?_
 apply Zr; intros
 iterate 4 (refine Zo ?_; simp)
 refine Zl [] rfl Tryz.func17 (eqPackageS_d x.fPackages (by omega) _) ?_; simp
 refine Zo ?_; simp
 exact Zx
 refine Zc rfl ?_ ?_ <;> intro hb0 <;> try simp at hb0
 refine W.skip ?_
 apply Zr; intros
 refine Zo ?_; simp
 exact Zx
 refine W.ret (Zq ?_)
 simp [Tryz.f8]
end Go.Proofs.YtkadbimpaplnmaaGreatDoor
