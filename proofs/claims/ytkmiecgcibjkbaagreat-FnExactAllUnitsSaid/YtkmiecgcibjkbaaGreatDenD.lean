/- Walks by the Den rules. No condition. -/
import Derived.Test.YtkmiecgcibjkbaaGreatDenC
namespace Go.Proofs.YtkmiecgcibjkbaaGreat
open Go.RowKit
set_option maxRecDepth 10000
set_option linter.unusedSimpArgs false
set_option maxHeartbeats 4000000
theorem Sub0_a (o : Bool) (x : TCore) (hz : x.sz ≤ 1048576) (hc : ∀ y ∈ x.fArgs, ∀ h, CS cx.P 151 [.d (.sl false sh207 []), .d (y.dd false)] h (.d (y.dd true)) h) (he : ∀ a ∈ x.fArms, ∀ h, CS cx.P 151 [.d (.sl false sh207 []), .d (a.fBody.dd false)] h (.d (a.fBody.dd true)) h) (h : HP) : CS cx.P 151 [.d (.sl o sh207 []), .d (x.dd false)] h (.d (x.dd true)) h := by
  have hz2 := x.sz_eq; unfold szs at hz2
  refine CS.run (fn := Tryz.f151) ⟨Tryz.func151, rfl, rfl⟩ _ _ _ _ 83 rfl (by simp) ?_
  refine W.seq ?_
  apply W.regS; intro _ K hK
  iterate 2 (refine WL.op [] rfl (by simp <;> omega) rfl ?_; simp)
  exact WL.nil hK
  refine W.seq ?_
  apply W.regSD rfl; intro K hK
  iterate 11 (refine DL.op [] rfl (by simp <;> omega) rfl ?_; simp)
  refine DL.call [] _ _ _ rfl rfl (by simp) (g := 204) (caps := []) (by simp) (by simp) (fn := Tryz.f204) ⟨Tryz.func204, rfl, rfl⟩ rfl (by simp) (by simp) (by simp) (Apply0_d x.fType (by omega)) rfl ?_; simp
  iterate 3 (refine DL.op [] rfl (by simp <;> omega) rfl ?_; simp)
  refine DL.call [] _ _ _ rfl rfl (by simp) (g := 205) (caps := []) (by simp) (by simp) (fn := Tryz.f205) ⟨Tryz.func205, rfl, rfl⟩ rfl (by simp) (by simp) (by simp) (ApplyAll0_d x.fTypeArgs (by unfold szs; omega)) rfl ?_; simp
  iterate 2 (refine DL.op [] rfl (by simp <;> omega) rfl ?_; simp)
  refine DL.call [] _ _ _ rfl rfl (by simp) (g := 206) (caps := []) (by simp) (by simp) (fn := Tryz.f206) ⟨Tryz.func206, rfl, rfl⟩ rfl (by simp) (by simp) (by simp) (l24Copies_d x.fEvidence (by unfold szs; omega)) rfl ?_; simp
  iterate 3 (refine DL.op [] rfl (by simp <;> omega) rfl ?_; simp)
  exact DL.nil rfl hK
  refine W.seq ?_
  refine W.seq ?_
  apply W.regS; intro _ K hK
  refine WL.op [] rfl (by simp <;> omega) rfl ?_; simp
  exact WL.nil hK
  refine W.block ?_
  refine W.loopk [0, 3, 4, 5] [3, 4] (fun k0 => [(6, .d (.lf (.int .i64 (k0 : Int))))]) (fun k0 => [(5, .d (.st [.lf (.int .i64 x.fKind), .lf (.string x.fTrait), .lf (.string x.fName), .lf (.int .i64 x.fN), x.fType.dd true, .sl true sh88 (x.fTypeArgs.map (TType.dd true)), .sl true sh240 (x.fEvidence.map (TEvidence.dd true)), .sl true sh136 (tk (TCore.dd true) x.fArgs k0), .sl true sh242 []]))]) x.fArgs.length rfl (by simp) fun k0 hk0 T hT => ?_
  simp at hT; subst hT
  have hl0 := tk_len (f := TCore.dd true) hk0
  refine W.seq ?_
  refine W.seq ?_
  apply W.regS; intro _ K hK
  iterate 5 (refine WL.op [] rfl (by simp [hl0] <;> omega) rfl ?_; simp [hl0])
  exact WL.nil hK
  refine W.condS _ rfl trivial (fun hb0 => ?_) fun hb0 => ?_ <;> simp at hb0
  · have hx0 := ixNext hb0 (by omega)
    refine W.skip ?_
    refine W.seq ?_
    refine W.block ?_
    apply W.regSD rfl; intro K hK
    refine DL.op [] rfl (by simp [hl0, hb0, hx0] <;> omega) rfl ?_; simp [hl0, hb0, hx0]
    refine DL.op [36] rfl (by simp [hl0, hb0, hx0] <;> omega) rfl ?_; simp [hl0, hb0, hx0]
    iterate 6 (refine DL.op [] rfl (by simp [hl0, hb0, hx0] <;> omega) rfl ?_; simp [hl0, hb0, hx0])
    refine DL.call [] _ _ _ rfl rfl (by simp) (g := 151) (caps := []) (by simp) (by simp) (fn := Tryz.f151) ⟨Tryz.func151, rfl, rfl⟩ rfl (by simp [hl0, hb0, hx0]) (by simp) (by simp [hl0, hb0, hx0]) (hc x.fArgs[k0] (List.getElem_mem hb0)) rfl ?_; simp [hl0, hb0, hx0]
    iterate 4 (refine DL.op [] rfl (by simp [hl0, hb0, hx0] <;> omega) rfl ?_; simp [hl0, hb0, hx0])
    exact DL.nil rfl hK
    apply W.regS; intro _ K hK
    iterate 3 (refine WL.op [] rfl (by simp [hl0, hb0, hx0] <;> omega) rfl ?_; simp [hl0, hb0, hx0])
    exact WL.nil hK
    refine ⟨hb0, Wz.to rfl rfl rfl ?_⟩
    have hs := tk_snoc (f := TCore.dd true) hb0
    simp at hs
    simp [hs]
  · have hkl : k0 = x.fArgs.length := by omega
    subst hkl
    simp only [tk_full]
    refine W.exit ?_
    refine W.seq ?_
    refine W.seq ?_
    apply W.regS; intro _ K hK
    refine WL.op [] rfl (by simp [hl0] <;> omega) rfl ?_; simp [hl0]
    exact WL.nil hK
    refine W.block ?_
    refine W.loopk [0, 3, 4, 5] [3, 4] (fun k1 => [(7, .d (.lf (.int .i64 (k1 : Int))))]) (fun k1 => [(5, .d (.st [.lf (.int .i64 x.fKind), .lf (.string x.fTrait), .lf (.string x.fName), .lf (.int .i64 x.fN), x.fType.dd true, .sl true sh88 (x.fTypeArgs.map (TType.dd true)), .sl true sh240 (x.fEvidence.map (TEvidence.dd true)), .sl true sh136 (x.fArgs.map (TCore.dd true)), .sl true sh242 (tk (TCoreArm.dd true) x.fArms k1)]))]) x.fArms.length rfl (by simp) fun k1 hk1 T hT => ?_
    simp at hT; subst hT
    have hl1 := tk_len (f := TCoreArm.dd true) hk1
    refine W.seq ?_
    refine W.seq ?_
    apply W.regS; intro _ K hK
    iterate 5 (refine WL.op [] rfl (by simp [hl0, hl1] <;> omega) rfl ?_; simp [hl0, hl1])
    exact WL.nil hK
    refine W.condS _ rfl trivial (fun hb1 => ?_) fun hb1 => ?_ <;> simp at hb1
    · have hx1 := ixNext hb1 (by omega)
      have h5 := szL_le TCoreArm.sz (List.getElem_mem hb1); have h6 := x.fArms[k1].sz_eq; unfold szs at h6
      refine W.skip ?_
      refine W.seq ?_
      refine W.block ?_
      apply W.regSD rfl; intro K hK
      refine DL.op [] rfl (by simp [hl0, hl1, hb1, hx1] <;> omega) rfl ?_; simp [hl0, hl1, hb1, hx1]
      refine DL.op [55] rfl (by simp [hl0, hl1, hb1, hx1] <;> omega) rfl ?_; simp [hl0, hl1, hb1, hx1]
      iterate 12 (refine DL.op [] rfl (by simp [hl0, hl1, hb1, hx1] <;> omega) rfl ?_; simp [hl0, hl1, hb1, hx1])
      refine DL.op [68] rfl (by simp [hl0, hl1, hb1, hx1] <;> omega) rfl ?_; simp [hl0, hl1, hb1, hx1]
      iterate 8 (refine DL.op [] rfl (by simp [hl0, hl1, hb1, hx1] <;> omega) rfl ?_; simp [hl0, hl1, hb1, hx1])
      refine DL.call [] _ _ _ rfl rfl (by simp) (g := 151) (caps := []) (by simp) (by simp) (fn := Tryz.f151) ⟨Tryz.func151, rfl, rfl⟩ rfl (by simp [hl0, hl1, hb1, hx1]) (by simp) (by simp [hl0, hl1, hb1, hx1]) (he x.fArms[k1] (List.getElem_mem hb1)) rfl ?_; simp [hl0, hl1, hb1, hx1]
      iterate 5 (refine DL.op [] rfl (by simp [hl0, hl1, hb1, hx1] <;> omega) rfl ?_; simp [hl0, hl1, hb1, hx1])
      exact DL.nil rfl hK
      apply W.regS; intro _ K hK
      iterate 3 (refine WL.op [] rfl (by simp [hl0, hl1, hb1, hx1] <;> omega) rfl ?_; simp [hl0, hl1, hb1, hx1])
      exact WL.nil hK
      refine ⟨hb1, Wz.to rfl rfl rfl ?_⟩
      have hs := tk_snoc (f := TCoreArm.dd true) hb1
      simp at hs
      simp [hs]
    · have hkl : k1 = x.fArms.length := by omega
      subst hkl
      simp only [tk_full]
      refine W.exit ?_
      refine W.seq ?_
      apply W.regS; intro _ K hK
      refine WL.op [82] rfl (by simp [hl0, hl1] <;> omega) rfl ?_; simp [hl0, hl1]
      refine WL.op [] rfl (by simp [hl0, hl1] <;> omega) rfl ?_; simp [hl0, hl1]
      exact WL.nil hK
      refine W.ret ⟨.inr rfl, ⟨_, rfl⟩, ?_⟩
      simp [Tryz.f151]
theorem Sub0_d (o : Bool) (x : TCore) (hz : x.sz ≤ 1048576) (h : HP) : CS cx.P 151 [.d (.sl o sh207 []), .d (x.dd false)] h (.d (x.dd true)) h := by
  have hz2 := x.sz_eq; unfold szs at hz2
  exact Sub0_a o x hz (fun y hy h => Sub0_d false y (by have := szL_le TCore.sz hy; omega) h) (fun a ha h => Sub0_d false a.fBody (by have := szL_le TCoreArm.sz ha; have := a.sz_eq; omega) h) h
termination_by SizeOf.sizeOf x
decreasing_by
  · have := List.sizeOf_lt_of_mem hy; have := x.lt_fArgs; omega
  · have := List.sizeOf_lt_of_mem ha; have := x.lt_fArms; have := a.lt_fBody; omega
theorem l31Copy_d (x : TCore) (hz : x.sz ≤ 1048576) (h : HP) : CS cx.P 91 [.d (x.dd false)] h (.d (x.dd true)) h := by
  refine CS.run (fn := Tryz.f91) ⟨Tryz.func91, rfl, rfl⟩ _ _ _ _ 5 rfl (by simp) ?_
  refine W.seq ?_
  apply W.regS; intro _ K hK
  iterate 2 (refine WL.op [] rfl (by simp <;> omega) rfl ?_; simp)
  exact WL.nil hK
  refine W.seq ?_
  apply W.regS; intro _ K hK
  refine WL.op [] rfl (by simp <;> omega) rfl ?_; simp
  refine WL.call [] _ _ _ rfl rfl (by simp) (g := 151) (caps := []) (by simp) (by simp) (fn := Tryz.f151) ⟨Tryz.func151, rfl, rfl⟩ rfl (by simp) (by simp) (by simp) (Sub0_d true x hz _) rfl ?_; simp
  refine WL.op [] rfl (by simp <;> omega) rfl ?_; simp
  exact WL.nil hK
  refine W.ret ⟨.inr rfl, ⟨_, rfl⟩, ?_⟩
  simp [Tryz.f91]
end Go.Proofs.YtkmiecgcibjkbaaGreat
