/- Walks by the Den rules. No condition. -/
import Derived.Test.YtkmiecgcibjkbaaGreatDenB
namespace Go.Proofs.YtkmiecgcibjkbaaGreat
open Go.RowKit
set_option maxRecDepth 10000
set_option linter.unusedSimpArgs false
set_option maxHeartbeats 4000000
def dPn (p : TParam) : DD := dS p.fName
theorem dPn_eq (p : TParam) : dPn p = .lf (.string p.fName) := rfl
theorem vws_dPn (l : List TParam) : DD.vws (l.map dPn) = l.map dPn := vws_map (fun _ => rfl) l
def dPt (o : Bool) (p : TParam) : DD := p.fType.dd o
theorem dPt_eq (o : Bool) (p : TParam) : dPt o p = p.fType.dd o := rfl
theorem vws_dPt (o : Bool) (l : List TParam) : DD.vws (l.map (dPt o)) = l.map (dPt false) := vws_map (fun p => p.fType.vw_dd o) l
attribute [simp] dPn_eq vws_dPn dPt_eq vws_dPt
theorem paramNames_d (l : List TParam) (hm : l.length ≤ 1048576) (h : HP) : CS cx.P 136 [.d (.sl false sh223 (l.map (TParam.dd false)))] h (.d (.sl true .one (l.map dPn))) h := by
  refine CS.run (fn := Tryz.f136) ⟨Tryz.func136, rfl, rfl⟩ _ _ _ _ 20 rfl (by simp) ?_
  refine W.seq ?_
  apply W.regS; intro _ K hK
  refine WL.op [] rfl (by simp <;> omega) rfl ?_; simp
  exact WL.nil hK
  refine W.seq ?_
  apply W.regS; intro _ K hK
  iterate 2 (refine WL.op [] rfl (by simp <;> omega) rfl ?_; simp)
  exact WL.nil hK
  refine W.seq ?_
  refine W.seq ?_
  apply W.regS; intro _ K hK
  iterate 3 (refine WL.op [] rfl (by simp <;> omega) rfl ?_; simp)
  exact WL.nil hK
  refine W.block ?_
  refine W.loopk [7, 8] [] (fun k0 => [(9, .d (.lf (.int .i64 (k0 : Int)))), (3, .d (.sl true .one (tk dPn l k0)))]) (fun _ => []) l.length rfl (by simp) fun k0 hk0 T hT => ?_
  simp at hT; subst hT
  have hl0 := tk_len (f := dPn) hk0
  refine W.seq ?_
  apply W.regS; intro _ K hK
  refine WL.op [] rfl (by simp [hl0] <;> omega) rfl ?_; simp [hl0]
  exact WL.nil hK
  refine W.seq ?_
  refine W.condS _ rfl trivial (fun hb0 => ?_) fun hb0 => ?_ <;> simp at hb0
  · have hx0 := ixNext hb0 (by omega)
    refine W.skip ?_
    refine W.seq ?_
    refine W.block ?_
    refine W.seq ?_
    apply W.regS; intro _ K hK
    refine WL.op [] rfl (by simp [hl0, hb0, hx0] <;> omega) rfl ?_; simp [hl0, hb0, hx0]
    refine WL.op [12] rfl (by simp [hl0, hb0, hx0] <;> omega) rfl ?_; simp [hl0, hb0, hx0]
    iterate 2 (refine WL.op [] rfl (by simp [hl0, hb0, hx0] <;> omega) rfl ?_; simp [hl0, hb0, hx0])
    exact WL.nil hK
    apply W.regS; intro _ K hK
    refine WL.op [13] rfl (by simp [hl0, hb0, hx0] <;> omega) rfl ?_; simp [hl0, hb0, hx0]
    iterate 5 (refine WL.op [] rfl (by simp [hl0, hb0, hx0] <;> omega) rfl ?_; simp [hl0, hb0, hx0])
    exact WL.nil hK
    apply W.regS; intro _ K hK
    iterate 2 (refine WL.op [] rfl (by simp [hl0, hb0, hx0] <;> omega) rfl ?_; simp [hl0, hb0, hx0])
    exact WL.nil hK
    refine ⟨hb0, Wz.to rfl rfl rfl ?_⟩
    have hs := tk_snoc (f := dPn) hb0
    simp at hs
    simp [hs]
  · have hkl : k0 = l.length := by omega
    subst hkl
    simp only [tk_full]
    refine W.exit ?_
    refine W.seq ?_
    apply W.regS; intro _ K hK
    refine WL.op [19] rfl (by simp [hl0] <;> omega) rfl ?_; simp [hl0]
    refine WL.op [] rfl (by simp [hl0] <;> omega) rfl ?_; simp [hl0]
    exact WL.nil hK
    refine W.ret ⟨.inr rfl, ⟨_, rfl⟩, ?_⟩
    simp [Tryz.f136]
theorem paramTypes_d (l : List TParam) (hm : l.length ≤ 1048576) (h : HP) : CS cx.P 137 [.d (.sl false sh223 (l.map (TParam.dd false)))] h (.d (.sl true sh88 (l.map (dPt false)))) h := by
  refine CS.run (fn := Tryz.f137) ⟨Tryz.func137, rfl, rfl⟩ _ _ _ _ 20 rfl (by simp) ?_
  refine W.seq ?_
  apply W.regS; intro _ K hK
  refine WL.op [] rfl (by simp <;> omega) rfl ?_; simp
  exact WL.nil hK
  refine W.seq ?_
  apply W.regS; intro _ K hK
  iterate 2 (refine WL.op [] rfl (by simp <;> omega) rfl ?_; simp)
  exact WL.nil hK
  refine W.seq ?_
  refine W.seq ?_
  apply W.regS; intro _ K hK
  iterate 3 (refine WL.op [] rfl (by simp <;> omega) rfl ?_; simp)
  exact WL.nil hK
  refine W.block ?_
  refine W.loopk [7, 8] [] (fun k0 => [(9, .d (.lf (.int .i64 (k0 : Int)))), (3, .d (.sl true sh88 (tk (dPt false) l k0)))]) (fun _ => []) l.length rfl (by simp) fun k0 hk0 T hT => ?_
  simp at hT; subst hT
  have hl0 := tk_len (f := dPt false) hk0
  refine W.seq ?_
  apply W.regS; intro _ K hK
  refine WL.op [] rfl (by simp [hl0] <;> omega) rfl ?_; simp [hl0]
  exact WL.nil hK
  refine W.seq ?_
  refine W.condS _ rfl trivial (fun hb0 => ?_) fun hb0 => ?_ <;> simp at hb0
  · have hx0 := ixNext hb0 (by omega)
    refine W.skip ?_
    refine W.seq ?_
    refine W.block ?_
    refine W.seq ?_
    apply W.regS; intro _ K hK
    refine WL.op [] rfl (by simp [hl0, hb0, hx0] <;> omega) rfl ?_; simp [hl0, hb0, hx0]
    refine WL.op [12] rfl (by simp [hl0, hb0, hx0] <;> omega) rfl ?_; simp [hl0, hb0, hx0]
    iterate 2 (refine WL.op [] rfl (by simp [hl0, hb0, hx0] <;> omega) rfl ?_; simp [hl0, hb0, hx0])
    exact WL.nil hK
    apply W.regS; intro _ K hK
    refine WL.op [13] rfl (by simp [hl0, hb0, hx0] <;> omega) rfl ?_; simp [hl0, hb0, hx0]
    refine WL.op [] rfl (by simp [hl0, hb0, hx0] <;> omega) rfl ?_; simp [hl0, hb0, hx0]
    refine WL.op [15] rfl (by simp [hl0, hb0, hx0] <;> omega) rfl ?_; simp [hl0, hb0, hx0]
    iterate 3 (refine WL.op [] rfl (by simp [hl0, hb0, hx0] <;> omega) rfl ?_; simp [hl0, hb0, hx0])
    exact WL.nil hK
    apply W.regS; intro _ K hK
    iterate 2 (refine WL.op [] rfl (by simp [hl0, hb0, hx0] <;> omega) rfl ?_; simp [hl0, hb0, hx0])
    exact WL.nil hK
    refine ⟨hb0, Wz.to rfl rfl rfl ?_⟩
    have hs := tk_snoc (f := dPt false) hb0
    simp at hs
    simp [hs]
  · have hkl : k0 = l.length := by omega
    subst hkl
    simp only [tk_full]
    refine W.exit ?_
    refine W.seq ?_
    apply W.regS; intro _ K hK
    refine WL.op [19] rfl (by simp [hl0] <;> omega) rfl ?_; simp [hl0]
    refine WL.op [] rfl (by simp [hl0] <;> omega) rfl ?_; simp [hl0]
    exact WL.nil hK
    refine W.ret ⟨.inr rfl, ⟨_, rfl⟩, ?_⟩
    simp [Tryz.f137]
theorem paramsOf_d (l : List TParam) (hz : szs TParam.sz l ≤ 1048576) (h : HP) : CS cx.P 135 [.d (.sl false .one (l.map dPn)), .d (.sl false sh88 (l.map (dPt false)))] h (.d (.sl true sh223 (l.map (TParam.dd true)))) h := by
  have hm : l.length ≤ 1048576 := by unfold szs at hz; omega
  refine CS.run (fn := Tryz.f135) ⟨Tryz.func135, rfl, rfl⟩ _ _ _ _ 31 rfl (by simp) ?_
  refine W.seq ?_
  apply W.regS; intro _ K hK
  refine WL.op [] rfl (by simp <;> omega) rfl ?_; simp
  exact WL.nil hK
  refine W.seq ?_
  apply W.regS; intro _ K hK
  iterate 2 (refine WL.op [] rfl (by simp <;> omega) rfl ?_; simp)
  exact WL.nil hK
  refine W.seq ?_
  refine W.seq ?_
  apply W.regS; intro _ K hK
  iterate 6 (refine WL.op [] rfl (by simp <;> omega) rfl ?_; simp)
  exact WL.nil hK
  refine W.block ?_
  refine W.loopk [0, 1, 12] [] (fun k0 => [(13, .d (.lf (.int .i64 (k0 : Int)))), (5, .d (.sl true sh223 (tk (TParam.dd true) l k0)))]) (fun _ => []) l.length rfl (by simp) fun k0 hk0 T hT => ?_
  simp at hT; subst hT
  have hl0 := tk_len (f := TParam.dd true) hk0
  refine W.seq ?_
  apply W.regS; intro _ K hK
  refine WL.op [] rfl (by simp [hl0] <;> omega) rfl ?_; simp [hl0]
  exact WL.nil hK
  refine W.seq ?_
  refine W.condS _ rfl trivial (fun hb0 => ?_) fun hb0 => ?_ <;> simp at hb0
  · have hx0 := ixNext hb0 (by omega)
    refine W.skip ?_
    refine W.seq ?_
    refine W.block ?_
    refine W.seq ?_
    apply W.regS; intro _ K hK
    iterate 2 (refine WL.op [] rfl (by simp [hl0, hb0, hx0] <;> omega) rfl ?_; simp [hl0, hb0, hx0])
    exact WL.nil hK
    apply W.regSD rfl; intro K hK
    refine DL.op [16] rfl (by simp [hl0, hb0, hx0] <;> omega) rfl ?_; simp [hl0, hb0, hx0]
    iterate 8 (refine DL.op [] rfl (by simp [hl0, hb0, hx0] <;> omega) rfl ?_; simp [hl0, hb0, hx0])
    refine DL.call [] _ _ _ rfl rfl (by simp) (g := 40) (caps := []) (by simp) (by simp) (fn := Tryz.f40) ⟨Tryz.func40, rfl, rfl⟩ rfl (by simp [hl0, hb0, hx0]) (by simp) (by simp [hl0, hb0, hx0]) (copyType_d l[k0].fType (by have := szL_le TParam.sz (List.getElem_mem hb0); have := l[k0].sz_eq; unfold szs at hz; omega)) rfl ?_; simp [hl0, hb0, hx0]
    iterate 4 (refine DL.op [] rfl (by simp [hl0, hb0, hx0] <;> omega) rfl ?_; simp [hl0, hb0, hx0])
    exact DL.nil rfl hK
    apply W.regS; intro _ K hK
    iterate 2 (refine WL.op [] rfl (by simp [hl0, hb0, hx0] <;> omega) rfl ?_; simp [hl0, hb0, hx0])
    exact WL.nil hK
    refine ⟨hb0, Wz.to rfl rfl rfl ?_⟩
    have hs := tk_snoc (f := TParam.dd true) hb0
    simp at hs
    simp [hs]
  · have hkl : k0 = l.length := by omega
    subst hkl
    simp only [tk_full]
    refine W.exit ?_
    refine W.seq ?_
    apply W.regS; intro _ K hK
    refine WL.op [30] rfl (by simp [hl0] <;> omega) rfl ?_; simp [hl0]
    refine WL.op [] rfl (by simp [hl0] <;> omega) rfl ?_; simp [hl0]
    exact WL.nil hK
    refine W.ret ⟨.inr rfl, ⟨_, rfl⟩, ?_⟩
    simp [Tryz.f135]
theorem mapCore_a (x : TCore) (hz : x.sz ≤ 1048576) (hc : ∀ y ∈ x.fArgs, ∀ h, CS cx.P 138 [.d (y.dd false), .fn 40 [], .fn 139 []] h (.d (y.dd true)) h) (he : ∀ a ∈ x.fArms, ∀ h, CS cx.P 138 [.d (a.fBody.dd false), .fn 40 [], .fn 139 []] h (.d (a.fBody.dd true)) h) (h : HP) : CS cx.P 138 [.d (x.dd false), .fn 40 [], .fn 139 []] h (.d (x.dd true)) h := by
  have hz2 := x.sz_eq; unfold szs at hz2
  refine CS.run (fn := Tryz.f138) ⟨Tryz.func138, rfl, rfl⟩ _ _ _ _ 103 rfl (by simp) ?_
  refine W.seq ?_
  apply W.regS; intro _ K hK
  iterate 2 (refine WL.op [] rfl (by simp <;> omega) rfl ?_; simp)
  exact WL.nil hK
  refine W.seq ?_
  apply W.regSD rfl; intro K hK
  iterate 11 (refine DL.op [] rfl (by simp <;> omega) rfl ?_; simp)
  refine DL.call [] _ _ _ rfl rfl (by simp) (g := 40) (caps := []) (by simp) (by simp) (fn := Tryz.f40) ⟨Tryz.func40, rfl, rfl⟩ rfl (by simp) (by simp) (by simp) (copyType_d x.fType (by omega)) rfl ?_; simp
  iterate 3 (refine DL.op [] rfl (by simp <;> omega) rfl ?_; simp)
  exact DL.nil rfl hK
  refine W.seq ?_
  refine W.seq ?_
  apply W.regS; intro _ K hK
  iterate 4 (refine WL.op [] rfl (by simp <;> omega) rfl ?_; simp)
  exact WL.nil hK
  refine W.block ?_
  refine W.loopk [1, 2, 3, 6, 7, 30, 31] [3, 6] (fun k0 => [(32, .d (.lf (.int .i64 (k0 : Int))))]) (fun k0 => [(7, .d (.st [.lf (.int .i64 x.fKind), .lf (.string x.fTrait), .lf (.string x.fName), .lf (.int .i64 x.fN), x.fType.dd true, .sl true sh88 (tk (TType.dd true) x.fTypeArgs k0), .sl true sh240 [], .sl true sh136 [], .sl true sh242 []]))]) x.fTypeArgs.length rfl (by simp) fun k0 hk0 T hT => ?_
  simp at hT; subst hT
  have hl0 := tk_len (f := TType.dd true) hk0
  refine W.seq ?_
  apply W.regS; intro _ K hK
  refine WL.op [] rfl (by simp [hl0] <;> omega) rfl ?_; simp [hl0]
  exact WL.nil hK
  refine W.seq ?_
  refine W.condS _ rfl trivial (fun hb0 => ?_) fun hb0 => ?_ <;> simp at hb0
  · have hx0 := ixNext hb0 (by omega)
    refine W.skip ?_
    refine W.seq ?_
    refine W.block ?_
    refine W.seq ?_
    apply W.regS; intro _ K hK
    refine WL.op [] rfl (by simp [hl0, hb0, hx0] <;> omega) rfl ?_; simp [hl0, hb0, hx0]
    refine WL.op [35] rfl (by simp [hl0, hb0, hx0] <;> omega) rfl ?_; simp [hl0, hb0, hx0]
    iterate 2 (refine WL.op [] rfl (by simp [hl0, hb0, hx0] <;> omega) rfl ?_; simp [hl0, hb0, hx0])
    exact WL.nil hK
    apply W.regSD rfl; intro K hK
    refine DL.op [] rfl (by simp [hl0, hb0, hx0] <;> omega) rfl ?_; simp [hl0, hb0, hx0]
    refine DL.op [37] rfl (by simp [hl0, hb0, hx0] <;> omega) rfl ?_; simp [hl0, hb0, hx0]
    iterate 2 (refine DL.op [] rfl (by simp [hl0, hb0, hx0] <;> omega) rfl ?_; simp [hl0, hb0, hx0])
    refine DL.call [] _ _ _ rfl rfl (by simp) (g := 40) (caps := []) (by simp) (by simp) (fn := Tryz.f40) ⟨Tryz.func40, rfl, rfl⟩ rfl (by simp [hl0, hb0, hx0]) (by simp) (by simp [hl0, hb0, hx0]) (copyType_d x.fTypeArgs[k0] (by have := szL_le TType.sz (List.getElem_mem hb0); omega)) rfl ?_; simp [hl0, hb0, hx0]
    iterate 4 (refine DL.op [] rfl (by simp [hl0, hb0, hx0] <;> omega) rfl ?_; simp [hl0, hb0, hx0])
    exact DL.nil rfl hK
    apply W.regS; intro _ K hK
    iterate 2 (refine WL.op [] rfl (by simp [hl0, hb0, hx0] <;> omega) rfl ?_; simp [hl0, hb0, hx0])
    exact WL.nil hK
    refine ⟨hb0, Wz.to rfl rfl rfl ?_⟩
    have hs := tk_snoc (f := TType.dd true) hb0
    simp at hs
    simp [hs]
  · have hkl : k0 = x.fTypeArgs.length := by omega
    subst hkl
    simp only [tk_full]
    refine W.exit ?_
    refine W.seq ?_
    refine W.seq ?_
    apply W.regS; intro _ K hK
    iterate 4 (refine WL.op [] rfl (by simp [hl0] <;> omega) rfl ?_; simp [hl0])
    exact WL.nil hK
    refine W.block ?_
    refine W.loopk [1, 2, 3, 6, 7, 46, 47] [3, 6] (fun k1 => [(48, .d (.lf (.int .i64 (k1 : Int))))]) (fun k1 => [(7, .d (.st [.lf (.int .i64 x.fKind), .lf (.string x.fTrait), .lf (.string x.fName), .lf (.int .i64 x.fN), x.fType.dd true, .sl true sh88 (x.fTypeArgs.map (TType.dd true)), .sl true sh240 (tk (TEvidence.dd true) x.fEvidence k1), .sl true sh136 [], .sl true sh242 []]))]) x.fEvidence.length rfl (by simp) fun k1 hk1 T hT => ?_
    simp at hT; subst hT
    have hl1 := tk_len (f := TEvidence.dd true) hk1
    refine W.seq ?_
    apply W.regS; intro _ K hK
    refine WL.op [] rfl (by simp [hl0, hl1] <;> omega) rfl ?_; simp [hl0, hl1]
    exact WL.nil hK
    refine W.seq ?_
    refine W.condS _ rfl trivial (fun hb1 => ?_) fun hb1 => ?_ <;> simp at hb1
    · have hx1 := ixNext hb1 (by omega)
      refine W.skip ?_
      refine W.seq ?_
      refine W.block ?_
      refine W.seq ?_
      apply W.regS; intro _ K hK
      refine WL.op [] rfl (by simp [hl0, hl1, hb1, hx1] <;> omega) rfl ?_; simp [hl0, hl1, hb1, hx1]
      refine WL.op [51] rfl (by simp [hl0, hl1, hb1, hx1] <;> omega) rfl ?_; simp [hl0, hl1, hb1, hx1]
      iterate 2 (refine WL.op [] rfl (by simp [hl0, hl1, hb1, hx1] <;> omega) rfl ?_; simp [hl0, hl1, hb1, hx1])
      exact WL.nil hK
      apply W.regSD rfl; intro K hK
      refine DL.op [] rfl (by simp [hl0, hl1, hb1, hx1] <;> omega) rfl ?_; simp [hl0, hl1, hb1, hx1]
      refine DL.op [53] rfl (by simp [hl0, hl1, hb1, hx1] <;> omega) rfl ?_; simp [hl0, hl1, hb1, hx1]
      iterate 2 (refine DL.op [] rfl (by simp [hl0, hl1, hb1, hx1] <;> omega) rfl ?_; simp [hl0, hl1, hb1, hx1])
      refine DL.call [] _ _ _ rfl rfl (by simp) (g := 139) (caps := []) (by simp) (by simp) (fn := Tryz.f139) ⟨Tryz.func139, rfl, rfl⟩ rfl (by simp [hl0, hl1, hb1, hx1]) (by simp) (by simp [hl0, hl1, hb1, hx1]) (copyEvidence_d x.fEvidence[k1] (by have := szL_le TEvidence.sz (List.getElem_mem hb1); omega)) rfl ?_; simp [hl0, hl1, hb1, hx1]
      iterate 4 (refine DL.op [] rfl (by simp [hl0, hl1, hb1, hx1] <;> omega) rfl ?_; simp [hl0, hl1, hb1, hx1])
      exact DL.nil rfl hK
      apply W.regS; intro _ K hK
      iterate 2 (refine WL.op [] rfl (by simp [hl0, hl1, hb1, hx1] <;> omega) rfl ?_; simp [hl0, hl1, hb1, hx1])
      exact WL.nil hK
      refine ⟨hb1, Wz.to rfl rfl rfl ?_⟩
      have hs := tk_snoc (f := TEvidence.dd true) hb1
      simp at hs
      simp [hs]
    · have hkl : k1 = x.fEvidence.length := by omega
      subst hkl
      simp only [tk_full]
      refine W.exit ?_
      refine W.seq ?_
      refine W.seq ?_
      apply W.regS; intro _ K hK
      iterate 4 (refine WL.op [] rfl (by simp [hl0, hl1] <;> omega) rfl ?_; simp [hl0, hl1])
      exact WL.nil hK
      refine W.block ?_
      refine W.loopk [1, 2, 3, 6, 7, 62, 63] [3, 6] (fun k2 => [(64, .d (.lf (.int .i64 (k2 : Int))))]) (fun k2 => [(7, .d (.st [.lf (.int .i64 x.fKind), .lf (.string x.fTrait), .lf (.string x.fName), .lf (.int .i64 x.fN), x.fType.dd true, .sl true sh88 (x.fTypeArgs.map (TType.dd true)), .sl true sh240 (x.fEvidence.map (TEvidence.dd true)), .sl true sh136 (tk (TCore.dd true) x.fArgs k2), .sl true sh242 []]))]) x.fArgs.length rfl (by simp) fun k2 hk2 T hT => ?_
      simp at hT; subst hT
      have hl2 := tk_len (f := TCore.dd true) hk2
      refine W.seq ?_
      apply W.regS; intro _ K hK
      refine WL.op [] rfl (by simp [hl0, hl1, hl2] <;> omega) rfl ?_; simp [hl0, hl1, hl2]
      exact WL.nil hK
      refine W.seq ?_
      refine W.condS _ rfl trivial (fun hb2 => ?_) fun hb2 => ?_ <;> simp at hb2
      · have hx2 := ixNext hb2 (by omega)
        refine W.skip ?_
        refine W.seq ?_
        refine W.block ?_
        refine W.seq ?_
        apply W.regS; intro _ K hK
        refine WL.op [] rfl (by simp [hl0, hl1, hl2, hb2, hx2] <;> omega) rfl ?_; simp [hl0, hl1, hl2, hb2, hx2]
        refine WL.op [67] rfl (by simp [hl0, hl1, hl2, hb2, hx2] <;> omega) rfl ?_; simp [hl0, hl1, hl2, hb2, hx2]
        iterate 2 (refine WL.op [] rfl (by simp [hl0, hl1, hl2, hb2, hx2] <;> omega) rfl ?_; simp [hl0, hl1, hl2, hb2, hx2])
        exact WL.nil hK
        apply W.regSD rfl; intro K hK
        refine DL.op [] rfl (by simp [hl0, hl1, hl2, hb2, hx2] <;> omega) rfl ?_; simp [hl0, hl1, hl2, hb2, hx2]
        refine DL.op [69] rfl (by simp [hl0, hl1, hl2, hb2, hx2] <;> omega) rfl ?_; simp [hl0, hl1, hl2, hb2, hx2]
        iterate 3 (refine DL.op [] rfl (by simp [hl0, hl1, hl2, hb2, hx2] <;> omega) rfl ?_; simp [hl0, hl1, hl2, hb2, hx2])
        refine DL.call [] _ _ _ rfl rfl (by simp) (g := 138) (caps := []) (by simp) (by simp) (fn := Tryz.f138) ⟨Tryz.func138, rfl, rfl⟩ rfl (by simp [hl0, hl1, hl2, hb2, hx2]) (by simp) (by simp [hl0, hl1, hl2, hb2, hx2]) (hc x.fArgs[k2] (List.getElem_mem hb2)) rfl ?_; simp [hl0, hl1, hl2, hb2, hx2]
        iterate 4 (refine DL.op [] rfl (by simp [hl0, hl1, hl2, hb2, hx2] <;> omega) rfl ?_; simp [hl0, hl1, hl2, hb2, hx2])
        exact DL.nil rfl hK
        apply W.regS; intro _ K hK
        iterate 2 (refine WL.op [] rfl (by simp [hl0, hl1, hl2, hb2, hx2] <;> omega) rfl ?_; simp [hl0, hl1, hl2, hb2, hx2])
        exact WL.nil hK
        refine ⟨hb2, Wz.to rfl rfl rfl ?_⟩
        have hs := tk_snoc (f := TCore.dd true) hb2
        simp at hs
        simp [hs]
      · have hkl : k2 = x.fArgs.length := by omega
        subst hkl
        simp only [tk_full]
        refine W.exit ?_
        refine W.seq ?_
        refine W.seq ?_
        apply W.regS; intro _ K hK
        iterate 4 (refine WL.op [] rfl (by simp [hl0, hl1, hl2] <;> omega) rfl ?_; simp [hl0, hl1, hl2])
        exact WL.nil hK
        refine W.block ?_
        refine W.loopk [1, 2, 6, 7, 79, 80] [6] (fun k3 => [(81, .d (.lf (.int .i64 (k3 : Int))))]) (fun k3 => [(7, .d (.st [.lf (.int .i64 x.fKind), .lf (.string x.fTrait), .lf (.string x.fName), .lf (.int .i64 x.fN), x.fType.dd true, .sl true sh88 (x.fTypeArgs.map (TType.dd true)), .sl true sh240 (x.fEvidence.map (TEvidence.dd true)), .sl true sh136 (x.fArgs.map (TCore.dd true)), .sl true sh242 (tk (TCoreArm.dd true) x.fArms k3)]))]) x.fArms.length rfl (by simp) fun k3 hk3 T hT => ?_
        simp at hT; subst hT
        have hl3 := tk_len (f := TCoreArm.dd true) hk3
        refine W.seq ?_
        apply W.regS; intro _ K hK
        refine WL.op [] rfl (by simp [hl0, hl1, hl2, hl3] <;> omega) rfl ?_; simp [hl0, hl1, hl2, hl3]
        exact WL.nil hK
        refine W.seq ?_
        refine W.condS _ rfl trivial (fun hb3 => ?_) fun hb3 => ?_ <;> simp at hb3
        · have hx3 := ixNext hb3 (by omega)
          have h5 := szL_le TCoreArm.sz (List.getElem_mem hb3); have h6 := x.fArms[k3].sz_eq; unfold szs at h6
          refine W.skip ?_
          refine W.seq ?_
          refine W.block ?_
          refine W.seq ?_
          apply W.regS; intro _ K hK
          refine WL.op [] rfl (by simp [hl0, hl1, hl2, hl3, hb3, hx3] <;> omega) rfl ?_; simp [hl0, hl1, hl2, hl3, hb3, hx3]
          refine WL.op [84] rfl (by simp [hl0, hl1, hl2, hl3, hb3, hx3] <;> omega) rfl ?_; simp [hl0, hl1, hl2, hl3, hb3, hx3]
          iterate 2 (refine WL.op [] rfl (by simp [hl0, hl1, hl2, hl3, hb3, hx3] <;> omega) rfl ?_; simp [hl0, hl1, hl2, hl3, hb3, hx3])
          exact WL.nil hK
          apply W.regSD rfl; intro K hK
          refine DL.op [] rfl (by simp [hl0, hl1, hl2, hl3, hb3, hx3] <;> omega) rfl ?_; simp [hl0, hl1, hl2, hl3, hb3, hx3]
          refine DL.op [86] rfl (by simp [hl0, hl1, hl2, hl3, hb3, hx3] <;> omega) rfl ?_; simp [hl0, hl1, hl2, hl3, hb3, hx3]
          iterate 4 (refine DL.op [] rfl (by simp [hl0, hl1, hl2, hl3, hb3, hx3] <;> omega) rfl ?_; simp [hl0, hl1, hl2, hl3, hb3, hx3])
          refine DL.call [] _ _ _ rfl rfl (by simp) (g := 98) (caps := []) (by simp) (by simp) (fn := Tryz.f98) ⟨Tryz.func98, rfl, rfl⟩ rfl (by simp [hl0, hl1, hl2, hl3, hb3, hx3]) (by simp) (by simp [hl0, hl1, hl2, hl3, hb3, hx3]) (copyNames_d x.fArms[k3].fVars (by omega)) rfl ?_; simp [hl0, hl1, hl2, hl3, hb3, hx3]
          iterate 4 (refine DL.op [] rfl (by simp [hl0, hl1, hl2, hl3, hb3, hx3] <;> omega) rfl ?_; simp [hl0, hl1, hl2, hl3, hb3, hx3])
          refine DL.call [] _ _ _ rfl rfl (by simp) (g := 138) (caps := []) (by simp) (by simp) (fn := Tryz.f138) ⟨Tryz.func138, rfl, rfl⟩ rfl (by simp [hl0, hl1, hl2, hl3, hb3, hx3]) (by simp) (by simp [hl0, hl1, hl2, hl3, hb3, hx3]) (he x.fArms[k3] (List.getElem_mem hb3)) rfl ?_; simp [hl0, hl1, hl2, hl3, hb3, hx3]
          iterate 5 (refine DL.op [] rfl (by simp [hl0, hl1, hl2, hl3, hb3, hx3] <;> omega) rfl ?_; simp [hl0, hl1, hl2, hl3, hb3, hx3])
          exact DL.nil rfl hK
          apply W.regS; intro _ K hK
          iterate 2 (refine WL.op [] rfl (by simp [hl0, hl1, hl2, hl3, hb3, hx3] <;> omega) rfl ?_; simp [hl0, hl1, hl2, hl3, hb3, hx3])
          exact WL.nil hK
          refine ⟨hb3, Wz.to rfl rfl rfl ?_⟩
          have hs := tk_snoc (f := TCoreArm.dd true) hb3
          simp at hs
          simp [hs]
        · have hkl : k3 = x.fArms.length := by omega
          subst hkl
          simp only [tk_full]
          refine W.exit ?_
          refine W.seq ?_
          apply W.regS; intro _ K hK
          refine WL.op [102] rfl (by simp [hl0, hl1, hl2, hl3] <;> omega) rfl ?_; simp [hl0, hl1, hl2, hl3]
          refine WL.op [] rfl (by simp [hl0, hl1, hl2, hl3] <;> omega) rfl ?_; simp [hl0, hl1, hl2, hl3]
          exact WL.nil hK
          refine W.ret ⟨.inr rfl, ⟨_, rfl⟩, ?_⟩
          simp [Tryz.f138]
theorem mapCore_d (x : TCore) (hz : x.sz ≤ 1048576) (h : HP) : CS cx.P 138 [.d (x.dd false), .fn 40 [], .fn 139 []] h (.d (x.dd true)) h := by
  have hz2 := x.sz_eq; unfold szs at hz2
  exact mapCore_a x hz (fun y hy h => mapCore_d y (by have := szL_le TCore.sz hy; omega) h) (fun a ha h => mapCore_d a.fBody (by have := szL_le TCoreArm.sz ha; have := a.sz_eq; omega) h) h
termination_by SizeOf.sizeOf x
decreasing_by
  · have := List.sizeOf_lt_of_mem hy; have := x.lt_fArgs; omega
  · have := List.sizeOf_lt_of_mem ha; have := x.lt_fArms; have := a.lt_fBody; omega
end Go.Proofs.YtkmiecgcibjkbaaGreat
