/- Walks by the Den rules. No condition. -/
import Derived.Test.YtkmiecgcibjkbaaGreatDenF
import Derived.Test.YtkmiecgcibjkbaaGreatDenG
namespace Go.Proofs.YtkmiecgcibjkbaaGreat
open Go.RowKit
set_option maxRecDepth 10000
set_option linter.unusedSimpArgs false
set_option maxHeartbeats 4000000
def fU (p : TBuiltPackage) : List DD := p.fUnits.map (TUnit.dd true)
theorem fU_eq (p : TBuiltPackage) : fU p = p.fUnits.map (TUnit.dd true) := rfl
theorem fU_len (p : TBuiltPackage) : (fU p).length ≤ p.sz := by
  have := p.sz_eq; unfold szs at this
  rw [fU_eq, List.length_map]; omega
attribute [simp] fU_eq
theorem specAllUnits_d (x : TBuild) (hz : x.sz ≤ 1048576) (h : HP) : CS cx.P 25 [.d (x.dd false)] h (.d (.sl true sh138 (x.fPackages.flatMap fU))) h := by
  have hz2 := x.sz_eq; unfold szs at hz2
  refine CS.run (fn := Tryz.f25) ⟨Tryz.func25, rfl, rfl⟩ _ _ _ _ 23 rfl (by simp) ?_
  refine W.seq ?_
  apply W.regS; intro _ K hK
  iterate 2 (refine WL.op [] rfl (by simp <;> omega) rfl ?_; simp)
  exact WL.nil hK
  refine W.seq ?_
  apply W.regS; intro _ K hK
  iterate 2 (refine WL.op [] rfl (by simp <;> omega) rfl ?_; simp)
  exact WL.nil hK
  refine W.seq ?_
  refine W.seq ?_
  apply W.regS; intro _ K hK
  refine WL.op [] rfl (by simp <;> omega) rfl ?_; simp
  exact WL.nil hK
  refine W.block ?_
  refine W.loopk [1] [1] (fun k0 => [(4, .d (.lf (.int .i64 (k0 : Int)))), (3, .d (.sl true sh138 (fk fU x.fPackages k0)))]) (fun _ => []) x.fPackages.length rfl (by simp) fun k0 hk0 T hT => ?_
  simp at hT; subst hT
  refine W.seq ?_
  refine W.seq ?_
  apply W.regS; intro _ K hK
  iterate 5 (refine WL.op [] rfl (by simp <;> omega) rfl ?_; simp)
  exact WL.nil hK
  refine W.condS _ rfl trivial (fun hb0 => ?_) fun hb0 => ?_ <;> simp at hb0
  · have hx0 := ixNext hb0 (by omega)
    have h5 := szL_le TBuiltPackage.sz (List.getElem_mem hb0); have h6 := x.fPackages[k0].sz_eq; unfold szs at h6
    have h7 := fk_len fU_len x.fPackages (k0 + 1); rw [← fk_snoc hb0] at h7; simp at h7
    refine W.skip ?_
    refine W.seq ?_
    refine W.block ?_
    apply W.regS; intro _ K hK
    refine WL.op [13] rfl (by simp [hb0, hx0] <;> omega) rfl ?_; simp [hb0, hx0]
    iterate 6 (refine WL.op [] rfl (by simp [hb0, hx0] <;> omega) rfl ?_; simp [hb0, hx0])
    refine WL.call [] _ _ _ rfl rfl (by simp) (g := 70) (caps := []) (by simp) (by simp) (fn := Tryz.f70) ⟨Tryz.func70, rfl, rfl⟩ rfl (by simp [hb0, hx0]) (by simp) (by simp [hb0, hx0]) (l36Copies_d x.fPackages[k0].fUnits (by unfold szs; omega) _) rfl ?_; simp [hb0, hx0]
    iterate 2 (refine WL.op [] rfl (by simp [hb0, hx0] <;> omega) rfl ?_; simp [hb0, hx0])
    exact WL.nil hK
    apply W.regS; intro _ K hK
    iterate 3 (refine WL.op [] rfl (by simp [hb0, hx0] <;> omega) rfl ?_; simp [hb0, hx0])
    exact WL.nil hK
    refine ⟨hb0, Wz.to rfl rfl rfl ?_⟩
    have hs := fk_snoc (f := fU) hb0
    simp at hs
    simp [hs]
  · have hkl : k0 = x.fPackages.length := by omega
    subst hkl
    simp only [fk_full]
    refine W.exit ?_
    refine W.seq ?_
    apply W.regS; intro _ K hK
    refine WL.op [22] rfl (by simp <;> omega) rfl ?_; simp
    refine WL.op [] rfl (by simp <;> omega) rfl ?_; simp
    exact WL.nil hK
    refine W.ret ⟨.inr rfl, ⟨_, rfl⟩, ?_⟩
    simp [Tryz.f25]
theorem implAllUnits_d (x : TBuild) (hz : x.sz ≤ 1048576) (h : HP) : CS cx.P 27 [.d (x.dd false)] h (.d (.sl true sh138 (x.fPackages.flatMap fU))) h := by
  have hz2 := x.sz_eq; unfold szs at hz2
  refine CS.run (fn := Tryz.f27) ⟨Tryz.func27, rfl, rfl⟩ _ _ _ _ 21 rfl (by simp) ?_
  refine W.seq ?_
  apply W.regS; intro _ K hK
  iterate 2 (refine WL.op [] rfl (by simp <;> omega) rfl ?_; simp)
  exact WL.nil hK
  refine W.seq ?_
  apply W.regS; intro _ K hK
  iterate 2 (refine WL.op [] rfl (by simp <;> omega) rfl ?_; simp)
  exact WL.nil hK
  refine W.seq ?_
  refine W.seq ?_
  apply W.regS; intro _ K hK
  iterate 4 (refine WL.op [] rfl (by simp <;> omega) rfl ?_; simp)
  exact WL.nil hK
  refine W.block ?_
  refine W.loopk [8, 9] [] (fun k0 => [(10, .d (.lf (.int .i64 (k0 : Int)))), (3, .d (.sl true sh138 (fk fU x.fPackages k0)))]) (fun _ => []) x.fPackages.length rfl (by simp) fun k0 hk0 T hT => ?_
  simp at hT; subst hT
  refine W.seq ?_
  apply W.regS; intro _ K hK
  refine WL.op [] rfl (by simp <;> omega) rfl ?_; simp
  exact WL.nil hK
  refine W.seq ?_
  refine W.condS _ rfl trivial (fun hb0 => ?_) fun hb0 => ?_ <;> simp at hb0
  · have hx0 := ixNext hb0 (by omega)
    have h5 := szL_le TBuiltPackage.sz (List.getElem_mem hb0); have h6 := x.fPackages[k0].sz_eq; unfold szs at h6
    have h7 := fk_len fU_len x.fPackages (k0 + 1); rw [← fk_snoc hb0] at h7; simp at h7
    refine W.skip ?_
    refine W.seq ?_
    refine W.block ?_
    refine W.seq ?_
    apply W.regS; intro _ K hK
    refine WL.op [] rfl (by simp [hb0, hx0] <;> omega) rfl ?_; simp [hb0, hx0]
    refine WL.op [13] rfl (by simp [hb0, hx0] <;> omega) rfl ?_; simp [hb0, hx0]
    iterate 2 (refine WL.op [] rfl (by simp [hb0, hx0] <;> omega) rfl ?_; simp [hb0, hx0])
    exact WL.nil hK
    apply W.regS; intro _ K hK
    refine WL.op [14] rfl (by simp [hb0, hx0] <;> omega) rfl ?_; simp [hb0, hx0]
    iterate 2 (refine WL.op [] rfl (by simp [hb0, hx0] <;> omega) rfl ?_; simp [hb0, hx0])
    refine WL.call [] _ _ _ rfl rfl (by simp) (g := 72) (caps := []) (by simp) (by simp) (fn := Tryz.f72) ⟨Tryz.func72, rfl, rfl⟩ rfl (by simp [hb0, hx0]) (by simp) (by simp [hb0, hx0]) (copyUnits_d x.fPackages[k0].fUnits (by unfold szs; omega) _) rfl ?_; simp [hb0, hx0]
    iterate 2 (refine WL.op [] rfl (by simp [hb0, hx0] <;> omega) rfl ?_; simp [hb0, hx0])
    exact WL.nil hK
    apply W.regS; intro _ K hK
    iterate 2 (refine WL.op [] rfl (by simp [hb0, hx0] <;> omega) rfl ?_; simp [hb0, hx0])
    exact WL.nil hK
    refine ⟨hb0, Wz.to rfl rfl rfl ?_⟩
    have hs := fk_snoc (f := fU) hb0
    simp at hs
    simp [hs]
  · have hkl : k0 = x.fPackages.length := by omega
    subst hkl
    simp only [fk_full]
    refine W.exit ?_
    refine W.seq ?_
    apply W.regS; intro _ K hK
    refine WL.op [20] rfl (by simp <;> omega) rfl ?_; simp
    refine WL.op [] rfl (by simp <;> omega) rfl ?_; simp
    exact WL.nil hK
    refine W.ret ⟨.inr rfl, ⟨_, rfl⟩, ?_⟩
    simp [Tryz.f27]
end Go.Proofs.YtkmiecgcibjkbaaGreat
