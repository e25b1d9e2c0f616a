/- Walks by the Den rules. No condition. -/
import Derived.Test.YtkmiecgcibjkbaaGreatDenD
namespace Go.Proofs.YtkmiecgcibjkbaaGreat
open Go.RowKit
set_option maxRecDepth 10000
set_option linter.unusedSimpArgs false
set_option maxHeartbeats 4000000
theorem l36Copies_d (l : List TUnit) (hz : szs TUnit.sz l ≤ 1048576) (h : HP) : CS cx.P 70 [.d (.sl false sh138 (l.map (TUnit.dd false)))] h (.d (.sl true sh138 (l.map (TUnit.dd true)))) h := by
  have hz2 := hz; unfold szs at hz2
  refine CS.run (fn := Tryz.f70) ⟨Tryz.func70, rfl, rfl⟩ _ _ _ _ 68 rfl (by simp) ?_
  refine W.seq ?_
  apply W.regS; intro _ K hK
  refine WL.op [] rfl (by simp <;> omega) rfl ?_; simp
  exact WL.nil hK
  refine W.seq ?_
  apply W.regS; intro _ K hK
  iterate 2 (refine WL.op [] rfl (by simp <;> omega) rfl ?_; simp)
  exact WL.nil hK
  refine W.seq ?_
  refine W.seq ?_
  apply W.regS; intro _ K hK
  refine WL.op [] rfl (by simp <;> omega) rfl ?_; simp
  exact WL.nil hK
  refine W.block ?_
  refine W.loopk [0] [] (fun k0 => [(4, .d (.lf (.int .i64 (k0 : Int)))), (3, .d (.sl true sh138 (tk (TUnit.dd true) l k0)))]) (fun _ => []) l.length rfl (by simp) fun k0 hk0 T hT => ?_
  simp at hT; subst hT
  have hl0 := tk_len (f := TUnit.dd true) hk0
  refine W.seq ?_
  refine W.seq ?_
  apply W.regS; intro _ K hK
  iterate 4 (refine WL.op [] rfl (by simp [hl0] <;> omega) rfl ?_; simp [hl0])
  exact WL.nil hK
  refine W.condS _ rfl trivial (fun hb0 => ?_) fun hb0 => ?_ <;> simp at hb0
  · have hx0 := ixNext hb0 (by omega)
    have h5 := szL_le TUnit.sz (List.getElem_mem hb0); have h6 := l[k0].sz_eq; unfold szs at h6
    refine W.skip ?_
    refine W.seq ?_
    refine W.block ?_
    refine W.seq ?_
    apply W.regS; intro _ K hK
    iterate 3 (refine WL.op [] rfl (by simp [hl0, hb0, hx0] <;> omega) rfl ?_; simp [hl0, hb0, hx0])
    refine WL.op [18] rfl (by simp [hl0, hb0, hx0] <;> omega) rfl ?_; simp [hl0, hb0, hx0]
    iterate 2 (refine WL.op [] rfl (by simp [hl0, hb0, hx0] <;> omega) rfl ?_; simp [hl0, hb0, hx0])
    exact WL.nil hK
    refine W.seq ?_
    apply W.regS; intro _ K hK
    iterate 2 (refine WL.op [] rfl (by simp [hl0, hb0, hx0] <;> omega) rfl ?_; simp [hl0, hb0, hx0])
    exact WL.nil hK
    refine W.seq ?_
    refine W.seq ?_
    apply W.regS; intro _ K hK
    refine WL.op [] rfl (by simp [hl0, hb0, hx0] <;> omega) rfl ?_; simp [hl0, hb0, hx0]
    exact WL.nil hK
    refine W.block ?_
    refine W.loopk [0, 3, 4, 5] [5] (fun k1 => [(7, .d (.lf (.int .i64 (k1 : Int)))), (6, .d (.sl true sh223 (tk (TParam.dd true) l[k0].fParams k1)))]) (fun _ => []) l[k0].fParams.length rfl (by simp) fun k1 hk1 T hT => ?_
    simp at hT; subst hT
    have hl1 := tk_len (f := TParam.dd true) hk1
    refine W.seq ?_
    refine W.seq ?_
    apply W.regS; intro _ K hK
    iterate 5 (refine WL.op [] rfl (by simp [hl0, hb0, hx0, hl1] <;> omega) rfl ?_; simp [hl0, hb0, hx0, hl1])
    exact WL.nil hK
    refine W.condS _ rfl trivial (fun hb1 => ?_) fun hb1 => ?_ <;> simp at hb1
    · have hx1 := ixNext hb1 (by omega)
      have h7 := szL_le TParam.sz (List.getElem_mem hb1); have h8 := l[k0].fParams[k1].sz_eq
      refine W.skip ?_
      refine W.seq ?_
      refine W.block ?_
      apply W.regSD rfl; intro K hK
      refine DL.op [27] rfl (by simp [hl0, hb0, hx0, hl1, hb1, hx1] <;> omega) rfl ?_; simp [hl0, hb0, hx0, hl1, hb1, hx1]
      iterate 12 (refine DL.op [] rfl (by simp [hl0, hb0, hx0, hl1, hb1, hx1] <;> omega) rfl ?_; simp [hl0, hb0, hx0, hl1, hb1, hx1])
      refine DL.call [] _ _ _ rfl rfl (by simp) (g := 92) (caps := []) (by simp) (by simp) (fn := Tryz.f92) ⟨Tryz.func92, rfl, rfl⟩ rfl (by simp [hl0, hb0, hx0, hl1, hb1, hx1]) (by simp) (by simp [hl0, hb0, hx0, hl1, hb1, hx1]) (l4Copy_d l[k0].fParams[k1].fType (by omega)) rfl ?_; simp [hl0, hb0, hx0, hl1, hb1, hx1]
      iterate 4 (refine DL.op [] rfl (by simp [hl0, hb0, hx0, hl1, hb1, hx1] <;> omega) rfl ?_; simp [hl0, hb0, hx0, hl1, hb1, hx1])
      exact DL.nil rfl hK
      apply W.regS; intro _ K hK
      iterate 3 (refine WL.op [] rfl (by simp [hl0, hb0, hx0, hl1, hb1, hx1] <;> omega) rfl ?_; simp [hl0, hb0, hx0, hl1, hb1, hx1])
      exact WL.nil hK
      refine ⟨hb1, Wz.to rfl rfl rfl ?_⟩
      have hs := tk_snoc (f := TParam.dd true) hb1
      simp at hs
      simp [hs]
    · have hkl : k1 = l[k0].fParams.length := by omega
      subst hkl
      simp only [tk_full]
      refine W.exit ?_
      refine W.seq ?_
      apply W.regS; intro _ K hK
      refine WL.op [44] rfl (by simp [hl0, hb0, hx0, hl1] <;> omega) rfl ?_; simp [hl0, hb0, hx0, hl1]
      iterate 2 (refine WL.op [] rfl (by simp [hl0, hb0, hx0, hl1] <;> omega) rfl ?_; simp [hl0, hb0, hx0, hl1])
      exact WL.nil hK
      refine W.seq ?_
      apply W.regS; intro _ K hK
      iterate 2 (refine WL.op [] rfl (by simp [hl0, hb0, hx0, hl1] <;> omega) rfl ?_; simp [hl0, hb0, hx0, hl1])
      refine WL.op [48] rfl (by simp [hl0, hb0, hx0, hl1] <;> omega) rfl ?_; simp [hl0, hb0, hx0, hl1]
      iterate 3 (refine WL.op [] rfl (by simp [hl0, hb0, hx0, hl1] <;> omega) rfl ?_; simp [hl0, hb0, hx0, hl1])
      exact WL.nil hK
      refine W.seq ?_
      apply W.regS; intro _ K hK
      iterate 2 (refine WL.op [] rfl (by simp [hl0, hb0, hx0, hl1] <;> omega) rfl ?_; simp [hl0, hb0, hx0, hl1])
      refine WL.call [] _ _ _ rfl rfl (by simp) (g := 132) (caps := []) (by simp) (by simp) (fn := Tryz.f132) ⟨Tryz.func132, rfl, rfl⟩ rfl (by simp [hl0, hb0, hx0, hl1]) (by simp) (by simp [hl0, hb0, hx0, hl1]) (l13Bounds_d l[k0].fWhere (by unfold szs; omega) _) rfl ?_; simp [hl0, hb0, hx0, hl1]
      iterate 2 (refine WL.op [] rfl (by simp [hl0, hb0, hx0, hl1] <;> omega) rfl ?_; simp [hl0, hb0, hx0, hl1])
      exact WL.nil hK
      refine W.seq ?_
      apply W.regS; intro _ K hK
      iterate 2 (refine WL.op [] rfl (by simp [hl0, hb0, hx0, hl1] <;> omega) rfl ?_; simp [hl0, hb0, hx0, hl1])
      refine WL.call [] _ _ _ rfl rfl (by simp) (g := 92) (caps := []) (by simp) (by simp) (fn := Tryz.f92) ⟨Tryz.func92, rfl, rfl⟩ rfl (by simp [hl0, hb0, hx0, hl1]) (by simp) (by simp [hl0, hb0, hx0, hl1]) (l4Copy_d l[k0].fResult (by omega) _) rfl ?_; simp [hl0, hb0, hx0, hl1]
      iterate 2 (refine WL.op [] rfl (by simp [hl0, hb0, hx0, hl1] <;> omega) rfl ?_; simp [hl0, hb0, hx0, hl1])
      exact WL.nil hK
      refine W.seq ?_
      apply W.regS; intro _ K hK
      iterate 2 (refine WL.op [] rfl (by simp [hl0, hb0, hx0, hl1] <;> omega) rfl ?_; simp [hl0, hb0, hx0, hl1])
      refine WL.call [] _ _ _ rfl rfl (by simp) (g := 91) (caps := []) (by simp) (by simp) (fn := Tryz.f91) ⟨Tryz.func91, rfl, rfl⟩ rfl (by simp [hl0, hb0, hx0, hl1]) (by simp) (by simp [hl0, hb0, hx0, hl1]) (l31Copy_d l[k0].fBody (by omega) _) rfl ?_; simp [hl0, hb0, hx0, hl1]
      iterate 2 (refine WL.op [] rfl (by simp [hl0, hb0, hx0, hl1] <;> omega) rfl ?_; simp [hl0, hb0, hx0, hl1])
      exact WL.nil hK
      apply W.regS; intro _ K hK
      refine WL.op [63] rfl (by simp [hl0, hb0, hx0, hl1] <;> omega) rfl ?_; simp [hl0, hb0, hx0, hl1]
      refine WL.op [64] rfl (by simp [hl0, hb0, hx0, hl1] <;> omega) rfl ?_; simp [hl0, hb0, hx0, hl1]
      iterate 3 (refine WL.op [] rfl (by simp [hl0, hb0, hx0, hl1] <;> omega) rfl ?_; simp [hl0, hb0, hx0, hl1])
      exact WL.nil hK
      apply W.regS; intro _ K hK
      iterate 3 (refine WL.op [] rfl (by simp [hl0, hb0, hx0, hl1] <;> omega) rfl ?_; simp [hl0, hb0, hx0, hl1])
      exact WL.nil hK
      refine ⟨hb0, Wz.to rfl rfl rfl ?_⟩
      have hs := tk_snoc (f := TUnit.dd true) hb0
      simp at hs
      simp [hs]
  · have hkl : k0 = l.length := by omega
    subst hkl
    simp only [tk_full]
    refine W.exit ?_
    refine W.seq ?_
    apply W.regS; intro _ K hK
    refine WL.op [67] rfl (by simp [hl0] <;> omega) rfl ?_; simp [hl0]
    refine WL.op [] rfl (by simp [hl0] <;> omega) rfl ?_; simp [hl0]
    exact WL.nil hK
    refine W.ret ⟨.inr rfl, ⟨_, rfl⟩, ?_⟩
    simp [Tryz.f70]
end Go.Proofs.YtkmiecgcibjkbaaGreat
