/- Walks by the Den rules. No condition. -/
import Derived.Test.YtkmiecgcibjkbaaGreatDenE
namespace Go.Proofs.YtkmiecgcibjkbaaGreat
open Go.RowKit
set_option maxRecDepth 10000
set_option linter.unusedSimpArgs false
set_option maxHeartbeats 4000000
theorem copyUnits_d (l : List TUnit) (hz : szs TUnit.sz l ≤ 1048576) (h : HP) : CS cx.P 72 [.d (.sl false sh138 (l.map (TUnit.dd false)))] h (.d (.sl true sh138 (l.map (TUnit.dd true)))) h := by
  have hz2 := hz; unfold szs at hz2
  refine CS.run (fn := Tryz.f72) ⟨Tryz.func72, rfl, rfl⟩ _ _ _ _ 46 rfl (by simp) ?_
  refine W.seq ?_
  apply W.regS; intro _ K hK
  refine WL.op [] rfl (by simp <;> omega) rfl ?_; simp
  exact WL.nil hK
  refine W.seq ?_
  apply W.regS; intro _ K hK
  iterate 4 (refine WL.op [] rfl (by simp <;> omega) rfl ?_; simp)
  exact WL.nil hK
  refine W.seq ?_
  refine W.seq ?_
  apply W.regS; intro _ K hK
  iterate 3 (refine WL.op [] rfl (by simp <;> omega) rfl ?_; simp)
  exact WL.nil hK
  refine W.block ?_
  refine W.loopk [3, 9, 10] [] (fun k0 => [(11, .d (.lf (.int .i64 (k0 : Int))))]) (fun k0 => [(8, .d (.st (rowL (TUnit.dd true) l k0 (.st [.lf (.int .i64 0), .lf (.int .i64 0), .lf (.int .i64 0), .lf (.int .i64 0), .sl true .one [], .sl true sh110 [], .sl true sh223 [], .st [.lf (.int .i64 0), .lf (.string ⟨#[]⟩), .sl true sh88 []], .st [.lf (.int .i64 0), .lf (.string ⟨#[]⟩), .lf (.string ⟨#[]⟩), .lf (.int .i64 0), .st [.lf (.int .i64 0), .lf (.string ⟨#[]⟩), .sl true sh88 []], .sl true sh88 [], .sl true sh240 [], .sl true sh136 [], .sl true sh242 []]]))))]) l.length rfl (by simp) fun k0 hk0 T hT => ?_
  simp at hT; subst hT
  have hr := shs_rowL (TUnit.sh_dd true) (z := .st [.lf (.int .i64 0), .lf (.int .i64 0), .lf (.int .i64 0), .lf (.int .i64 0), .sl true .one [], .sl true sh110 [], .sl true sh223 [], .st [.lf (.int .i64 0), .lf (.string ⟨#[]⟩), .sl true sh88 []], .st [.lf (.int .i64 0), .lf (.string ⟨#[]⟩), .lf (.string ⟨#[]⟩), .lf (.int .i64 0), .st [.lf (.int .i64 0), .lf (.string ⟨#[]⟩), .sl true sh88 []], .sl true sh88 [], .sl true sh240 [], .sl true sh136 [], .sl true sh242 []]]) rfl hk0
  refine W.seq ?_
  apply W.regS; intro _ K hK
  refine WL.op [] rfl (by simp [hr, rowL_at] <;> omega) rfl ?_; simp [hr, rowL_at]
  exact WL.nil hK
  refine W.seq ?_
  refine W.condS _ rfl trivial (fun hb0 => ?_) fun hb0 => ?_ <;> simp at hb0
  · have hx := ixNext hb0 (by omega)
    have h5 := szL_le TUnit.sz (List.getElem_mem hb0); have h6 := l[k0].sz_eq; unfold szs at h6
    refine W.skip ?_
    refine W.seq ?_
    refine W.block ?_
    refine W.seq ?_
    apply W.regS; intro _ K hK
    iterate 2 (refine WL.op [] rfl (by simp [hr, rowL_at, hb0, hx] <;> omega) rfl ?_; simp [hr, rowL_at, hb0, hx])
    refine WL.op [15] rfl (by simp [hr, rowL_at, hb0, hx] <;> omega) rfl ?_; simp [hr, rowL_at, hb0, hx]
    iterate 3 (refine WL.op [] rfl (by simp [hr, rowL_at, hb0, hx] <;> omega) rfl ?_; simp [hr, rowL_at, hb0, hx])
    exact WL.nil hK
    refine W.seq ?_
    apply W.regS; intro _ K hK
    iterate 2 (refine WL.op [] rfl (by simp [hr, rowL_at, hb0, hx] <;> omega) rfl ?_; simp [hr, rowL_at, hb0, hx])
    refine WL.call [] _ _ _ rfl rfl (by simp) (g := 98) (caps := []) (by simp) (by simp) (fn := Tryz.f98) ⟨Tryz.func98, rfl, rfl⟩ rfl (by simp [hr, rowL_at, hb0, hx]) (by simp) (by simp [hr, rowL_at, hb0, hx]) (copyNames_d l[k0].fVars (by omega) _) rfl ?_; simp [hr, rowL_at, hb0, hx]
    iterate 2 (refine WL.op [] rfl (by simp [hr, rowL_at, hb0, hx] <;> omega) rfl ?_; simp [hr, rowL_at, hb0, hx])
    exact WL.nil hK
    refine W.seq ?_
    apply W.regS; intro _ K hK
    iterate 2 (refine WL.op [] rfl (by simp [hr, rowL_at, hb0, hx] <;> omega) rfl ?_; simp [hr, rowL_at, hb0, hx])
    refine WL.call [] _ _ _ rfl rfl (by simp) (g := 134) (caps := []) (by simp) (by simp) (fn := Tryz.f134) ⟨Tryz.func134, rfl, rfl⟩ rfl (by simp [hr, rowL_at, hb0, hx]) (by simp) (by simp [hr, rowL_at, hb0, hx]) (copyBounds_d l[k0].fWhere (by unfold szs; omega) _) rfl ?_; simp [hr, rowL_at, hb0, hx]
    iterate 2 (refine WL.op [] rfl (by simp [hr, rowL_at, hb0, hx] <;> omega) rfl ?_; simp [hr, rowL_at, hb0, hx])
    exact WL.nil hK
    refine W.seq ?_
    apply W.regSD rfl; intro K hK
    iterate 2 (refine DL.op [] rfl (by simp [hr, rowL_at, hb0, hx] <;> omega) rfl ?_; simp [hr, rowL_at, hb0, hx])
    refine DL.call [] _ _ _ rfl rfl (by simp) (g := 136) (caps := []) (by simp) (by simp) (fn := Tryz.f136) ⟨Tryz.func136, rfl, rfl⟩ rfl (by simp [hr, rowL_at, hb0, hx]) (by simp) (by simp [hr, rowL_at, hb0, hx]) (paramNames_d l[k0].fParams (by omega)) rfl ?_; simp [hr, rowL_at, hb0, hx]
    iterate 2 (refine DL.op [] rfl (by simp [hr, rowL_at, hb0, hx] <;> omega) rfl ?_; simp [hr, rowL_at, hb0, hx])
    refine DL.call [] _ _ _ rfl rfl (by simp) (g := 137) (caps := []) (by simp) (by simp) (fn := Tryz.f137) ⟨Tryz.func137, rfl, rfl⟩ rfl (by simp [hr, rowL_at, hb0, hx]) (by simp) (by simp [hr, rowL_at, hb0, hx]) (paramTypes_d l[k0].fParams (by omega)) rfl ?_; simp [hr, rowL_at, hb0, hx]
    refine DL.call [] _ _ _ rfl rfl (by simp) (g := 135) (caps := []) (by simp) (by simp) (fn := Tryz.f135) ⟨Tryz.func135, rfl, rfl⟩ rfl (by simp [hr, rowL_at, hb0, hx]) (by simp) (by simp [hr, rowL_at, hb0, hx]) (paramsOf_d l[k0].fParams (by unfold szs; omega)) rfl ?_; simp [hr, rowL_at, hb0, hx]
    iterate 2 (refine DL.op [] rfl (by simp [hr, rowL_at, hb0, hx] <;> omega) rfl ?_; simp [hr, rowL_at, hb0, hx])
    exact DL.nil rfl hK
    refine W.seq ?_
    apply W.regS; intro _ K hK
    iterate 2 (refine WL.op [] rfl (by simp [hr, rowL_at, hb0, hx] <;> omega) rfl ?_; simp [hr, rowL_at, hb0, hx])
    refine WL.call [] _ _ _ rfl rfl (by simp) (g := 40) (caps := []) (by simp) (by simp) (fn := Tryz.f40) ⟨Tryz.func40, rfl, rfl⟩ rfl (by simp [hr, rowL_at, hb0, hx]) (by simp) (by simp [hr, rowL_at, hb0, hx]) (copyType_d l[k0].fResult (by omega) _) rfl ?_; simp [hr, rowL_at, hb0, hx]
    iterate 2 (refine WL.op [] rfl (by simp [hr, rowL_at, hb0, hx] <;> omega) rfl ?_; simp [hr, rowL_at, hb0, hx])
    exact WL.nil hK
    refine W.seq ?_
    apply W.regS; intro _ K hK
    iterate 2 (refine WL.op [] rfl (by simp [hr, rowL_at, hb0, hx] <;> omega) rfl ?_; simp [hr, rowL_at, hb0, hx])
    refine WL.call [] _ _ _ rfl rfl (by simp) (g := 138) (caps := []) (by simp) (by simp) (fn := Tryz.f138) ⟨Tryz.func138, rfl, rfl⟩ rfl (by simp [hr, rowL_at, hb0, hx]) (by simp) (by simp [hr, rowL_at, hb0, hx]) (mapCore_d l[k0].fBody (by omega) _) rfl ?_; simp [hr, rowL_at, hb0, hx]
    iterate 2 (refine WL.op [] rfl (by simp [hr, rowL_at, hb0, hx] <;> omega) rfl ?_; simp [hr, rowL_at, hb0, hx])
    exact WL.nil hK
    apply W.regS; intro _ K hK
    iterate 2 (refine WL.op [] rfl (by simp [hr, rowL_at, hb0, hx] <;> omega) rfl ?_; simp [hr, rowL_at, hb0, hx])
    refine WL.op [42] rfl (by simp [hr, rowL_at, hb0, hx] <;> omega) rfl ?_; simp [hr, rowL_at, hb0, hx]
    iterate 2 (refine WL.op [] rfl (by simp [hr, rowL_at, hb0, hx] <;> omega) rfl ?_; simp [hr, rowL_at, hb0, hx])
    exact WL.nil hK
    apply W.regS; intro _ K hK
    iterate 2 (refine WL.op [] rfl (by simp [hr, rowL_at, hb0, hx] <;> omega) rfl ?_; simp [hr, rowL_at, hb0, hx])
    exact WL.nil hK
    refine ⟨hb0, Wz.to rfl rfl rfl ?_⟩
    have hs := rowL_set (f := TUnit.dd true) (z := .st [.lf (.int .i64 0), .lf (.int .i64 0), .lf (.int .i64 0), .lf (.int .i64 0), .sl true .one [], .sl true sh110 [], .sl true sh223 [], .st [.lf (.int .i64 0), .lf (.string ⟨#[]⟩), .sl true sh88 []], .st [.lf (.int .i64 0), .lf (.string ⟨#[]⟩), .lf (.string ⟨#[]⟩), .lf (.int .i64 0), .st [.lf (.int .i64 0), .lf (.string ⟨#[]⟩), .sl true sh88 []], .sl true sh88 [], .sl true sh240 [], .sl true sh136 [], .sl true sh242 []]]) hb0
    simp at hs
    simp [hs]
  · have hkl : k0 = l.length := by omega
    subst hkl
    refine W.frz 3 8 l.length (l.map (TUnit.dd true)) sh138 [] [] rfl (by simp) (by simp) (by simp [rowL_full]) (by simp) (by simp) (by simp) (by simp) rfl ?_
    refine W.exit ?_
    refine W.seq ?_
    apply W.regS; intro _ K hK
    refine WL.op [45] rfl (by simp [hr, rowL_at] <;> omega) rfl ?_; simp [hr, rowL_at]
    refine WL.op [] rfl (by simp [hr, rowL_at] <;> omega) rfl ?_; simp [hr, rowL_at]
    exact WL.nil hK
    refine W.ret ⟨.inr rfl, ⟨_, rfl⟩, ?_⟩
    simp [Tryz.f72]
end Go.Proofs.YtkmiecgcibjkbaaGreat
