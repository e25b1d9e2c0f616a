/- Walks by the Den rules. No condition. -/
import Derived.Test.YtkmiecgcibjkbaaGreatDenA
namespace Go.Proofs.YtkmiecgcibjkbaaGreat
open Go.RowKit
set_option maxRecDepth 10000
set_option linter.unusedSimpArgs false
theorem copyNames_d (l : List ByteArray) (hm : l.length ≤ 1048576) (h : HP) : CS cx.P 98 [.d (.sl false .one (l.map dS))] h (.d (.sl true .one (l.map dS))) h := by
  refine CS.run (fn := Tryz.f98) ⟨Tryz.func98, rfl, rfl⟩ _ _ _ _ 5 rfl (by simp) ?_
  refine W.seq ?_
  apply W.regS; intro _ K hK
  refine WL.op [] rfl (by simp <;> omega) rfl ?_; simp
  exact WL.nil hK
  refine W.seq ?_
  apply W.regS; intro _ K hK
  refine WL.op [3] rfl (by simp <;> omega) rfl ?_; simp
  iterate 2 (refine WL.op [] rfl (by simp <;> omega) rfl ?_; simp)
  exact WL.nil hK
  refine W.ret ⟨.inr rfl, ⟨_, rfl⟩, ?_⟩
  simp [Tryz.f98]
theorem copyBounds_d (l : List TBound) (hz : szs TBound.sz l ≤ 1048576) (h : HP) : CS cx.P 134 [.d (.sl false sh110 (l.map (TBound.dd false)))] h (.d (.sl true sh110 (l.map (TBound.dd true)))) h := by
  have hm : l.length ≤ 1048576 := by unfold szs at hz; omega
  refine CS.run (fn := Tryz.f134) ⟨Tryz.func134, rfl, rfl⟩ _ _ _ _ 27 rfl (by simp) ?_
  refine W.seq ?_
  apply W.regS; intro _ K hK
  refine WL.op [] rfl (by simp <;> omega) rfl ?_; simp
  exact WL.nil hK
  refine W.seq ?_
  apply W.regS; intro _ K hK
  iterate 4 (refine WL.op [] rfl (by simp <;> omega) rfl ?_; simp)
  exact WL.nil hK
  refine W.seq ?_
  refine W.seq ?_
  apply W.regS; intro _ K hK
  iterate 3 (refine WL.op [] rfl (by simp <;> omega) rfl ?_; simp)
  exact WL.nil hK
  refine W.block ?_
  refine W.loopk [3, 9, 10] [] (fun k0 => [(11, .d (.lf (.int .i64 (k0 : Int))))]) (fun k0 => [(8, .d (.st (rowL (TBound.dd true) l k0 (.st [.lf (.string ⟨#[]⟩), .st [.lf (.int .i64 0), .lf (.string ⟨#[]⟩), .sl true sh88 []]]))))]) l.length rfl (by simp) fun k0 hk0 T hT => ?_
  simp at hT; subst hT
  have hr := shs_rowL (TBound.sh_dd true) (z := .st [.lf (.string ⟨#[]⟩), .st [.lf (.int .i64 0), .lf (.string ⟨#[]⟩), .sl true sh88 []]]) rfl hk0
  refine W.seq ?_
  apply W.regS; intro _ K hK
  refine WL.op [] rfl (by simp [hr, rowL_at] <;> omega) rfl ?_; simp [hr, rowL_at]
  exact WL.nil hK
  refine W.seq ?_
  refine W.condS _ rfl trivial (fun hb0 => ?_) fun hb0 => ?_ <;> simp at hb0
  · have hx := ixNext hb0 (by omega)
    refine W.skip ?_
    refine W.seq ?_
    refine W.block ?_
    refine W.seq ?_
    apply W.regS; intro _ K hK
    iterate 2 (refine WL.op [] rfl (by simp [hr, rowL_at, hb0, hx] <;> omega) rfl ?_; simp [hr, rowL_at, hb0, hx])
    refine WL.op [15] rfl (by simp [hr, rowL_at, hb0, hx] <;> omega) rfl ?_; simp [hr, rowL_at, hb0, hx]
    iterate 3 (refine WL.op [] rfl (by simp [hr, rowL_at, hb0, hx] <;> omega) rfl ?_; simp [hr, rowL_at, hb0, hx])
    exact WL.nil hK
    apply W.regSD rfl; intro K hK
    iterate 6 (refine DL.op [] rfl (by simp [hr, rowL_at, hb0, hx] <;> omega) rfl ?_; simp [hr, rowL_at, hb0, hx])
    refine DL.call [] _ _ _ rfl rfl (by simp) (g := 40) (caps := []) (by simp) (by simp) (fn := Tryz.f40) ⟨Tryz.func40, rfl, rfl⟩ rfl (by simp [hr, rowL_at, hb0, hx]) (by simp) (by simp [hr, rowL_at, hb0, hx]) (copyType_d l[k0].fType (by have := szL_le TBound.sz (List.getElem_mem hb0); have := l[k0].sz_eq; unfold szs at hz; omega)) rfl ?_; simp [hr, rowL_at, hb0, hx]
    iterate 3 (refine DL.op [] rfl (by simp [hr, rowL_at, hb0, hx] <;> omega) rfl ?_; simp [hr, rowL_at, hb0, hx])
    exact DL.nil rfl hK
    apply W.regS; intro _ K hK
    iterate 2 (refine WL.op [] rfl (by simp [hr, rowL_at, hb0, hx] <;> omega) rfl ?_; simp [hr, rowL_at, hb0, hx])
    exact WL.nil hK
    refine ⟨hb0, Wz.to rfl rfl rfl ?_⟩
    have hs := rowL_set (f := TBound.dd true) (z := .st [.lf (.string ⟨#[]⟩), .st [.lf (.int .i64 0), .lf (.string ⟨#[]⟩), .sl true sh88 []]]) hb0
    simp at hs
    simp [hs]
  · have hkl : k0 = l.length := by omega
    subst hkl
    refine W.frz 3 8 l.length (l.map (TBound.dd true)) sh110 [] [] rfl (by simp) (by simp) (by simp [rowL_full]) (by simp) (by simp) (by simp) (by simp) rfl ?_
    refine W.exit ?_
    refine W.seq ?_
    apply W.regS; intro _ K hK
    refine WL.op [26] rfl (by simp [hr, rowL_at] <;> omega) rfl ?_; simp [hr, rowL_at]
    refine WL.op [] rfl (by simp [hr, rowL_at] <;> omega) rfl ?_; simp [hr, rowL_at]
    exact WL.nil hK
    refine W.ret ⟨.inr rfl, ⟨_, rfl⟩, ?_⟩
    simp [Tryz.f134]
theorem l13Bounds_d (l : List TBound) (hz : szs TBound.sz l ≤ 1048576) (h : HP) : CS cx.P 132 [.d (.sl false sh110 (l.map (TBound.dd false)))] h (.d (.sl true sh110 (l.map (TBound.dd true)))) h := by
  have hm : l.length ≤ 1048576 := by unfold szs at hz; omega
  refine CS.run (fn := Tryz.f132) ⟨Tryz.func132, rfl, rfl⟩ _ _ _ _ 28 rfl (by simp) ?_
  refine W.seq ?_
  apply W.regS; intro _ K hK
  refine WL.op [] rfl (by simp <;> omega) rfl ?_; simp
  exact WL.nil hK
  refine W.seq ?_
  apply W.regS; intro _ K hK
  iterate 2 (refine WL.op [] rfl (by simp <;> omega) rfl ?_; simp)
  exact WL.nil hK
  refine W.seq ?_
  refine W.seq ?_
  apply W.regS; intro _ K hK
  refine WL.op [] rfl (by simp <;> omega) rfl ?_; simp
  exact WL.nil hK
  refine W.block ?_
  refine W.loopk [0] [] (fun k0 => [(4, .d (.lf (.int .i64 (k0 : Int)))), (3, .d (.sl true sh110 (tk (TBound.dd true) l k0)))]) (fun _ => []) l.length rfl (by simp) fun k0 hk0 T hT => ?_
  simp at hT; subst hT
  have hl := tk_len (f := TBound.dd true) hk0
  refine W.seq ?_
  refine W.seq ?_
  apply W.regS; intro _ K hK
  iterate 4 (refine WL.op [] rfl (by simp [hl] <;> omega) rfl ?_; simp [hl])
  exact WL.nil hK
  refine W.condS _ rfl trivial (fun hb0 => ?_) fun hb0 => ?_ <;> simp at hb0
  · have hx := ixNext hb0 (by omega)
    refine W.skip ?_
    refine W.seq ?_
    refine W.block ?_
    apply W.regSD rfl; intro K hK
    refine DL.op [12] rfl (by simp [hl, hb0, hx] <;> omega) rfl ?_; simp [hl, hb0, hx]
    iterate 10 (refine DL.op [] rfl (by simp [hl, hb0, hx] <;> omega) rfl ?_; simp [hl, hb0, hx])
    refine DL.call [] _ _ _ rfl rfl (by simp) (g := 92) (caps := []) (by simp) (by simp) (fn := Tryz.f92) ⟨Tryz.func92, rfl, rfl⟩ rfl (by simp [hl, hb0, hx]) (by simp) (by simp [hl, hb0, hx]) (l4Copy_d l[k0].fType (by have := szL_le TBound.sz (List.getElem_mem hb0); have := l[k0].sz_eq; unfold szs at hz; omega)) rfl ?_; simp [hl, hb0, hx]
    iterate 4 (refine DL.op [] rfl (by simp [hl, hb0, hx] <;> omega) rfl ?_; simp [hl, hb0, hx])
    exact DL.nil rfl hK
    apply W.regS; intro _ K hK
    iterate 3 (refine WL.op [] rfl (by simp [hl, hb0, hx] <;> omega) rfl ?_; simp [hl, hb0, hx])
    exact WL.nil hK
    refine ⟨hb0, Wz.to rfl rfl rfl ?_⟩
    have hs := tk_snoc (f := TBound.dd true) hb0
    simp at hs
    simp [hs]
  · have hkl : k0 = l.length := by omega
    subst hkl
    simp only [tk_full]
    refine W.exit ?_
    refine W.seq ?_
    apply W.regS; intro _ K hK
    refine WL.op [27] rfl (by simp [hl] <;> omega) rfl ?_; simp [hl]
    refine WL.op [] rfl (by simp [hl] <;> omega) rfl ?_; simp [hl]
    exact WL.nil hK
    refine W.ret ⟨.inr rfl, ⟨_, rfl⟩, ?_⟩
    simp [Tryz.f132]
end Go.Proofs.YtkmiecgcibjkbaaGreat
