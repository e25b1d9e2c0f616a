/- Walks by the Den rules. No condition. -/
import Derived.Test.YtkmiecgcibjkbaaGreatDTy
namespace Go.Proofs.YtkmiecgcibjkbaaGreat
open Go.RowKit
set_option maxRecDepth 10000
set_option linter.unusedSimpArgs false
theorem copyType_a (x : TType) (hc : ∀ h, CS cx.P 101 [.d (.sl false sh88 (x.fArgs.map (TType.dd false)))] h (.d (.sl true sh88 (x.fArgs.map (TType.dd true)))) h) (h : HP) : CS cx.P 40 [.d (x.dd false)] h (.d (x.dd true)) h := by
  refine CS.run (fn := Tryz.f40) ⟨Tryz.func40, rfl, rfl⟩ _ _ _ _ 8 rfl (by simp) ?_
  refine W.seq ?_
  apply W.regS; intro _ K hK
  iterate 2 (refine WL.op [] rfl (by simp <;> omega) rfl ?_; simp)
  exact WL.nil hK
  refine W.seq ?_
  apply W.regS; intro _ K hK
  iterate 2 (refine WL.op [] rfl (by simp <;> omega) rfl ?_; simp)
  refine WL.call [] _ _ _ rfl rfl (by simp) (g := 101) (caps := []) (by simp) (by simp) (fn := Tryz.f101) ⟨Tryz.func101, rfl, rfl⟩ rfl (by simp) (by simp) (by simp) (hc _) rfl ?_; simp
  iterate 2 (refine WL.op [] rfl (by simp <;> omega) rfl ?_; simp)
  exact WL.nil hK
  refine W.seq ?_
  apply W.regS; intro _ K hK
  refine WL.op [7] rfl (by simp <;> omega) rfl ?_; simp
  refine WL.op [] rfl (by simp <;> omega) rfl ?_; simp
  exact WL.nil hK
  refine W.ret ⟨.inr rfl, ⟨_, rfl⟩, ?_⟩
  simp [Tryz.f40]
theorem copyTypes_a (l : List TType) (hm : l.length ≤ 1048576) (hc : ∀ x ∈ l, ∀ h, CS cx.P 40 [.d (x.dd false)] h (.d (x.dd true)) h) (h : HP) : CS cx.P 101 [.d (.sl false sh88 (l.map (TType.dd false)))] h (.d (.sl true sh88 (l.map (TType.dd true)))) h := by
  refine CS.run (fn := Tryz.f101) ⟨Tryz.func101, rfl, rfl⟩ _ _ _ _ 23 rfl (by simp) ?_
  refine W.seq ?_
  apply W.regS; intro _ K hK
  refine WL.op [] rfl (by simp <;> omega) rfl ?_; simp
  exact WL.nil hK
  refine W.seq ?_
  apply W.regS; intro _ K hK
  iterate 4 (refine WL.op [] rfl (by simp <;> omega) rfl ?_; simp)
  exact WL.nil hK
  refine W.seq ?_
  refine W.seq ?_
  apply W.regS; intro _ K hK
  iterate 3 (refine WL.op [] rfl (by simp <;> omega) rfl ?_; simp)
  exact WL.nil hK
  refine W.block ?_
  refine W.loopk [3, 9, 10] [] (fun k0 => [(11, .d (.lf (.int .i64 (k0 : Int))))]) (fun k0 => [(8, .d (.st (rowL (TType.dd true) l k0 (.st [.lf (.int .i64 0), .lf (.string ⟨#[]⟩), .sl true sh88 []]))))]) l.length rfl (by simp) fun k0 hk0 T hT => ?_
  simp at hT; subst hT
  have hr := shs_rowL (TType.sh_dd true) (z := .st [.lf (.int .i64 0), .lf (.string ⟨#[]⟩), .sl true sh88 []]) rfl hk0
  refine W.seq ?_
  apply W.regS; intro _ K hK
  refine WL.op [] rfl (by simp [hr, rowL_at] <;> omega) rfl ?_; simp [hr, rowL_at]
  exact WL.nil hK
  refine W.seq ?_
  refine W.condS _ rfl trivial (fun hb0 => ?_) fun hb0 => ?_ <;> simp at hb0
  · have hx := ixNext hb0 (by omega)
    refine W.skip ?_
    refine W.seq ?_
    refine W.block ?_
    refine W.seq ?_
    apply W.regS; intro _ K hK
    iterate 2 (refine WL.op [] rfl (by simp [hr, rowL_at, hb0, hx] <;> omega) rfl ?_; simp [hr, rowL_at, hb0, hx])
    refine WL.op [15] rfl (by simp [hr, rowL_at, hb0, hx] <;> omega) rfl ?_; simp [hr, rowL_at, hb0, hx]
    iterate 3 (refine WL.op [] rfl (by simp [hr, rowL_at, hb0, hx] <;> omega) rfl ?_; simp [hr, rowL_at, hb0, hx])
    exact WL.nil hK
    apply W.regS; intro _ K hK
    iterate 3 (refine WL.op [] rfl (by simp [hr, rowL_at, hb0, hx] <;> omega) rfl ?_; simp [hr, rowL_at, hb0, hx])
    refine WL.call [] _ _ _ rfl rfl (by simp) (g := 40) (caps := []) (by simp) (by simp) (fn := Tryz.f40) ⟨Tryz.func40, rfl, rfl⟩ rfl (by simp [hr, rowL_at, hb0, hx]) (by simp) (by simp [hr, rowL_at, hb0, hx]) (hc l[k0] (List.getElem_mem hb0) _) rfl ?_; simp [hr, rowL_at, hb0, hx]
    iterate 2 (refine WL.op [] rfl (by simp [hr, rowL_at, hb0, hx] <;> omega) rfl ?_; simp [hr, rowL_at, hb0, hx])
    exact WL.nil hK
    apply W.regS; intro _ K hK
    iterate 2 (refine WL.op [] rfl (by simp [hr, rowL_at, hb0, hx] <;> omega) rfl ?_; simp [hr, rowL_at, hb0, hx])
    exact WL.nil hK
    refine ⟨hb0, Wz.to rfl rfl rfl ?_⟩
    have hs := rowL_set (f := TType.dd true) (z := .st [.lf (.int .i64 0), .lf (.string ⟨#[]⟩), .sl true sh88 []]) hb0
    simp at hs
    simp [hs]
  · have hkl : k0 = l.length := by omega
    subst hkl
    refine W.frz 3 8 l.length (l.map (TType.dd true)) sh88 [] [] rfl (by simp) (by simp) (by simp [rowL_full]) (by simp) (by simp) (by simp) (by simp) rfl ?_
    refine W.exit ?_
    refine W.seq ?_
    apply W.regS; intro _ K hK
    refine WL.op [22] rfl (by simp [hr, rowL_at] <;> omega) rfl ?_; simp [hr, rowL_at]
    refine WL.op [] rfl (by simp [hr, rowL_at] <;> omega) rfl ?_; simp [hr, rowL_at]
    exact WL.nil hK
    refine W.ret ⟨.inr rfl, ⟨_, rfl⟩, ?_⟩
    simp [Tryz.f101]
theorem l4Copy_a (x : TType) (hc : ∀ h, CS cx.P 90 [.d (.sl false sh88 (x.fArgs.map (TType.dd false)))] h (.d (.sl true sh88 (x.fArgs.map (TType.dd true)))) h) (h : HP) : CS cx.P 92 [.d (x.dd false)] h (.d (x.dd true)) h := by
  refine CS.run (fn := Tryz.f92) ⟨Tryz.func92, rfl, rfl⟩ _ _ _ _ 11 rfl (by simp) ?_
  refine W.seq ?_
  apply W.regS; intro _ K hK
  iterate 2 (refine WL.op [] rfl (by simp <;> omega) rfl ?_; simp)
  exact WL.nil hK
  refine W.seq ?_
  apply W.regSD rfl; intro K hK
  iterate 6 (refine DL.op [] rfl (by simp <;> omega) rfl ?_; simp)
  refine DL.call [] _ _ _ rfl rfl (by simp) (g := 90) (caps := []) (by simp) (by simp) (fn := Tryz.f90) ⟨Tryz.func90, rfl, rfl⟩ rfl (by simp) (by simp) (by simp) (hc) rfl ?_; simp
  iterate 2 (refine DL.op [] rfl (by simp <;> omega) rfl ?_; simp)
  exact DL.nil rfl hK
  refine W.ret ⟨.inr rfl, ⟨_, rfl⟩, ?_⟩
  simp [Tryz.f92]
theorem l4Copies_a (l : List TType) (hm : l.length ≤ 1048576) (hc : ∀ x ∈ l, ∀ h, CS cx.P 92 [.d (x.dd false)] h (.d (x.dd true)) h) (h : HP) : CS cx.P 90 [.d (.sl false sh88 (l.map (TType.dd false)))] h (.d (.sl true sh88 (l.map (TType.dd true)))) h := by
  refine CS.run (fn := Tryz.f90) ⟨Tryz.func90, rfl, rfl⟩ _ _ _ _ 21 rfl (by simp) ?_
  refine W.seq ?_
  apply W.regS; intro _ K hK
  refine WL.op [] rfl (by simp <;> omega) rfl ?_; simp
  exact WL.nil hK
  refine W.seq ?_
  apply W.regS; intro _ K hK
  iterate 2 (refine WL.op [] rfl (by simp <;> omega) rfl ?_; simp)
  exact WL.nil hK
  refine W.seq ?_
  refine W.seq ?_
  apply W.regS; intro _ K hK
  refine WL.op [] rfl (by simp <;> omega) rfl ?_; simp
  exact WL.nil hK
  refine W.block ?_
  refine W.loopk [0] [] (fun k0 => [(4, .d (.lf (.int .i64 (k0 : Int)))), (3, .d (.sl true sh88 (tk (TType.dd true) l k0)))]) (fun _ => []) l.length rfl (by simp) fun k0 hk0 T hT => ?_
  simp at hT; subst hT
  have hl := tk_len (f := TType.dd true) hk0
  refine W.seq ?_
  refine W.seq ?_
  apply W.regS; intro _ K hK
  iterate 4 (refine WL.op [] rfl (by simp [hl] <;> omega) rfl ?_; simp [hl])
  exact WL.nil hK
  refine W.condS _ rfl trivial (fun hb0 => ?_) fun hb0 => ?_ <;> simp at hb0
  · have hx := ixNext hb0 (by omega)
    refine W.skip ?_
    refine W.seq ?_
    refine W.block ?_
    apply W.regS; intro _ K hK
    refine WL.op [12] rfl (by simp [hl, hb0, hx] <;> omega) rfl ?_; simp [hl, hb0, hx]
    iterate 4 (refine WL.op [] rfl (by simp [hl, hb0, hx] <;> omega) rfl ?_; simp [hl, hb0, hx])
    refine WL.call [] _ _ _ rfl rfl (by simp) (g := 92) (caps := []) (by simp) (by simp) (fn := Tryz.f92) ⟨Tryz.func92, rfl, rfl⟩ rfl (by simp [hl, hb0, hx]) (by simp) (by simp [hl, hb0, hx]) (hc l[k0] (List.getElem_mem hb0) _) rfl ?_; simp [hl, hb0, hx]
    iterate 3 (refine WL.op [] rfl (by simp [hl, hb0, hx] <;> omega) rfl ?_; simp [hl, hb0, hx])
    exact WL.nil hK
    apply W.regS; intro _ K hK
    iterate 3 (refine WL.op [] rfl (by simp [hl, hb0, hx] <;> omega) rfl ?_; simp [hl, hb0, hx])
    exact WL.nil hK
    refine ⟨hb0, Wz.to rfl rfl rfl ?_⟩
    have hs := tk_snoc (f := TType.dd true) hb0
    simp at hs
    simp [hs]
  · have hkl : k0 = l.length := by omega
    subst hkl
    simp only [tk_full]
    refine W.exit ?_
    refine W.seq ?_
    apply W.regS; intro _ K hK
    refine WL.op [20] rfl (by simp [hl] <;> omega) rfl ?_; simp [hl]
    refine WL.op [] rfl (by simp [hl] <;> omega) rfl ?_; simp [hl]
    exact WL.nil hK
    refine W.ret ⟨.inr rfl, ⟨_, rfl⟩, ?_⟩
    simp [Tryz.f90]
theorem copyEvidence_a (x : TEvidence) (hc : ∀ h, CS cx.P 194 [.d (.sl false sh240 (x.fArgs.map (TEvidence.dd false)))] h (.d (.sl true sh240 (x.fArgs.map (TEvidence.dd true)))) h) (h : HP) : CS cx.P 139 [.d (x.dd false)] h (.d (x.dd true)) h := by
  refine CS.run (fn := Tryz.f139) ⟨Tryz.func139, rfl, rfl⟩ _ _ _ _ 8 rfl (by simp) ?_
  refine W.seq ?_
  apply W.regS; intro _ K hK
  iterate 2 (refine WL.op [] rfl (by simp <;> omega) rfl ?_; simp)
  exact WL.nil hK
  refine W.seq ?_
  apply W.regS; intro _ K hK
  iterate 2 (refine WL.op [] rfl (by simp <;> omega) rfl ?_; simp)
  refine WL.call [] _ _ _ rfl rfl (by simp) (g := 194) (caps := []) (by simp) (by simp) (fn := Tryz.f194) ⟨Tryz.func194, rfl, rfl⟩ rfl (by simp) (by simp) (by simp) (hc _) rfl ?_; simp
  iterate 2 (refine WL.op [] rfl (by simp <;> omega) rfl ?_; simp)
  exact WL.nil hK
  refine W.seq ?_
  apply W.regS; intro _ K hK
  refine WL.op [7] rfl (by simp <;> omega) rfl ?_; simp
  refine WL.op [] rfl (by simp <;> omega) rfl ?_; simp
  exact WL.nil hK
  refine W.ret ⟨.inr rfl, ⟨_, rfl⟩, ?_⟩
  simp [Tryz.f139]
theorem copyEvidences_a (l : List TEvidence) (hm : l.length ≤ 1048576) (hc : ∀ x ∈ l, ∀ h, CS cx.P 139 [.d (x.dd false)] h (.d (x.dd true)) h) (h : HP) : CS cx.P 194 [.d (.sl false sh240 (l.map (TEvidence.dd false)))] h (.d (.sl true sh240 (l.map (TEvidence.dd true)))) h := by
  refine CS.run (fn := Tryz.f194) ⟨Tryz.func194, rfl, rfl⟩ _ _ _ _ 23 rfl (by simp) ?_
  refine W.seq ?_
  apply W.regS; intro _ K hK
  refine WL.op [] rfl (by simp <;> omega) rfl ?_; simp
  exact WL.nil hK
  refine W.seq ?_
  apply W.regS; intro _ K hK
  iterate 4 (refine WL.op [] rfl (by simp <;> omega) rfl ?_; simp)
  exact WL.nil hK
  refine W.seq ?_
  refine W.seq ?_
  apply W.regS; intro _ K hK
  iterate 3 (refine WL.op [] rfl (by simp <;> omega) rfl ?_; simp)
  exact WL.nil hK
  refine W.block ?_
  refine W.loopk [3, 9, 10] [] (fun k0 => [(11, .d (.lf (.int .i64 (k0 : Int))))]) (fun k0 => [(8, .d (.st (rowL (TEvidence.dd true) l k0 (.st [.lf (.int .i64 0), .lf (.int .i64 0), .st [.lf (.int .i64 0), .lf (.int .i64 0)], .sl true sh240 []]))))]) l.length rfl (by simp) fun k0 hk0 T hT => ?_
  simp at hT; subst hT
  have hr := shs_rowL (TEvidence.sh_dd true) (z := .st [.lf (.int .i64 0), .lf (.int .i64 0), .st [.lf (.int .i64 0), .lf (.int .i64 0)], .sl true sh240 []]) rfl hk0
  refine W.seq ?_
  apply W.regS; intro _ K hK
  refine WL.op [] rfl (by simp [hr, rowL_at] <;> omega) rfl ?_; simp [hr, rowL_at]
  exact WL.nil hK
  refine W.seq ?_
  refine W.condS _ rfl trivial (fun hb0 => ?_) fun hb0 => ?_ <;> simp at hb0
  · have hx := ixNext hb0 (by omega)
    refine W.skip ?_
    refine W.seq ?_
    refine W.block ?_
    refine W.seq ?_
    apply W.regS; intro _ K hK
    iterate 2 (refine WL.op [] rfl (by simp [hr, rowL_at, hb0, hx] <;> omega) rfl ?_; simp [hr, rowL_at, hb0, hx])
    refine WL.op [15] rfl (by simp [hr, rowL_at, hb0, hx] <;> omega) rfl ?_; simp [hr, rowL_at, hb0, hx]
    iterate 3 (refine WL.op [] rfl (by simp [hr, rowL_at, hb0, hx] <;> omega) rfl ?_; simp [hr, rowL_at, hb0, hx])
    exact WL.nil hK
    apply W.regS; intro _ K hK
    iterate 3 (refine WL.op [] rfl (by simp [hr, rowL_at, hb0, hx] <;> omega) rfl ?_; simp [hr, rowL_at, hb0, hx])
    refine WL.call [] _ _ _ rfl rfl (by simp) (g := 139) (caps := []) (by simp) (by simp) (fn := Tryz.f139) ⟨Tryz.func139, rfl, rfl⟩ rfl (by simp [hr, rowL_at, hb0, hx]) (by simp) (by simp [hr, rowL_at, hb0, hx]) (hc l[k0] (List.getElem_mem hb0) _) rfl ?_; simp [hr, rowL_at, hb0, hx]
    iterate 2 (refine WL.op [] rfl (by simp [hr, rowL_at, hb0, hx] <;> omega) rfl ?_; simp [hr, rowL_at, hb0, hx])
    exact WL.nil hK
    apply W.regS; intro _ K hK
    iterate 2 (refine WL.op [] rfl (by simp [hr, rowL_at, hb0, hx] <;> omega) rfl ?_; simp [hr, rowL_at, hb0, hx])
    exact WL.nil hK
    refine ⟨hb0, Wz.to rfl rfl rfl ?_⟩
    have hs := rowL_set (f := TEvidence.dd true) (z := .st [.lf (.int .i64 0), .lf (.int .i64 0), .st [.lf (.int .i64 0), .lf (.int .i64 0)], .sl true sh240 []]) hb0
    simp at hs
    simp [hs]
  · have hkl : k0 = l.length := by omega
    subst hkl
    refine W.frz 3 8 l.length (l.map (TEvidence.dd true)) sh240 [] [] rfl (by simp) (by simp) (by simp [rowL_full]) (by simp) (by simp) (by simp) (by simp) rfl ?_
    refine W.exit ?_
    refine W.seq ?_
    apply W.regS; intro _ K hK
    refine WL.op [22] rfl (by simp [hr, rowL_at] <;> omega) rfl ?_; simp [hr, rowL_at]
    refine WL.op [] rfl (by simp [hr, rowL_at] <;> omega) rfl ?_; simp [hr, rowL_at]
    exact WL.nil hK
    refine W.ret ⟨.inr rfl, ⟨_, rfl⟩, ?_⟩
    simp [Tryz.f194]
theorem l24Copy_a (x : TEvidence) (hc : ∀ h, CS cx.P 206 [.d (.sl false sh240 (x.fArgs.map (TEvidence.dd false)))] h (.d (.sl true sh240 (x.fArgs.map (TEvidence.dd true)))) h) (h : HP) : CS cx.P 240 [.d (x.dd false)] h (.d (x.dd true)) h := by
  refine CS.run (fn := Tryz.f240) ⟨Tryz.func240, rfl, rfl⟩ _ _ _ _ 8 rfl (by simp) ?_
  refine W.seq ?_
  apply W.regS; intro _ K hK
  iterate 2 (refine WL.op [] rfl (by simp <;> omega) rfl ?_; simp)
  exact WL.nil hK
  refine W.seq ?_
  apply W.regS; intro _ K hK
  iterate 2 (refine WL.op [] rfl (by simp <;> omega) rfl ?_; simp)
  refine WL.call [] _ _ _ rfl rfl (by simp) (g := 206) (caps := []) (by simp) (by simp) (fn := Tryz.f206) ⟨Tryz.func206, rfl, rfl⟩ rfl (by simp) (by simp) (by simp) (hc _) rfl ?_; simp
  iterate 2 (refine WL.op [] rfl (by simp <;> omega) rfl ?_; simp)
  exact WL.nil hK
  refine W.seq ?_
  apply W.regS; intro _ K hK
  refine WL.op [7] rfl (by simp <;> omega) rfl ?_; simp
  refine WL.op [] rfl (by simp <;> omega) rfl ?_; simp
  exact WL.nil hK
  refine W.ret ⟨.inr rfl, ⟨_, rfl⟩, ?_⟩
  simp [Tryz.f240]
theorem l24Copies_a (l : List TEvidence) (hm : l.length ≤ 1048576) (hc : ∀ x ∈ l, ∀ h, CS cx.P 240 [.d (x.dd false)] h (.d (x.dd true)) h) (h : HP) : CS cx.P 206 [.d (.sl false sh240 (l.map (TEvidence.dd false)))] h (.d (.sl true sh240 (l.map (TEvidence.dd true)))) h := by
  refine CS.run (fn := Tryz.f206) ⟨Tryz.func206, rfl, rfl⟩ _ _ _ _ 21 rfl (by simp) ?_
  refine W.seq ?_
  apply W.regS; intro _ K hK
  refine WL.op [] rfl (by simp <;> omega) rfl ?_; simp
  exact WL.nil hK
  refine W.seq ?_
  apply W.regS; intro _ K hK
  iterate 2 (refine WL.op [] rfl (by simp <;> omega) rfl ?_; simp)
  exact WL.nil hK
  refine W.seq ?_
  refine W.seq ?_
  apply W.regS; intro _ K hK
  refine WL.op [] rfl (by simp <;> omega) rfl ?_; simp
  exact WL.nil hK
  refine W.block ?_
  refine W.loopk [0] [] (fun k0 => [(4, .d (.lf (.int .i64 (k0 : Int)))), (3, .d (.sl true sh240 (tk (TEvidence.dd true) l k0)))]) (fun _ => []) l.length rfl (by simp) fun k0 hk0 T hT => ?_
  simp at hT; subst hT
  have hl := tk_len (f := TEvidence.dd true) hk0
  refine W.seq ?_
  refine W.seq ?_
  apply W.regS; intro _ K hK
  iterate 4 (refine WL.op [] rfl (by simp [hl] <;> omega) rfl ?_; simp [hl])
  exact WL.nil hK
  refine W.condS _ rfl trivial (fun hb0 => ?_) fun hb0 => ?_ <;> simp at hb0
  · have hx := ixNext hb0 (by omega)
    refine W.skip ?_
    refine W.seq ?_
    refine W.block ?_
    apply W.regS; intro _ K hK
    refine WL.op [12] rfl (by simp [hl, hb0, hx] <;> omega) rfl ?_; simp [hl, hb0, hx]
    iterate 4 (refine WL.op [] rfl (by simp [hl, hb0, hx] <;> omega) rfl ?_; simp [hl, hb0, hx])
    refine WL.call [] _ _ _ rfl rfl (by simp) (g := 240) (caps := []) (by simp) (by simp) (fn := Tryz.f240) ⟨Tryz.func240, rfl, rfl⟩ rfl (by simp [hl, hb0, hx]) (by simp) (by simp [hl, hb0, hx]) (hc l[k0] (List.getElem_mem hb0) _) rfl ?_; simp [hl, hb0, hx]
    iterate 3 (refine WL.op [] rfl (by simp [hl, hb0, hx] <;> omega) rfl ?_; simp [hl, hb0, hx])
    exact WL.nil hK
    apply W.regS; intro _ K hK
    iterate 3 (refine WL.op [] rfl (by simp [hl, hb0, hx] <;> omega) rfl ?_; simp [hl, hb0, hx])
    exact WL.nil hK
    refine ⟨hb0, Wz.to rfl rfl rfl ?_⟩
    have hs := tk_snoc (f := TEvidence.dd true) hb0
    simp at hs
    simp [hs]
  · have hkl : k0 = l.length := by omega
    subst hkl
    simp only [tk_full]
    refine W.exit ?_
    refine W.seq ?_
    apply W.regS; intro _ K hK
    refine WL.op [20] rfl (by simp [hl] <;> omega) rfl ?_; simp [hl]
    refine WL.op [] rfl (by simp [hl] <;> omega) rfl ?_; simp [hl]
    exact WL.nil hK
    refine W.ret ⟨.inr rfl, ⟨_, rfl⟩, ?_⟩
    simp [Tryz.f206]
theorem copyType_d (x : TType) (hz : x.sz ≤ 1048576) (h : HP) : CS cx.P 40 [.d (x.dd false)] h (.d (x.dd true)) h := by
  have hz2 := x.sz_eq; unfold szs at hz2
  exact copyType_a x (fun h => copyTypes_a x.fArgs (by omega) (fun y hy h => copyType_d y (by have := szL_le TType.sz hy; omega) h) h) h
termination_by SizeOf.sizeOf x
decreasing_by have := List.sizeOf_lt_of_mem hy; have := x.lt_fArgs; omega
theorem copyTypes_d (l : List TType) (hz : szs TType.sz l ≤ 1048576) (h : HP) : CS cx.P 101 [.d (.sl false sh88 (l.map (TType.dd false)))] h (.d (.sl true sh88 (l.map (TType.dd true)))) h := by
  unfold szs at hz
  exact copyTypes_a l (by omega) (fun y hy h => copyType_d y (by have := szL_le TType.sz hy; omega) h) h
theorem l4Copy_d (x : TType) (hz : x.sz ≤ 1048576) (h : HP) : CS cx.P 92 [.d (x.dd false)] h (.d (x.dd true)) h := by
  have hz2 := x.sz_eq; unfold szs at hz2
  exact l4Copy_a x (fun h => l4Copies_a x.fArgs (by omega) (fun y hy h => l4Copy_d y (by have := szL_le TType.sz hy; omega) h) h) h
termination_by SizeOf.sizeOf x
decreasing_by have := List.sizeOf_lt_of_mem hy; have := x.lt_fArgs; omega
theorem l4Copies_d (l : List TType) (hz : szs TType.sz l ≤ 1048576) (h : HP) : CS cx.P 90 [.d (.sl false sh88 (l.map (TType.dd false)))] h (.d (.sl true sh88 (l.map (TType.dd true)))) h := by
  unfold szs at hz
  exact l4Copies_a l (by omega) (fun y hy h => l4Copy_d y (by have := szL_le TType.sz hy; omega) h) h
theorem copyEvidence_d (x : TEvidence) (hz : x.sz ≤ 1048576) (h : HP) : CS cx.P 139 [.d (x.dd false)] h (.d (x.dd true)) h := by
  have hz2 := x.sz_eq; unfold szs at hz2
  exact copyEvidence_a x (fun h => copyEvidences_a x.fArgs (by omega) (fun y hy h => copyEvidence_d y (by have := szL_le TEvidence.sz hy; omega) h) h) h
termination_by SizeOf.sizeOf x
decreasing_by have := List.sizeOf_lt_of_mem hy; have := x.lt_fArgs; omega
theorem copyEvidences_d (l : List TEvidence) (hz : szs TEvidence.sz l ≤ 1048576) (h : HP) : CS cx.P 194 [.d (.sl false sh240 (l.map (TEvidence.dd false)))] h (.d (.sl true sh240 (l.map (TEvidence.dd true)))) h := by
  unfold szs at hz
  exact copyEvidences_a l (by omega) (fun y hy h => copyEvidence_d y (by have := szL_le TEvidence.sz hy; omega) h) h
theorem l24Copy_d (x : TEvidence) (hz : x.sz ≤ 1048576) (h : HP) : CS cx.P 240 [.d (x.dd false)] h (.d (x.dd true)) h := by
  have hz2 := x.sz_eq; unfold szs at hz2
  exact l24Copy_a x (fun h => l24Copies_a x.fArgs (by omega) (fun y hy h => l24Copy_d y (by have := szL_le TEvidence.sz hy; omega) h) h) h
termination_by SizeOf.sizeOf x
decreasing_by have := List.sizeOf_lt_of_mem hy; have := x.lt_fArgs; omega
theorem l24Copies_d (l : List TEvidence) (hz : szs TEvidence.sz l ≤ 1048576) (h : HP) : CS cx.P 206 [.d (.sl false sh240 (l.map (TEvidence.dd false)))] h (.d (.sl true sh240 (l.map (TEvidence.dd true)))) h := by
  unfold szs at hz
  exact l24Copies_a l (by omega) (fun y hy h => l24Copy_d y (by have := szL_le TEvidence.sz hy; omega) h) h
end Go.Proofs.YtkmiecgcibjkbaaGreat
