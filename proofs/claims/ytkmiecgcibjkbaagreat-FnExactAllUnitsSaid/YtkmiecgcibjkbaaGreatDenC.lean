/- Walks by the Den rules. No condition. -/
import Derived.Test.YtkmiecgcibjkbaaGreatDenB
namespace Go.Proofs.YtkmiecgcibjkbaaGreat
open Go.RowKit
set_option maxRecDepth 10000
set_option linter.unusedSimpArgs false
theorem Lookup0_d (n : ByteArray) (h : HP) : CS cx.P 239 [.d (.sl false sh207 []), .d (.lf (.string n))] h (.tp [.d (.st [.lf (.int .i64 0), .lf (.string ⟨#[]⟩), .sl true sh88 []]), .d (.lf (.bool false))]) h := by
  refine CS.run (fn := Tryz.f239) ⟨Tryz.func239, rfl, rfl⟩ _ _ _ _ 27 rfl (by simp) ?_
  refine W.seq ?_
  apply W.regS; intro _ K hK
  iterate 2 (refine WL.op [] rfl (by simp <;> omega) rfl ?_; simp)
  exact WL.nil hK
  refine W.seq ?_
  refine W.seq ?_
  apply W.regS; intro _ K hK
  refine WL.op [] rfl (by simp <;> omega) rfl ?_; simp
  exact WL.nil hK
  refine W.block ?_
  refine W.loopk [0, 1, 4] [4] (fun k0 => [(6, .d (.lf (.int .i64 (k0 : Int))))]) (fun _ => []) 0 rfl (by simp) fun k0 hk0 T hT => ?_
  simp at hT; subst hT
  refine W.seq ?_
  refine W.seq ?_
  apply W.regS; intro _ K hK
  iterate 4 (refine WL.op [] rfl (by simp <;> omega) rfl ?_; simp)
  exact WL.nil hK
  refine W.condS _ rfl trivial (fun hb0 => ?_) fun hb0 => ?_ <;> simp at hb0
  · omega
  · refine W.exit ?_
    refine W.seq ?_
    apply W.regS; intro _ K hK
    iterate 3 (refine WL.op [] rfl (by simp <;> omega) rfl ?_; simp)
    exact WL.nil hK
    refine W.ret ⟨.inr rfl, ⟨_, rfl⟩, ?_⟩
    simp [Tryz.f239]
theorem Apply0_a (x : TType) (hc : ∀ h, CS cx.P 205 [.d (.sl false sh207 []), .d (.sl false sh88 (x.fArgs.map (TType.dd false)))] h (.d (.sl true sh88 (x.fArgs.map (TType.dd true)))) h) (h : HP) : CS cx.P 204 [.d (.sl false sh207 []), .d (x.dd false)] h (.d (x.dd true)) h := by
  refine CS.run (fn := Tryz.f204) ⟨Tryz.func204, rfl, rfl⟩ _ _ _ _ 28 rfl (by simp) ?_
  refine W.seq ?_
  apply W.regS; intro _ K hK
  iterate 2 (refine WL.op [] rfl (by simp <;> omega) rfl ?_; simp)
  exact WL.nil hK
  refine W.seq ?_
  refine W.seq ?_
  apply W.regS; intro _ K hK
  iterate 3 (refine WL.op [] rfl (by simp <;> omega) rfl ?_; simp)
  exact WL.nil hK
  refine W.condS _ rfl trivial (fun hb0 => ?_) fun hb0 => ?_ <;> simp at hb0
  · refine W.seq ?_
    apply W.regS; intro _ K hK
    iterate 3 (refine WL.op [] rfl (by simp <;> omega) rfl ?_; simp)
    refine WL.call [] _ _ _ rfl rfl (by simp) (g := 239) (caps := []) (by simp) (by simp) (fn := Tryz.f239) ⟨Tryz.func239, rfl, rfl⟩ rfl (by simp) (by simp) (by simp) (Lookup0_d x.fName _) rfl ?_; simp
    iterate 6 (refine WL.op [] rfl (by simp <;> omega) rfl ?_; simp)
    exact WL.nil hK
    refine W.seq ?_
    apply W.regS; intro _ K hK
    refine WL.op [] rfl (by simp <;> omega) rfl ?_; simp
    exact WL.nil hK
    refine W.condS _ rfl trivial (fun hb1 => ?_) fun hb1 => ?_ <;> simp at hb1
    refine W.skip ?_
    refine W.seq ?_
    apply W.regSD rfl; intro K hK
    iterate 7 (refine DL.op [] rfl (by simp <;> omega) rfl ?_; simp)
    refine DL.call [] _ _ _ rfl rfl (by simp) (g := 205) (caps := []) (by simp) (by simp) (fn := Tryz.f205) ⟨Tryz.func205, rfl, rfl⟩ rfl (by simp) (by simp) (by simp) (hc) rfl ?_; simp
    iterate 2 (refine DL.op [] rfl (by simp <;> omega) rfl ?_; simp)
    exact DL.nil rfl hK
    refine W.ret ⟨.inr rfl, ⟨_, rfl⟩, ?_⟩
    simp [Tryz.f204]
  · refine W.skip ?_
    refine W.seq ?_
    apply W.regSD rfl; intro K hK
    iterate 7 (refine DL.op [] rfl (by simp <;> omega) rfl ?_; simp)
    refine DL.call [] _ _ _ rfl rfl (by simp) (g := 205) (caps := []) (by simp) (by simp) (fn := Tryz.f205) ⟨Tryz.func205, rfl, rfl⟩ rfl (by simp) (by simp) (by simp) (hc) rfl ?_; simp
    iterate 2 (refine DL.op [] rfl (by simp <;> omega) rfl ?_; simp)
    exact DL.nil rfl hK
    refine W.ret ⟨.inr rfl, ⟨_, rfl⟩, ?_⟩
    simp [Tryz.f204]
theorem ApplyAll0_a (l : List TType) (hm : l.length ≤ 1048576) (hc : ∀ x ∈ l, ∀ h, CS cx.P 204 [.d (.sl false sh207 []), .d (x.dd false)] h (.d (x.dd true)) h) (h : HP) : CS cx.P 205 [.d (.sl false sh207 []), .d (.sl false sh88 (l.map (TType.dd false)))] h (.d (.sl true sh88 (l.map (TType.dd true)))) h := by
  refine CS.run (fn := Tryz.f205) ⟨Tryz.func205, rfl, rfl⟩ _ _ _ _ 24 rfl (by simp) ?_
  refine W.seq ?_
  apply W.regS; intro _ K hK
  refine WL.op [] rfl (by simp <;> omega) rfl ?_; simp
  exact WL.nil hK
  refine W.seq ?_
  apply W.regS; intro _ K hK
  iterate 2 (refine WL.op [] rfl (by simp <;> omega) rfl ?_; simp)
  exact WL.nil hK
  refine W.seq ?_
  refine W.seq ?_
  apply W.regS; intro _ K hK
  refine WL.op [] rfl (by simp <;> omega) rfl ?_; simp
  exact WL.nil hK
  refine W.block ?_
  refine W.loopk [0, 1] [] (fun k0 => [(6, .d (.lf (.int .i64 (k0 : Int)))), (5, .d (.sl true sh88 (tk (TType.dd true) l k0)))]) (fun _ => []) l.length rfl (by simp) fun k0 hk0 T hT => ?_
  simp at hT; subst hT
  have hl := tk_len (f := TType.dd true) hk0
  refine W.seq ?_
  refine W.seq ?_
  apply W.regS; intro _ K hK
  iterate 4 (refine WL.op [] rfl (by simp [hl] <;> omega) rfl ?_; simp [hl])
  exact WL.nil hK
  refine W.condS _ rfl trivial (fun hb0 => ?_) fun hb0 => ?_ <;> simp at hb0
  · have hx := ixNext hb0 (by omega)
    refine W.skip ?_
    refine W.seq ?_
    refine W.block ?_
    apply W.regS; intro _ K hK
    refine WL.op [14] rfl (by simp [hl, hb0, hx] <;> omega) rfl ?_; simp [hl, hb0, hx]
    iterate 5 (refine WL.op [] rfl (by simp [hl, hb0, hx] <;> omega) rfl ?_; simp [hl, hb0, hx])
    refine WL.call [] _ _ _ rfl rfl (by simp) (g := 204) (caps := []) (by simp) (by simp) (fn := Tryz.f204) ⟨Tryz.func204, rfl, rfl⟩ rfl (by simp [hl, hb0, hx]) (by simp) (by simp [hl, hb0, hx]) (hc l[k0] (List.getElem_mem hb0) _) rfl ?_; simp [hl, hb0, hx]
    iterate 3 (refine WL.op [] rfl (by simp [hl, hb0, hx] <;> omega) rfl ?_; simp [hl, hb0, hx])
    exact WL.nil hK
    apply W.regS; intro _ K hK
    iterate 3 (refine WL.op [] rfl (by simp [hl, hb0, hx] <;> omega) rfl ?_; simp [hl, hb0, hx])
    exact WL.nil hK
    refine ⟨hb0, Wz.to rfl rfl rfl ?_⟩
    have hs := tk_snoc (f := TType.dd true) hb0
    simp at hs
    simp [hs]
  · have hkl : k0 = l.length := by omega
    subst hkl
    simp only [tk_full]
    refine W.exit ?_
    refine W.seq ?_
    apply W.regS; intro _ K hK
    refine WL.op [23] rfl (by simp [hl] <;> omega) rfl ?_; simp [hl]
    refine WL.op [] rfl (by simp [hl] <;> omega) rfl ?_; simp [hl]
    exact WL.nil hK
    refine W.ret ⟨.inr rfl, ⟨_, rfl⟩, ?_⟩
    simp [Tryz.f205]
theorem Apply0_d (x : TType) (hz : x.sz ≤ 1048576) (h : HP) : CS cx.P 204 [.d (.sl false sh207 []), .d (x.dd false)] h (.d (x.dd true)) h := by
  have hz2 := x.sz_eq; unfold szs at hz2
  exact Apply0_a x (fun h => ApplyAll0_a x.fArgs (by omega) (fun y hy h => Apply0_d y (by have := szL_le TType.sz hy; omega) h) h) h
termination_by SizeOf.sizeOf x
decreasing_by have := List.sizeOf_lt_of_mem hy; have := x.lt_fArgs; omega
theorem ApplyAll0_d (l : List TType) (hz : szs TType.sz l ≤ 1048576) (h : HP) : CS cx.P 205 [.d (.sl false sh207 []), .d (.sl false sh88 (l.map (TType.dd false)))] h (.d (.sl true sh88 (l.map (TType.dd true)))) h := by
  unfold szs at hz
  exact ApplyAll0_a l (by omega) (fun y hy h => Apply0_d y (by have := szL_le TType.sz hy; omega) h) h
end Go.Proofs.YtkmiecgcibjkbaaGreat
