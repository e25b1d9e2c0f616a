/- Walks by the Den rules; The shelf's layings of strings.Builder at this dump. No condition but sizes. -/
import Derived.Test.YtkmiecgcibjkbaaGreatFcc
import Derived.Test.YtkmiecgcibjkbaaGreatFcb
import Derived.Test.YtkmiecgcibjkbaaGreatFca
import Derived.Shelf.Strings.BuilderK
namespace Go.Proofs.YtkmiecgcibjkbaaGreat
open Go.RowKit
set_option maxRecDepth 10000
set_option linter.unusedSimpArgs false
set_option maxHeartbeats 4000000
def isMeta (s : ByteArray) : Bool := decide (2 ≤ s.size) && decide (bt s 0 = 63) && !(decide (2 < s.size) && decide (bt s 1 = 48)) && allB (s.size - 1) fun i => dig (bt s (i + 1))
theorem isInf_d (s : ByteArray) (hs : s.size ≤ 1048576) (h : HP) : CS cx.P 187 [.d (.lf (.string s))] h (.d (.lf (.bool (isMeta s)))) h := by
  refine CS.run (fn := Tryz.f187) ⟨Tryz.func187, rfl, rfl⟩ _ _ _ _ 33 rfl (by simp) ?_
  refine W.seq ?_
  apply W.regS; intro _ K hK
  refine WL.op [] rfl (by simp <;> omega) rfl ?_; simp
  exact WL.nil hK
  refine W.seq ?_
  refine W.seq ?_
  refine W.regJ (D := [some 4, some 5, some 6, some 7, some 8, some 9, some 10, some 11, some 12, some 13, some 14, some 15, some 16, some 17, some 18, some 19, some 20, some 21]) [0] [] [(21, .d (.lf (.bool (!(decide (2 ≤ s.size) && decide (bt s 0 = 63) && !(decide (2 < s.size) && decide (bt s 1 = 48)))))))] [] rfl (fun _ K hD hK => ?_) fun T hT => ?_
  iterate 4 (refine WL.op [] rfl (by simp <;> omega) rfl ?_; simp)
  refine WL.split 7 _ rfl (fun g7 => ?_) fun g7 => ?_ <;> try simp at g7
  · simp
    refine WL.no2 hD 3 7 false rfl rfl (by simp) (by simp) rfl ?_; simp
    refine WL.no2 hD 3 7 false rfl rfl (by simp) (by simp) rfl ?_; simp
    refine WL.no2 hD 3 7 false rfl rfl (by simp) (by simp) rfl ?_; simp
    iterate 2 (refine WL.op [] rfl (by simp <;> omega) rfl ?_; simp)
    refine WL.no2 hD 8 12 false rfl rfl (by simp) (by simp) rfl ?_; simp
    refine WL.no2 hD 8 12 false rfl rfl (by simp) (by simp) rfl ?_; simp
    refine WL.no2 hD 8 12 false rfl rfl (by simp) (by simp) rfl ?_; simp
    refine WL.no2 hD 8 12 false rfl rfl (by simp) (by simp) rfl ?_; simp
    refine WL.no2 hD 12 16 true rfl rfl (by simp) (by simp) rfl ?_; simp
    refine WL.no2 hD 12 16 true rfl rfl (by simp) (by simp) rfl ?_; simp
    refine WL.no2 hD 12 16 true rfl rfl (by simp) (by simp) rfl ?_; simp
    refine WL.no2 hD 8 12 false rfl rfl (by simp) (by simp) rfl ?_; simp
    refine WL.op [] rfl (by simp <;> omega) rfl ?_; simp
    refine WL.nil (hK _ (Wz.to rfl rfl rfl ?_))
    simp [g7] <;> first | omega | grind
  · simp
    refine WL.opG [] hD 3 7 false rfl rfl (by simp) (by simp <;> omega) rfl ?_; simp
    refine WL.opG [] hD 3 7 false rfl rfl (by simp) (by simp <;> omega) rfl ?_; simp
    refine WL.opG [] hD 3 7 false rfl rfl (by simp) (by simp <;> omega) rfl ?_; simp
    iterate 2 (refine WL.op [] rfl (by simp <;> omega) rfl ?_; simp)
    refine WL.split 12 _ rfl (fun g12 => ?_) fun g12 => ?_ <;> try simp at g12
    · simp
      refine WL.no2 hD 8 12 false rfl rfl (by simp) (by simp) rfl ?_; simp
      refine WL.no2 hD 8 12 false rfl rfl (by simp) (by simp) rfl ?_; simp
      refine WL.no2 hD 8 12 false rfl rfl (by simp) (by simp) rfl ?_; simp
      refine WL.no2 hD 8 12 false rfl rfl (by simp) (by simp) rfl ?_; simp
      refine WL.no2 hD 12 16 true rfl rfl (by simp) (by simp) rfl ?_; simp
      refine WL.no2 hD 12 16 true rfl rfl (by simp) (by simp) rfl ?_; simp
      refine WL.no2 hD 12 16 true rfl rfl (by simp) (by simp) rfl ?_; simp
      refine WL.no2 hD 8 12 false rfl rfl (by simp) (by simp) rfl ?_; simp
      refine WL.op [] rfl (by simp <;> omega) rfl ?_; simp
      refine WL.nil (hK _ (Wz.to rfl rfl rfl ?_))
      simp [g7, g12] <;> first | omega | grind
    · simp
      refine WL.opG [] hD 8 12 false rfl rfl (by simp) (by simp <;> omega) rfl ?_; simp
      refine WL.opG [] hD 8 12 false rfl rfl (by simp) (by simp <;> omega) rfl ?_; simp
      refine WL.opG [] hD 8 12 false rfl rfl (by simp) (by simp <;> omega) rfl ?_; simp
      refine WL.opG [] hD 8 12 false rfl rfl (by simp) (by simp <;> omega) rfl ?_; simp
      refine WL.split 16 _ rfl (fun g16 => ?_) fun g16 => ?_ <;> try simp at g16
      · simp
        refine WL.opG [] hD 12 16 true rfl rfl (by simp) (by simp <;> omega) rfl ?_; simp
        refine WL.opG [] hD 12 16 true rfl rfl (by simp) (by simp <;> omega) rfl ?_; simp
        refine WL.opG [] hD 12 16 true rfl rfl (by simp) (by simp <;> omega) rfl ?_; simp
        refine WL.opG [] hD 8 12 false rfl rfl (by simp) (by simp <;> omega) rfl ?_; simp
        refine WL.op [] rfl (by simp <;> omega) rfl ?_; simp
        refine WL.nil (hK _ (Wz.to rfl rfl rfl ?_))
        simp [g7, g12, g16] <;> first | omega | grind
      · simp
        refine WL.no2 hD 12 16 true rfl rfl (by simp) (by simp) rfl ?_; simp
        refine WL.no2 hD 12 16 true rfl rfl (by simp) (by simp) rfl ?_; simp
        refine WL.no2 hD 12 16 true rfl rfl (by simp) (by simp) rfl ?_; simp
        refine WL.opG [] hD 8 12 false rfl rfl (by simp) (by simp <;> omega) rfl ?_; simp
        refine WL.op [] rfl (by simp <;> omega) rfl ?_; simp
        refine WL.nil (hK _ (Wz.to rfl rfl rfl ?_))
        simp [g7, g12, g16] <;> first | omega | grind
  simp at hT; subst hT
  refine W.condS _ rfl trivial (fun hb0 => ?_) fun hb0 => ?_ <;> try simp at hb0
  · have hres : isMeta s = false := by unfold isMeta; grind
    refine W.seq ?_
    apply W.regS; intro _ K hK
    refine WL.op [] rfl (by simp <;> omega) rfl ?_; simp
    exact WL.nil hK
    refine W.ret ⟨.inr rfl, ⟨_, rfl⟩, ?_⟩
    simp [Tryz.f187, hres]
  · refine W.skip ?_
    refine W.seq ?_
    refine W.seq ?_
    apply W.regS; intro _ K hK
    refine WL.op [] rfl (by simp <;> omega) rfl ?_; simp
    exact WL.nil hK
    refine W.block ?_
    refine W.loopI [0] [] (fun k0 => [(3, .d (.lf (.int .i64 ((k0 : Int) + 1))))]) (fun _ => []) (s.size - 1) (fun k0 => ∀ j, j < k0 → (fun i => dig (bt s (i + 1))) j = true) rfl (by simp) (by simp) fun k0 hk0 hi0 T hT => ?_
    simp at hT; subst hT
    refine W.seq ?_
    refine W.seq ?_
    apply W.regS; intro _ K hK
    iterate 4 (refine WL.op [] rfl (by simp <;> omega) rfl ?_; simp)
    exact WL.nil hK
    refine W.condS _ rfl trivial (fun hb1 => ?_) fun hb1 => ?_ <;> try simp at hb1
    · have hk1 : k0 < s.size - 1 := by omega
      have hx := i64w (n := (k0 : Int) + 1 + 1) (by omega) (by omega)
      refine W.skip ?_
      refine W.seq ?_
      refine W.block ?_
      refine W.seq ?_
      apply W.regS; intro _ K hK
      iterate 3 (refine WL.op [] rfl (by simp [hb1, hx] <;> omega) rfl ?_; simp [hb1, hx])
      refine WL.call [] _ _ _ rfl rfl (by simp) (g := 228) (caps := []) (by simp) (by simp) (fn := Tryz.f228) ⟨Tryz.func228, rfl, rfl⟩ rfl (by simp [hb1, hx]) (by simp) (by simp [hb1, hx]) (isDigit_d ((bt s (k0 + 1) : Nat) : Int) _) rfl ?_; simp [hb1, hx]
      refine WL.op [] rfl (by simp [hb1, hx] <;> omega) rfl ?_; simp [hb1, hx]
      exact WL.nil hK
      refine W.condS _ rfl trivial (fun hb2 => ?_) fun hb2 => ?_ <;> try simp at hb2
      · have hres : isMeta s = false := by have := allB_false (p := fun i => dig (bt s (i + 1))) hk1 (by simpa using hb2); unfold isMeta; simp [this]
        refine W.seq ?_
        apply W.regS; intro _ K hK
        refine WL.op [] rfl (by simp [hb1, hx] <;> omega) rfl ?_; simp [hb1, hx]
        exact WL.nil hK
        refine W.ret ⟨.inr rfl, ⟨_, rfl⟩, ?_⟩
        simp [Tryz.f187, hres]
      · refine W.skip ?_
        apply W.regS; intro _ K hK
        iterate 3 (refine WL.op [] rfl (by simp [hb1, hx] <;> omega) rfl ?_; simp [hb1, hx])
        exact WL.nil hK
        refine ⟨hk1, step_all hi0 (by simpa using hb2), Wz.to rfl rfl rfl ?_⟩
        simp
    · have hkl : k0 = s.size - 1 := by omega
      subst hkl
      have hres : isMeta s = true := by have := allB_true hi0; unfold isMeta; grind
      refine W.exit ?_
      refine W.seq ?_
      apply W.regS; intro _ K hK
      refine WL.op [] rfl (by simp <;> omega) rfl ?_; simp
      exact WL.nil hK
      refine W.ret ⟨.inr rfl, ⟨_, rfl⟩, ?_⟩
      simp [Tryz.f187, hres]
end Go.Proofs.YtkmiecgcibjkbaaGreat
namespace Go.Proofs.YtkmiecgcibjkbaaGreat
open Go.RowKit
set_option maxRecDepth 10000
set_option linter.unusedSimpArgs false
set_option maxHeartbeats 4000000
theorem isInfT_d (x : TType) (hz : x.sz ≤ 1048576) (h : HP) : CS cx.P 124 [.d (x.dd false)] h (.d (.lf (.bool (decide (x.fKind = 1) && isMeta x.fName)))) h := by
  have hz2 := x.sz_eq; unfold szs at hz2
  refine CS.run (fn := Tryz.f124) ⟨Tryz.func124, rfl, rfl⟩ _ _ _ _ 11 rfl (by simp) ?_
  refine W.seq ?_
  apply W.regS; intro _ K hK
  iterate 2 (refine WL.op [] rfl (by simp <;> omega) rfl ?_; simp)
  exact WL.nil hK
  refine W.seq ?_
  refine W.regJ0 (D := [some 3, some 4, some 5, some 6, some 7, some 8, some 9, some 10, some 2]) rfl fun _ K hD hK => ?_
  iterate 4 (refine WL.op [] rfl (by simp <;> omega) rfl ?_; simp)
  refine WL.split 6 _ rfl (fun g6 => ?_) fun g6 => ?_ <;> try simp at g6
  · simp
    refine WL.opG [] hD 3 6 true rfl rfl (by simp) (by simp <;> omega) rfl ?_; simp
    refine WL.opG [] hD 3 6 true rfl rfl (by simp) (by simp <;> omega) rfl ?_; simp
    refine WL.callG hD 3 6 true rfl rfl (by simp) [] _ _ _ rfl (by simp) (g := 187) (caps := []) (by simp) (by simp) (fn := Tryz.f187) ⟨Tryz.func187, rfl, rfl⟩ rfl (by simp) (by simp) (by simp) (isInf_d x.fName (by omega) _) rfl ?_; simp
    iterate 2 (refine WL.op [] rfl (by simp <;> omega) rfl ?_; simp)
    refine WL.nil (hK _ ?_)
    refine W.ret ⟨.inr rfl, ⟨_, rfl⟩, ?_⟩
    simp [Tryz.f124, g6]
  · simp
    refine WL.no2 hD 3 6 true rfl rfl (by simp) (by simp) rfl ?_; simp
    refine WL.no2 hD 3 6 true rfl rfl (by simp) (by simp) rfl ?_; simp
    refine WL.no2 hD 3 6 true rfl rfl (by simp) (by simp) rfl ?_; simp
    iterate 2 (refine WL.op [] rfl (by simp <;> omega) rfl ?_; simp)
    refine WL.nil (hK _ ?_)
    refine W.ret ⟨.inr rfl, ⟨_, rfl⟩, ?_⟩
    simp [Tryz.f124, g6]
end Go.Proofs.YtkmiecgcibjkbaaGreat
namespace Go.Proofs.YtkmiecgcibjkbaaGreat
open Go.RowKit
set_option maxRecDepth 10000
set_option linter.unusedSimpArgs false
set_option maxHeartbeats 4000000
mutual
def nmd : TType → TType
  | ⟨k, n, l⟩ => if (decide (k = 1) && isMeta n) = true then ⟨2, ⟨#[117]⟩ ++ n.extract 1 n.size, []⟩ else ⟨k, n, nmds l⟩
def nmds : List TType → List TType
  | [] => []
  | x :: l => nmd x :: nmds l
end
theorem nmds_eq : ∀ l : List TType, nmds l = l.map nmd
  | [] => rfl
  | x :: l => by simp only [nmds, nmds_eq l, List.map_cons]
theorem nmd_yes {x : TType} (h : (decide (x.fKind = 1) && isMeta x.fName) = true) : nmd x = ⟨2, ⟨#[117]⟩ ++ x.fName.extract 1 x.fName.size, []⟩ := by cases x; simp only [nmd]; exact if_pos h
theorem nmd_no {x : TType} (h : ¬ (decide (x.fKind = 1) && isMeta x.fName) = true) : nmd x = ⟨x.fKind, x.fName, x.fArgs.map nmd⟩ := by cases x; simp only [nmd, nmds_eq]; exact if_neg h
theorem isMeta_2 {s : ByteArray} (h : isMeta s = true) : 2 ≤ s.size := by unfold isMeta at h; simp at h; omega
def nmdD (x : TType) : DD := (nmd x).dd true
theorem nmdD_eq (x : TType) : nmdD x = (nmd x).dd true := rfl
attribute [simp] nmdD_eq
theorem shown_a (x : TType) (hz : x.sz ≤ 1048576) (hc : ∀ y ∈ x.fArgs, ∀ h, CS cx.P 60 [.d (y.dd false)] h (.d ((nmd y).dd true)) h) (h : HP) : CS cx.P 60 [.d (x.dd false)] h (.d ((nmd x).dd true)) h := by
  have hz2 := x.sz_eq; unfold szs at hz2
  refine CS.run (fn := Tryz.f60) ⟨Tryz.func60, rfl, rfl⟩ _ _ _ _ 34 rfl (by simp) ?_
  refine W.seq ?_
  apply W.regS; intro _ K hK
  iterate 2 (refine WL.op [] rfl (by simp <;> omega) rfl ?_; simp)
  exact WL.nil hK
  refine W.seq ?_
  refine W.seq ?_
  apply W.regS; intro _ K hK
  refine WL.op [] rfl (by simp <;> omega) rfl ?_; simp
  refine WL.call [] _ _ _ rfl rfl (by simp) (g := 124) (caps := []) (by simp) (by simp) (fn := Tryz.f124) ⟨Tryz.func124, rfl, rfl⟩ rfl (by simp) (by simp) (by simp) (isInfT_d x hz _) rfl ?_; simp
  exact WL.nil hK
  refine W.condS _ rfl trivial (fun hb0 => ?_) fun hb0 => ?_ <;> try simp at hb0
  · have hres := nmd_yes (x := x) (by simpa using hb0)
    have hm2 := isMeta_2 (s := x.fName) hb0.2
    refine W.seq ?_
    apply W.regS; intro _ K hK
    iterate 2 (refine WL.op [] rfl (by simp <;> omega) rfl ?_; simp)
    refine WL.op [] rfl (ok_sliceStr (s := x.fName) rfl (by simp) (by simp [cls]) (by simp [okO]) (by simp [okX, okO]) (by simp [okX]) rfl rfl (by simp) 1 (x.fName).size .i64 (by simp [loV, evT, cst]) (.inl ⟨rfl, rfl⟩) (by omega) (by omega)) rfl ?_; simp
    iterate 3 (refine WL.op [] rfl (by simp <;> omega) rfl ?_; simp)
    exact WL.nil hK
    refine W.ret ⟨.inr rfl, ⟨_, rfl⟩, ?_⟩
    simp [Tryz.f60, hres]
  · have hres := nmd_no (x := x) (by simpa using hb0)
    refine W.skip ?_
    refine W.seq ?_
    apply W.regS; intro _ K hK
    iterate 7 (refine WL.op [] rfl (by simp <;> omega) rfl ?_; simp)
    exact WL.nil hK
    refine W.seq ?_
    refine W.seq ?_
    apply W.regS; intro _ K hK
    iterate 4 (refine WL.op [] rfl (by simp <;> omega) rfl ?_; simp)
    exact WL.nil hK
    refine W.block ?_
    refine W.loopk [2, 3, 19, 20] [2] (fun k0 => [(21, .d (.lf (.int .i64 (k0 : Int))))]) (fun k0 => [(3, .d (.st [.lf (.int .i64 x.fKind), .lf (.string x.fName), .sl true sh88 (tk nmdD x.fArgs k0)]))]) x.fArgs.length rfl (by simp) fun k0 hk0 T hT => ?_
    simp at hT; subst hT
    have hl := tk_len (f := nmdD) hk0
    refine W.seq ?_
    apply W.regS; intro _ K hK
    refine WL.op [] rfl (by simp [hl] <;> omega) rfl ?_; simp [hl]
    exact WL.nil hK
    refine W.seq ?_
    refine W.condS _ rfl trivial (fun hb1 => ?_) fun hb1 => ?_ <;> try simp at hb1
    · have hx := ixNext hb1 (by omega)
      refine W.skip ?_
      refine W.seq ?_
      refine W.block ?_
      refine W.seq ?_
      apply W.regS; intro _ K hK
      refine WL.op [] rfl (by simp [hl, hb1, hx] <;> omega) rfl ?_; simp [hl, hb1, hx]
      refine WL.op [24] rfl (by simp [hl, hb1, hx] <;> omega) rfl ?_; simp [hl, hb1, hx]
      iterate 2 (refine WL.op [] rfl (by simp [hl, hb1, hx] <;> omega) rfl ?_; simp [hl, hb1, hx])
      exact WL.nil hK
      apply W.regSD rfl; intro K hK
      refine DL.op [] rfl (by simp [hl, hb1, hx] <;> omega) rfl ?_; simp [hl, hb1, hx]
      refine DL.op [26] rfl (by simp [hl, hb1, hx] <;> omega) rfl ?_; simp [hl, hb1, hx]
      refine DL.op [] rfl (by simp [hl, hb1, hx] <;> omega) rfl ?_; simp [hl, hb1, hx]
      refine DL.call [] _ _ _ rfl rfl (by simp) (g := 60) (caps := []) (by simp) (by simp) (fn := Tryz.f60) ⟨Tryz.func60, rfl, rfl⟩ rfl (by simp [hl, hb1, hx]) (by simp) (by simp [hl, hb1, hx]) (hc x.fArgs[k0] (List.getElem_mem hb1)) rfl ?_; simp [hl, hb1, hx]
      iterate 4 (refine DL.op [] rfl (by simp [hl, hb1, hx] <;> omega) rfl ?_; simp [hl, hb1, hx])
      exact DL.nil rfl hK
      apply W.regS; intro _ K hK
      iterate 2 (refine WL.op [] rfl (by simp [hl, hb1, hx] <;> omega) rfl ?_; simp [hl, hb1, hx])
      exact WL.nil hK
      refine ⟨hb1, Wz.to rfl rfl rfl ?_⟩
      have hs := tk_snoc (f := nmdD) hb1
      simp at hs
      simp [hs]
    · have hkl : k0 = x.fArgs.length := by omega
      subst hkl
      simp only [tk_full]
      refine W.exit ?_
      refine W.seq ?_
      apply W.regS; intro _ K hK
      refine WL.op [33] rfl (by simp [hl] <;> omega) rfl ?_; simp [hl]
      refine WL.op [] rfl (by simp [hl] <;> omega) rfl ?_; simp [hl]
      exact WL.nil hK
      refine W.ret ⟨.inr rfl, ⟨_, rfl⟩, ?_⟩
      simp [Tryz.f60, hres]
end Go.Proofs.YtkmiecgcibjkbaaGreat
namespace Go.Proofs.YtkmiecgcibjkbaaGreat
open Go.RowKit
set_option maxRecDepth 10000
set_option linter.unusedSimpArgs false
set_option maxHeartbeats 4000000
theorem l32Meta_d (x : TType) (hz : x.sz ≤ 1048576) (h : HP) : CS cx.P 115 [.d (x.dd false)] h (.d (.lf (.bool (decide (x.fKind = 1) && isMeta x.fName)))) h := by
  have hz2 := x.sz_eq; unfold szs at hz2
  refine CS.run (fn := Tryz.f115) ⟨Tryz.func115, rfl, rfl⟩ _ _ _ _ 48 rfl (by simp) ?_
  refine W.seq ?_
  apply W.regS; intro _ K hK
  iterate 2 (refine WL.op [] rfl (by simp <;> omega) rfl ?_; simp)
  exact WL.nil hK
  refine W.seq ?_
  apply W.regS; intro _ K hK
  iterate 4 (refine WL.op [] rfl (by simp <;> omega) rfl ?_; simp)
  exact WL.nil hK
  refine W.seq ?_
  refine W.seq ?_
  refine W.regJ (D := [some 8, some 9, some 10, some 11, some 12, some 13, some 14, some 15, some 16, some 17, some 18, some 19, some 20, some 21, some 22, some 23, some 24, some 25, some 26, some 27, some 28, some 29, some 30]) [1, 3] [1] [(30, .d (.lf (.bool (!(decide (x.fKind = 1) && (decide (2 ≤ x.fName.size) && decide (bt x.fName 0 = 63) && !(decide (2 < x.fName.size) && decide (bt x.fName 1 = 48))))))))] [] rfl (fun _ K hD hK => ?_) fun T hT => ?_
  iterate 4 (refine WL.op [] rfl (by simp <;> omega) rfl ?_; simp)
  refine WL.split 11 _ rfl (fun g11 => ?_) fun g11 => ?_ <;> try simp at g11
  · simp
    refine WL.no2 hD 3 11 false rfl rfl (by simp) (by simp) rfl ?_; simp
    refine WL.no2 hD 3 11 false rfl rfl (by simp) (by simp) rfl ?_; simp
    iterate 2 (refine WL.op [] rfl (by simp <;> omega) rfl ?_; simp)
    refine WL.no2 hD 7 15 false rfl rfl (by simp) (by simp) rfl ?_; simp
    refine WL.no2 hD 7 15 false rfl rfl (by simp) (by simp) rfl ?_; simp
    refine WL.no2 hD 7 15 false rfl rfl (by simp) (by simp) rfl ?_; simp
    refine WL.no2 hD 7 15 false rfl rfl (by simp) (by simp) rfl ?_; simp
    iterate 2 (refine WL.op [] rfl (by simp <;> omega) rfl ?_; simp)
    refine WL.no2 hD 13 21 false rfl rfl (by simp) (by simp) rfl ?_; simp
    refine WL.no2 hD 13 21 false rfl rfl (by simp) (by simp) rfl ?_; simp
    refine WL.no2 hD 13 21 false rfl rfl (by simp) (by simp) rfl ?_; simp
    refine WL.no2 hD 13 21 false rfl rfl (by simp) (by simp) rfl ?_; simp
    refine WL.no2 hD 13 21 false rfl rfl (by simp) (by simp) rfl ?_; simp
    refine WL.no2 hD 18 26 true rfl rfl (by simp) (by simp) rfl ?_; simp
    refine WL.no2 hD 18 26 true rfl rfl (by simp) (by simp) rfl ?_; simp
    refine WL.no2 hD 13 21 false rfl rfl (by simp) (by simp) rfl ?_; simp
    refine WL.op [] rfl (by simp <;> omega) rfl ?_; simp
    refine WL.nil (hK _ (Wz.to rfl rfl rfl ?_))
    simp [g11] <;> first | omega | grind
  · simp
    refine WL.opG [] hD 3 11 false rfl rfl (by simp) (by simp <;> omega) rfl ?_; simp
    refine WL.opG [] hD 3 11 false rfl rfl (by simp) (by simp <;> omega) rfl ?_; simp
    iterate 2 (refine WL.op [] rfl (by simp <;> omega) rfl ?_; simp)
    refine WL.split 15 _ rfl (fun g15 => ?_) fun g15 => ?_ <;> try simp at g15
    · simp
      refine WL.no2 hD 7 15 false rfl rfl (by simp) (by simp) rfl ?_; simp
      refine WL.no2 hD 7 15 false rfl rfl (by simp) (by simp) rfl ?_; simp
      refine WL.no2 hD 7 15 false rfl rfl (by simp) (by simp) rfl ?_; simp
      refine WL.no2 hD 7 15 false rfl rfl (by simp) (by simp) rfl ?_; simp
      iterate 2 (refine WL.op [] rfl (by simp <;> omega) rfl ?_; simp)
      refine WL.no2 hD 13 21 false rfl rfl (by simp) (by simp) rfl ?_; simp
      refine WL.no2 hD 13 21 false rfl rfl (by simp) (by simp) rfl ?_; simp
      refine WL.no2 hD 13 21 false rfl rfl (by simp) (by simp) rfl ?_; simp
      refine WL.no2 hD 13 21 false rfl rfl (by simp) (by simp) rfl ?_; simp
      refine WL.no2 hD 13 21 false rfl rfl (by simp) (by simp) rfl ?_; simp
      refine WL.no2 hD 18 26 true rfl rfl (by simp) (by simp) rfl ?_; simp
      refine WL.no2 hD 18 26 true rfl rfl (by simp) (by simp) rfl ?_; simp
      refine WL.no2 hD 13 21 false rfl rfl (by simp) (by simp) rfl ?_; simp
      refine WL.op [] rfl (by simp <;> omega) rfl ?_; simp
      refine WL.nil (hK _ (Wz.to rfl rfl rfl ?_))
      simp [g11, g15] <;> first | omega | grind
    · simp
      refine WL.opG [] hD 7 15 false rfl rfl (by simp) (by simp <;> omega) rfl ?_; simp
      refine WL.opG [] hD 7 15 false rfl rfl (by simp) (by simp <;> omega) rfl ?_; simp
      refine WL.opG [] hD 7 15 false rfl rfl (by simp) (by simp <;> omega) rfl ?_; simp
      refine WL.opG [] hD 7 15 false rfl rfl (by simp) (by simp <;> omega) rfl ?_; simp
      iterate 2 (refine WL.op [] rfl (by simp <;> omega) rfl ?_; simp)
      refine WL.split 21 _ rfl (fun g21 => ?_) fun g21 => ?_ <;> try simp at g21
      · simp
        refine WL.no2 hD 13 21 false rfl rfl (by simp) (by simp) rfl ?_; simp
        refine WL.no2 hD 13 21 false rfl rfl (by simp) (by simp) rfl ?_; simp
        refine WL.no2 hD 13 21 false rfl rfl (by simp) (by simp) rfl ?_; simp
        refine WL.no2 hD 13 21 false rfl rfl (by simp) (by simp) rfl ?_; simp
        refine WL.no2 hD 13 21 false rfl rfl (by simp) (by simp) rfl ?_; simp
        refine WL.no2 hD 18 26 true rfl rfl (by simp) (by simp) rfl ?_; simp
        refine WL.no2 hD 18 26 true rfl rfl (by simp) (by simp) rfl ?_; simp
        refine WL.no2 hD 13 21 false rfl rfl (by simp) (by simp) rfl ?_; simp
        refine WL.op [] rfl (by simp <;> omega) rfl ?_; simp
        refine WL.nil (hK _ (Wz.to rfl rfl rfl ?_))
        simp [g11, g15, g21] <;> first | omega | grind
      · simp
        refine WL.opG [] hD 13 21 false rfl rfl (by simp) (by simp <;> omega) rfl ?_; simp
        refine WL.opG [] hD 13 21 false rfl rfl (by simp) (by simp <;> omega) rfl ?_; simp
        refine WL.opG [] hD 13 21 false rfl rfl (by simp) (by simp <;> omega) rfl ?_; simp
        refine WL.opG [] hD 13 21 false rfl rfl (by simp) (by simp <;> omega) rfl ?_; simp
        refine WL.opG [] hD 13 21 false rfl rfl (by simp) (by simp <;> omega) rfl ?_; simp
        refine WL.split 26 _ rfl (fun g26 => ?_) fun g26 => ?_ <;> try simp at g26
        · simp
          refine WL.opG [] hD 18 26 true rfl rfl (by simp) (by simp <;> omega) rfl ?_; simp
          refine WL.opG [] hD 18 26 true rfl rfl (by simp) (by simp <;> omega) rfl ?_; simp
          refine WL.opG [] hD 13 21 false rfl rfl (by simp) (by simp <;> omega) rfl ?_; simp
          refine WL.op [] rfl (by simp <;> omega) rfl ?_; simp
          refine WL.nil (hK _ (Wz.to rfl rfl rfl ?_))
          simp [g11, g15, g21, g26] <;> first | omega | grind
        · simp
          refine WL.no2 hD 18 26 true rfl rfl (by simp) (by simp) rfl ?_; simp
          refine WL.no2 hD 18 26 true rfl rfl (by simp) (by simp) rfl ?_; simp
          refine WL.opG [] hD 13 21 false rfl rfl (by simp) (by simp <;> omega) rfl ?_; simp
          refine WL.op [] rfl (by simp <;> omega) rfl ?_; simp
          refine WL.nil (hK _ (Wz.to rfl rfl rfl ?_))
          simp [g11, g15, g21, g26] <;> first | omega | grind
  simp at hT; subst hT
  refine W.condS _ rfl trivial (fun hb0 => ?_) fun hb0 => ?_ <;> try simp at hb0
  · have hres : (decide (x.fKind = 1) && isMeta x.fName) = false := by unfold isMeta; grind
    refine W.seq ?_
    apply W.regS; intro _ K hK
    refine WL.op [] rfl (by simp <;> omega) rfl ?_; simp
    exact WL.nil hK
    refine W.ret ⟨.inr rfl, ⟨_, rfl⟩, ?_⟩
    simpa [Tryz.f115] using hres
  · refine W.skip ?_
    refine W.seq ?_
    refine W.seq ?_
    apply W.regS; intro _ K hK
    refine WL.op [] rfl (by simp <;> omega) rfl ?_; simp
    exact WL.nil hK
    refine W.block ?_
    refine W.loopI [1, 3] [1] (fun k0 => [(4, .d (.lf (.int .i64 ((k0 : Int) + 1))))]) (fun _ => []) (x.fName.size - 1) (fun k0 => ∀ j, j < k0 → (fun i => dig (bt x.fName (i + 1))) j = true) rfl (by simp) (by simp) fun k0 hk0 hi0 T hT => ?_
    simp at hT; subst hT
    refine W.seq ?_
    refine W.seq ?_
    apply W.regS; intro _ K hK
    iterate 3 (refine WL.op [] rfl (by simp <;> omega) rfl ?_; simp)
    exact WL.nil hK
    refine W.condS _ rfl trivial (fun hb1 => ?_) fun hb1 => ?_ <;> try simp at hb1
    · have hk1 : k0 < x.fName.size - 1 := by omega
      have hx := i64w (n := (k0 : Int) + 1 + 1) (by omega) (by omega)
      refine W.skip ?_
      refine W.seq ?_
      refine W.block ?_
      refine W.seq ?_
      refine W.regJ (D := [some 36, some 37, some 38, some 39, some 40, some 41, some 42, some 43, some 44, some 45, some 46, some 47]) [1, 3, 4] [1] [(47, .d (.lf (.bool (!dig (bt x.fName (k0 + 1))))))] [] rfl (fun _ K hD hK => ?_) fun T hT => ?_
      iterate 6 (refine WL.op [] rfl (by simp [hb1, hx] <;> omega) rfl ?_; simp [hb1, hx])
      refine WL.split 41 _ rfl (fun g41 => ?_) fun g41 => ?_ <;> try simp at g41
      · simp [hb1, hx]
        refine WL.no2 hD 5 41 false rfl rfl (by simp) (by simp) rfl ?_; simp [hb1, hx]
        refine WL.no2 hD 5 41 false rfl rfl (by simp) (by simp) rfl ?_; simp [hb1, hx]
        refine WL.no2 hD 5 41 false rfl rfl (by simp) (by simp) rfl ?_; simp [hb1, hx]
        refine WL.no2 hD 5 41 false rfl rfl (by simp) (by simp) rfl ?_; simp [hb1, hx]
        refine WL.no2 hD 5 41 false rfl rfl (by simp) (by simp) rfl ?_; simp [hb1, hx]
        refine WL.op [] rfl (by simp [hb1, hx] <;> omega) rfl ?_; simp [hb1, hx]
        refine WL.nil (hK _ (Wz.to rfl rfl rfl ?_))
        simp [dig, g41] <;> first | omega | grind
      · simp [hb1, hx]
        refine WL.opG [] hD 5 41 false rfl rfl (by simp) (by simp [hb1, hx] <;> omega) rfl ?_; simp [hb1, hx]
        refine WL.opG [] hD 5 41 false rfl rfl (by simp) (by simp [hb1, hx] <;> omega) rfl ?_; simp [hb1, hx]
        refine WL.opG [] hD 5 41 false rfl rfl (by simp) (by simp [hb1, hx] <;> omega) rfl ?_; simp [hb1, hx]
        refine WL.opG [] hD 5 41 false rfl rfl (by simp) (by simp [hb1, hx] <;> omega) rfl ?_; simp [hb1, hx]
        refine WL.opG [] hD 5 41 false rfl rfl (by simp) (by simp [hb1, hx] <;> omega) rfl ?_; simp [hb1, hx]
        refine WL.op [] rfl (by simp [hb1, hx] <;> omega) rfl ?_; simp [hb1, hx]
        refine WL.nil (hK _ (Wz.to rfl rfl rfl ?_))
        simp [dig, g41] <;> first | omega | grind
      simp at hT; subst hT
      refine W.condS _ rfl trivial (fun hb2 => ?_) fun hb2 => ?_ <;> try simp at hb2
      · have hres : (decide (x.fKind = 1) && isMeta x.fName) = false := by have := allB_false (p := fun i => dig (bt x.fName (i + 1))) hk1 (by simpa using hb2); unfold isMeta; simp [this]
        refine W.seq ?_
        apply W.regS; intro _ K hK
        refine WL.op [] rfl (by simp [hb1, hx] <;> omega) rfl ?_; simp [hb1, hx]
        exact WL.nil hK
        refine W.ret ⟨.inr rfl, ⟨_, rfl⟩, ?_⟩
        simpa [Tryz.f115] using hres
      · refine W.skip ?_
        apply W.regS; intro _ K hK
        iterate 3 (refine WL.op [] rfl (by simp [hb1, hx] <;> omega) rfl ?_; simp [hb1, hx])
        exact WL.nil hK
        refine ⟨hk1, step_all hi0 (by simpa using hb2), Wz.to rfl rfl rfl ?_⟩
        simp
    · have hkl : k0 = x.fName.size - 1 := by omega
      subst hkl
      have hres : (decide (x.fKind = 1) && isMeta x.fName) = true := by have := allB_true hi0; unfold isMeta; grind
      refine W.exit ?_
      refine W.seq ?_
      apply W.regS; intro _ K hK
      refine WL.op [] rfl (by simp <;> omega) rfl ?_; simp
      exact WL.nil hK
      refine W.ret ⟨.inr rfl, ⟨_, rfl⟩, ?_⟩
      simpa [Tryz.f115] using hres
theorem l43Named_a (x : TType) (hz : x.sz ≤ 1048576) (hc : ∀ y ∈ x.fArgs, ∀ h, CS cx.P 54 [.d (y.dd false)] h (.d ((nmd y).dd true)) h) (h : HP) : CS cx.P 54 [.d (x.dd false)] h (.d ((nmd x).dd true)) h := by
  have hz2 := x.sz_eq; unfold szs at hz2
  refine CS.run (fn := Tryz.f54) ⟨Tryz.func54, rfl, rfl⟩ _ _ _ _ 36 rfl (by simp) ?_
  refine W.seq ?_
  apply W.regS; intro _ K hK
  iterate 2 (refine WL.op [] rfl (by simp <;> omega) rfl ?_; simp)
  exact WL.nil hK
  refine W.seq ?_
  refine W.seq ?_
  apply W.regS; intro _ K hK
  refine WL.op [] rfl (by simp <;> omega) rfl ?_; simp
  refine WL.call [] _ _ _ rfl rfl (by simp) (g := 115) (caps := []) (by simp) (by simp) (fn := Tryz.f115) ⟨Tryz.func115, rfl, rfl⟩ rfl (by simp) (by simp) (by simp) (l32Meta_d x hz _) rfl ?_; simp
  exact WL.nil hK
  refine W.condS _ rfl trivial (fun hb0 => ?_) fun hb0 => ?_ <;> try simp at hb0
  · have hres := nmd_yes (x := x) (by simpa using hb0)
    have hm2 := isMeta_2 (s := x.fName) hb0.2
    refine W.seq ?_
    apply W.regS; intro _ K hK
    iterate 2 (refine WL.op [] rfl (by simp <;> omega) rfl ?_; simp)
    refine WL.op [] rfl (ok_sliceStr (s := x.fName) rfl (by simp) (by simp [cls]) (by simp [okO]) (by simp [okX, okO]) (by simp [okX]) rfl rfl (by simp) 1 (x.fName).size .i64 (by simp [loV, evT, cst]) (.inl ⟨rfl, rfl⟩) (by omega) (by omega)) rfl ?_; simp
    refine WL.op [] rfl (by simp <;> omega) rfl ?_; simp
    refine WL.call [] _ _ _ rfl rfl (by simp) (g := 116) (caps := []) (by simp) (by simp) (fn := Tryz.f116) ⟨Tryz.func116, rfl, rfl⟩ rfl (by simp) (by simp) (by simp) (sCon_d (⟨#[117]⟩ ++ x.fName.extract 1 x.fName.size) _) rfl ?_; simp
    refine WL.op [] rfl (by simp <;> omega) rfl ?_; simp
    exact WL.nil hK
    refine W.ret ⟨.inr rfl, ⟨_, rfl⟩, ?_⟩
    simp [Tryz.f54, hres]
  · have hres := nmd_no (x := x) (by simpa using hb0)
    refine W.skip ?_
    refine W.seq ?_
    apply W.regS; intro _ K hK
    iterate 7 (refine WL.op [] rfl (by simp <;> omega) rfl ?_; simp)
    exact WL.nil hK
    refine W.seq ?_
    refine W.seq ?_
    apply W.regS; intro _ K hK
    refine WL.op [] rfl (by simp <;> omega) rfl ?_; simp
    exact WL.nil hK
    refine W.block ?_
    refine W.loopk [1, 2, 3] [1, 2] (fun k0 => [(4, .d (.lf (.int .i64 (k0 : Int))))]) (fun k0 => [(3, .d (.st [.lf (.int .i64 x.fKind), .lf (.string x.fName), .sl true sh88 (tk nmdD x.fArgs k0)]))]) x.fArgs.length rfl (by simp) fun k0 hk0 T hT => ?_
    simp at hT; subst hT
    have hl := tk_len (f := nmdD) hk0
    refine W.seq ?_
    refine W.seq ?_
    apply W.regS; intro _ K hK
    iterate 5 (refine WL.op [] rfl (by simp [hl] <;> omega) rfl ?_; simp [hl])
    exact WL.nil hK
    refine W.condS _ rfl trivial (fun hb1 => ?_) fun hb1 => ?_ <;> try simp at hb1
    · have hx := ixNext hb1 (by omega)
      refine W.skip ?_
      refine W.seq ?_
      refine W.block ?_
      apply W.regSD rfl; intro K hK
      refine DL.op [] rfl (by simp [hl, hb1, hx] <;> omega) rfl ?_; simp [hl, hb1, hx]
      refine DL.op [25] rfl (by simp [hl, hb1, hx] <;> omega) rfl ?_; simp [hl, hb1, hx]
      iterate 5 (refine DL.op [] rfl (by simp [hl, hb1, hx] <;> omega) rfl ?_; simp [hl, hb1, hx])
      refine DL.call [] _ _ _ rfl rfl (by simp) (g := 54) (caps := []) (by simp) (by simp) (fn := Tryz.f54) ⟨Tryz.func54, rfl, rfl⟩ rfl (by simp [hl, hb1, hx]) (by simp) (by simp [hl, hb1, hx]) (hc x.fArgs[k0] (List.getElem_mem hb1)) rfl ?_; simp [hl, hb1, hx]
      iterate 4 (refine DL.op [] rfl (by simp [hl, hb1, hx] <;> omega) rfl ?_; simp [hl, hb1, hx])
      exact DL.nil rfl hK
      apply W.regS; intro _ K hK
      iterate 3 (refine WL.op [] rfl (by simp [hl, hb1, hx] <;> omega) rfl ?_; simp [hl, hb1, hx])
      exact WL.nil hK
      refine ⟨hb1, Wz.to rfl rfl rfl ?_⟩
      have hs := tk_snoc (f := nmdD) hb1
      simp at hs
      simp [hs]
    · have hkl : k0 = x.fArgs.length := by omega
      subst hkl
      simp only [tk_full]
      refine W.exit ?_
      refine W.seq ?_
      apply W.regS; intro _ K hK
      refine WL.op [35] rfl (by simp [hl] <;> omega) rfl ?_; simp [hl]
      refine WL.op [] rfl (by simp [hl] <;> omega) rfl ?_; simp [hl]
      exact WL.nil hK
      refine W.ret ⟨.inr rfl, ⟨_, rfl⟩, ?_⟩
      simp [Tryz.f54, hres]
theorem shown_d (x : TType) (hz : x.sz ≤ 1048576) (h : HP) : CS cx.P 60 [.d (x.dd false)] h (.d ((nmd x).dd true)) h := shown_a x hz (fun y hy h => shown_d y (by have h1 := szL_le TType.sz hy; have h2 := x.sz_eq; unfold szs at h2; omega) h) h
termination_by SizeOf.sizeOf x
decreasing_by have := List.sizeOf_lt_of_mem hy; have := x.lt_fArgs; omega
theorem l43Named_d (x : TType) (hz : x.sz ≤ 1048576) (h : HP) : CS cx.P 54 [.d (x.dd false)] h (.d ((nmd x).dd true)) h := l43Named_a x hz (fun y hy h => l43Named_d y (by have h1 := szL_le TType.sz hy; have h2 := x.sz_eq; unfold szs at h2; omega) h) h
termination_by SizeOf.sizeOf x
decreasing_by have := List.sizeOf_lt_of_mem hy; have := x.lt_fArgs; omega
end Go.Proofs.YtkmiecgcibjkbaaGreat
namespace Go.Proofs.YtkmiecgcibjkbaaGreat
open Go.Shelf
def bldRen : Ren := ⟨fun | 166 => 226 | 167 => 227 | 169 => 185 | 240 => 249 | 276 => 260 | n => n, fun | 0 => 0 | 3 => 3 | 4 => 4 | 5 => 5 | 9 => 9 | 20 => 20 | 37 => 216 | 72 => 268 | 70 => 266 | 75 => 305 | 127 => 309 | 164 => 343 | 80 => 270 | n => n, fun | n => n⟩
theorem bldLays166 : Go.Proofs.Lays.n166 Tryz.prog bldRen := {
  mixed := by kernel_rfl
  f166 := Tryz.func226.trans (congrArg some (by kernel_rfl))
  f240 := Tryz.func249.trans (congrArg some (by kernel_rfl))
  f276 := Tryz.func260.trans (congrArg some (by kernel_rfl))
  t0 := Tryz.underlying0
  a0 := Tryz.isAgg0
  z0 := Tryz.sizeOf0
  v0 := Tryz.zeroValue0
  t3 := Tryz.underlying3
  a3 := Tryz.isAgg3
  z3 := Tryz.sizeOf3
  v3 := Tryz.zeroValue3
  t4 := Tryz.underlying4
  a4 := Tryz.isAgg4
  z4 := Tryz.sizeOf4
  v4 := Tryz.zeroValue4
  t9 := Tryz.underlying9
  a9 := Tryz.isAgg9
  z9 := Tryz.sizeOf9
  v9 := Tryz.zeroValue9
  t20 := Tryz.underlying20
  a20 := Tryz.isAgg20
  z20 := Tryz.sizeOf20
  v20 := Tryz.zeroValue20
  t37 := Tryz.underlying216
  a37 := Tryz.isAgg216
  z37 := Tryz.sizeOf216
  v37 := Tryz.zeroValue216
  t70 := Tryz.underlying266
  a70 := Tryz.isAgg266
  z70 := Tryz.sizeOf266
  v70 := Tryz.zeroValue266
  t72 := Tryz.underlying268
  a72 := Tryz.isAgg268
  z72 := Tryz.sizeOf268
  v72 := Tryz.zeroValue268
  t75 := Tryz.underlying305
  a75 := Tryz.isAgg305
  z75 := Tryz.sizeOf305
  v75 := Tryz.zeroValue305
  t164 := Tryz.underlying343
  a164 := Tryz.isAgg343
  z164 := Tryz.sizeOf343
  v164 := Tryz.zeroValue343 }
theorem bldLays167 : Go.Proofs.Lays.n167 Tryz.prog bldRen := {
  mixed := by kernel_rfl
  f167 := Tryz.func227.trans (congrArg some (by kernel_rfl))
  f240 := Tryz.func249.trans (congrArg some (by kernel_rfl))
  f276 := Tryz.func260.trans (congrArg some (by kernel_rfl))
  t0 := Tryz.underlying0
  a0 := Tryz.isAgg0
  z0 := Tryz.sizeOf0
  v0 := Tryz.zeroValue0
  t4 := Tryz.underlying4
  a4 := Tryz.isAgg4
  z4 := Tryz.sizeOf4
  v4 := Tryz.zeroValue4
  t5 := Tryz.underlying5
  a5 := Tryz.isAgg5
  z5 := Tryz.sizeOf5
  v5 := Tryz.zeroValue5
  t9 := Tryz.underlying9
  a9 := Tryz.isAgg9
  z9 := Tryz.sizeOf9
  v9 := Tryz.zeroValue9
  t20 := Tryz.underlying20
  a20 := Tryz.isAgg20
  z20 := Tryz.sizeOf20
  v20 := Tryz.zeroValue20
  t37 := Tryz.underlying216
  a37 := Tryz.isAgg216
  z37 := Tryz.sizeOf216
  v37 := Tryz.zeroValue216
  t70 := Tryz.underlying266
  a70 := Tryz.isAgg266
  z70 := Tryz.sizeOf266
  v70 := Tryz.zeroValue266
  t72 := Tryz.underlying268
  a72 := Tryz.isAgg268
  z72 := Tryz.sizeOf268
  v72 := Tryz.zeroValue268
  t75 := Tryz.underlying305
  a75 := Tryz.isAgg305
  z75 := Tryz.sizeOf305
  v75 := Tryz.zeroValue305
  t164 := Tryz.underlying343
  a164 := Tryz.isAgg343
  z164 := Tryz.sizeOf343
  v164 := Tryz.zeroValue343 }
theorem bldLays169 : Go.Proofs.Lays.n169 Tryz.prog bldRen := {
  mixed := by kernel_rfl
  f169 := Tryz.func185.trans (congrArg some (by kernel_rfl))
  t0 := Tryz.underlying0
  a0 := Tryz.isAgg0
  z0 := Tryz.sizeOf0
  v0 := Tryz.zeroValue0
  t3 := Tryz.underlying3
  a3 := Tryz.isAgg3
  z3 := Tryz.sizeOf3
  v3 := Tryz.zeroValue3
  t9 := Tryz.underlying9
  a9 := Tryz.isAgg9
  z9 := Tryz.sizeOf9
  v9 := Tryz.zeroValue9
  t37 := Tryz.underlying216
  a37 := Tryz.isAgg216
  z37 := Tryz.sizeOf216
  v37 := Tryz.zeroValue216
  t70 := Tryz.underlying266
  a70 := Tryz.isAgg266
  z70 := Tryz.sizeOf266
  v70 := Tryz.zeroValue266
  t72 := Tryz.underlying268
  a72 := Tryz.isAgg268
  z72 := Tryz.sizeOf268
  v72 := Tryz.zeroValue268
  t127 := Tryz.underlying309
  a127 := Tryz.isAgg309
  z127 := Tryz.sizeOf309
  v127 := Tryz.zeroValue309 }
theorem bldExtra : Builder.Extra Tryz.prog bldRen := {
  sizeBuilder := by kernel_rfl
  liesBuilder := by kernel_rfl
  t5 := Tryz.underlying5
  a5 := Tryz.isAgg5
  z5 := Tryz.sizeOf5
  v5 := Tryz.zeroValue5
  infoByte := by kernel_rfl
  cellsByte := by kernel_rfl
  sizeByte := by kernel_rfl
  neB5 := by decide }
end Go.Proofs.YtkmiecgcibjkbaaGreat
