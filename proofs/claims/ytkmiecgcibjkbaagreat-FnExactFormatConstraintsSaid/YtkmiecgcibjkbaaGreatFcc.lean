/- Walks by the Den rules; strings.IndexByte over a text. No condition but sizes. -/
import Derived.Test.YtkmiecgcibjkbaaGreatFcb
import Derived.Shelf.Strings.Search1
namespace Go.Proofs.YtkmiecgcibjkbaaGreat
open Go.RowKit
set_option maxRecDepth 10000
set_option linter.unusedSimpArgs false
set_option maxHeartbeats 4000000
mutual
def eSize : TSExpr → Nat
  | ⟨_, l⟩ => 1 + eSizes l
def eSizes : List TSExpr → Nat
  | [] => 0
  | x :: l => eSize x + eSizes l
end
theorem eSizes_app : ∀ a b : List TSExpr, eSizes (a ++ b) = eSizes a + eSizes b
  | [], b => by simp [eSizes]
  | x :: a, b => by simp only [List.cons_append, eSizes, eSizes_app a b]; omega
mutual
theorem eSize_le : ∀ x : TSExpr, eSize x ≤ 1 + x.sz
  | ⟨_, l⟩ => by simp only [eSize, TSExpr.sz]; have := eSizes_le l; omega
theorem eSizes_le : ∀ l : List TSExpr, eSizes l ≤ l.length + TSExpr.szLs l
  | [] => by simp [eSizes, TSExpr.szLs]
  | x :: l => by simp only [eSizes, TSExpr.szLs, List.length_cons]; have := eSize_le x; have := eSizes_le l; omega
end
def eSzk (l : List TSExpr) (k : Nat) : Nat := 1 + eSizes (l.take k)
theorem eSzk_zero (l : List TSExpr) : eSzk l 0 = 1 := rfl
theorem eSzk_full (x : TSExpr) : eSzk x.fList x.fList.length = eSize x := by cases x; simp [eSzk, eSize]
theorem eSzk_nx {l : List TSExpr} {k : Nat} (h : k < l.length) : eSzk l (k + 1) = eSzk l k + eSize l[k] := by
  unfold eSzk
  rw [List.take_succ_eq_append_getElem h, eSizes_app]; simp [eSizes]; omega
theorem eSzk_le (x : TSExpr) (k : Nat) : eSzk x.fList k ≤ eSize x := by
  rw [← eSzk_full]
  unfold eSzk
  have := eSizes_app (x.fList.take k) (x.fList.drop k)
  rw [List.take_append_drop] at this
  simp; omega
theorem eSzk_step {x : TSExpr} {k : Nat} (h : k < x.fList.length) (hz : x.sz ≤ 1048576) : IntKind.i64.wrap ((eSzk x.fList k : Int) + (eSize x.fList[k] : Int)) = (eSzk x.fList (k + 1) : Int) := by
  have h1 := eSzk_nx h
  have h2 := eSzk_le x (k + 1)
  have h3 := eSize_le x
  rw [i64w (by omega) (by omega)]; omega
theorem eSizeI_a (x : TSExpr) (hz : x.sz ≤ 1048576) (hc : ∀ y ∈ x.fList, ∀ h, CS cx.P 225 [.d (y.dd false)] h (.d (.lf (.int .i64 ((eSize y : Nat) : Int)))) h) (h : HP) : CS cx.P 225 [.d (x.dd false)] h (.d (.lf (.int .i64 ((eSize x : Nat) : Int)))) h := by
  have hz2 := x.sz_eq; unfold szs at hz2
  refine CS.run (fn := Tryz.f225) ⟨Tryz.func225, rfl, rfl⟩ _ _ _ _ 19 rfl (by simp) ?_
  refine W.seq ?_
  apply W.regS; intro _ K hK
  iterate 2 (refine WL.op [] rfl (by simp <;> omega) rfl ?_; simp)
  exact WL.nil hK
  refine W.seq ?_
  apply W.regS; intro _ K hK
  refine WL.op [] rfl (by simp <;> omega) rfl ?_; simp
  exact WL.nil hK
  refine W.seq ?_
  refine W.seq ?_
  apply W.regS; intro _ K hK
  iterate 4 (refine WL.op [] rfl (by simp <;> omega) rfl ?_; simp)
  exact WL.nil hK
  refine W.block ?_
  refine W.loopk [7, 8] [] (fun k0 => [(9, .d (.lf (.int .i64 (k0 : Int)))), (3, .d (.lf (.int .i64 ((eSzk x.fList k0 : Nat) : Int))))]) (fun _ => []) x.fList.length rfl (by simp [eSzk_zero]) fun k0 hk0 T hT => ?_
  simp at hT; subst hT
  refine W.seq ?_
  apply W.regS; intro _ K hK
  refine WL.op [] rfl (by simp <;> omega) rfl ?_; simp
  exact WL.nil hK
  refine W.seq ?_
  refine W.condS _ rfl trivial (fun hb0 => ?_) fun hb0 => ?_ <;> try simp at hb0
  · have hx := ixNext hb0 (by omega)
    have hw := eSzk_step hb0 hz
    refine W.skip ?_
    refine W.seq ?_
    refine W.block ?_
    refine W.seq ?_
    apply W.regS; intro _ K hK
    refine WL.op [] rfl (by simp [hb0, hx, hw] <;> omega) rfl ?_; simp [hb0, hx, hw]
    refine WL.op [12] rfl (by simp [hb0, hx, hw] <;> omega) rfl ?_; simp [hb0, hx, hw]
    iterate 2 (refine WL.op [] rfl (by simp [hb0, hx, hw] <;> omega) rfl ?_; simp [hb0, hx, hw])
    exact WL.nil hK
    apply W.regS; intro _ K hK
    iterate 2 (refine WL.op [] rfl (by simp [hb0, hx, hw] <;> omega) rfl ?_; simp [hb0, hx, hw])
    refine WL.call [] _ _ _ rfl rfl (by simp) (g := 225) (caps := []) (by simp) (by simp) (fn := Tryz.f225) ⟨Tryz.func225, rfl, rfl⟩ rfl (by simp [hb0, hx, hw]) (by simp) (by simp [hb0, hx, hw]) (hc x.fList[k0] (List.getElem_mem hb0) _) rfl ?_; simp [hb0, hx, hw]
    iterate 2 (refine WL.op [] rfl (by simp [hb0, hx, hw] <;> omega) rfl ?_; simp [hb0, hx, hw])
    exact WL.nil hK
    apply W.regS; intro _ K hK
    iterate 2 (refine WL.op [] rfl (by simp [hb0, hx, hw] <;> omega) rfl ?_; simp [hb0, hx, hw])
    exact WL.nil hK
    refine ⟨hb0, Wz.to rfl rfl rfl ?_⟩
    simp
  · have hkl : k0 = x.fList.length := by omega
    subst hkl
    refine W.exit ?_
    refine W.seq ?_
    apply W.regS; intro _ K hK
    iterate 2 (refine WL.op [] rfl (by simp <;> omega) rfl ?_; simp)
    exact WL.nil hK
    refine W.ret ⟨.inr rfl, ⟨_, rfl⟩, ?_⟩
    simp [Tryz.f225, eSzk_full]
theorem lft_neg3 {x : TSExpr} {k : Nat} {left : Int} (hk : k ≤ x.fList.length) (h : k < x.fList.length → lft (eSzk x.fList k) left < 0) : lft (eSize x) left = lft (eSzk x.fList k) left := by
  rcases Nat.lt_or_ge k x.fList.length with q | q
  · exact lft_neg (by have := h q; omega) (eSzk_le x k)
  · have : k = x.fList.length := by omega
    subst this; rw [eSzk_full]
theorem eLeft_a (x : TSExpr) (left : Int) (h0 : 0 ≤ left) (h1 : left ≤ 1048576) (hz : x.sz ≤ 1048576) (hc : ∀ y ∈ x.fList, ∀ left, 0 ≤ left → left ≤ 1048576 → ∀ h, CS cx.P 215 [.d (y.dd false), .d (.lf (.int .i64 (left)))] h (.d (.lf (.int .i64 (lft (eSize y) left)))) h) (h : HP) : CS cx.P 215 [.d (x.dd false), .d (.lf (.int .i64 (left)))] h (.d (.lf (.int .i64 (lft (eSize x) left)))) h := by
  have hz2 := x.sz_eq; unfold szs at hz2
  have hw0 := i64w (n := left - 1) (by omega) (by omega)
  have hl0 : lft 1 left = left - 1 := by unfold lft; split <;> omega
  refine CS.run (fn := Tryz.f215) ⟨Tryz.func215, rfl, rfl⟩ _ _ _ _ 27 rfl (by simp) ?_
  refine W.seq ?_
  apply W.regS; intro _ K hK
  iterate 2 (refine WL.op [] rfl (by simp [hw0] <;> omega) rfl ?_; simp [hw0])
  exact WL.nil hK
  refine W.seq ?_
  apply W.regS; intro _ K hK
  iterate 3 (refine WL.op [] rfl (by simp [hw0] <;> omega) rfl ?_; simp [hw0])
  exact WL.nil hK
  refine W.seq ?_
  refine W.seq ?_
  apply W.regS; intro _ K hK
  refine WL.op [] rfl (by simp [hw0] <;> omega) rfl ?_; simp [hw0]
  exact WL.nil hK
  refine W.block ?_
  refine W.loopk [2] [2] (fun k0 => [(5, .d (.lf (.int .i64 (k0 : Int)))), (1, .d (.lf (.int .i64 ((lft (eSzk x.fList k0) left)))))]) (fun _ => []) x.fList.length rfl (by simp [eSzk_zero, hl0]) fun k0 hk0 T hT => ?_
  simp at hT; subst hT
  refine W.seq ?_
  refine W.seq ?_
  refine W.regJ (D := [some 8, some 9, some 10, some 11, some 12, some 13, some 14, some 15, some 16]) [1, 2, 5] [2] [(16, .d (.lf (.bool (decide (k0 < x.fList.length) && decide (0 ≤ (lft (eSzk x.fList k0) left))))))] [] rfl (fun _ K hD hK => ?_) fun T hT => ?_
  iterate 6 (refine WL.op [] rfl (by simp [hw0] <;> omega) rfl ?_; simp [hw0])
  refine WL.split 13 _ rfl (fun g13 => ?_) fun g13 => ?_ <;> try simp at g13
  · simp [hw0]
    refine WL.opG [] hD 5 13 true rfl rfl (by simp) (by simp [hw0] <;> omega) rfl ?_; simp [hw0]
    refine WL.opG [] hD 5 13 true rfl rfl (by simp) (by simp [hw0] <;> omega) rfl ?_; simp [hw0]
    refine WL.op [] rfl (by simp [hw0] <;> omega) rfl ?_; simp [hw0]
    refine WL.nil (hK _ (Wz.to rfl rfl rfl ?_))
    simp [g13] <;> first | omega | grind
  · simp [hw0]
    refine WL.no2 hD 5 13 true rfl rfl (by simp) (by simp) rfl ?_; simp [hw0]
    refine WL.no2 hD 5 13 true rfl rfl (by simp) (by simp) rfl ?_; simp [hw0]
    refine WL.op [] rfl (by simp [hw0] <;> omega) rfl ?_; simp [hw0]
    refine WL.nil (hK _ (Wz.to rfl rfl rfl ?_))
    simp [g13] <;> first | omega | grind
  simp at hT; subst hT
  refine W.condS _ rfl trivial (fun hb0 => ?_) fun hb0 => ?_ <;> try simp at hb0
  · have hk1 := hb0.1
    have hx := ixNext hk1 (by omega)
    refine W.skip ?_
    refine W.seq ?_
    refine W.block ?_
    apply W.regS; intro _ K hK
    iterate 6 (refine WL.op [] rfl (by simp [hw0, hk1, hx] <;> omega) rfl ?_; simp [hw0, hk1, hx])
    refine WL.call [] _ _ _ rfl rfl (by simp) (g := 215) (caps := []) (by simp) (by simp) (fn := Tryz.f215) ⟨Tryz.func215, rfl, rfl⟩ rfl (by simp [hw0, hk1, hx]) (by simp) (by simp [hw0, hk1, hx]) (hc x.fList[k0] (List.getElem_mem hk1) (lft (eSzk x.fList k0) left) hb0.2 (by unfold lft; split <;> omega) _) rfl ?_; simp [hw0, hk1, hx]
    refine WL.op [] rfl (by simp [hw0, hk1, hx] <;> omega) rfl ?_; simp [hw0, hk1, hx]
    exact WL.nil hK
    apply W.regS; intro _ K hK
    iterate 3 (refine WL.op [] rfl (by simp [hw0, hk1, hx] <;> omega) rfl ?_; simp [hw0, hk1, hx])
    exact WL.nil hK
    refine ⟨hk1, Wz.to rfl rfl rfl ?_⟩
    have hs := lft_lft (b := eSize x.fList[k0]) hb0.2
    rw [← eSzk_nx hk1] at hs
    simp [hs]
  · have hres : lft (eSize x) left = (lft (eSzk x.fList k0) left) := lft_neg3 hk0 hb0
    refine W.exit ?_
    refine W.seq ?_
    apply W.regS; intro _ K hK
    iterate 2 (refine WL.op [] rfl (by simp [hw0] <;> omega) rfl ?_; simp [hw0])
    exact WL.nil hK
    refine W.ret ⟨.inr rfl, ⟨_, rfl⟩, ?_⟩
    simp [Tryz.f215, hres]
end Go.Proofs.YtkmiecgcibjkbaaGreat
namespace Go.Proofs.YtkmiecgcibjkbaaGreat
open Go.RowKit
set_option maxRecDepth 10000
set_option linter.unusedSimpArgs false
set_option maxHeartbeats 4000000
mutual
def eDepth : TSExpr → Nat
  | ⟨a, l⟩ => if a.toList = [] then eDepths l + 1 else 0
def eDepths : List TSExpr → Nat
  | [] => 0
  | x :: l => max (eDepth x) (eDepths l)
end
theorem eDepths_app : ∀ a b : List TSExpr, eDepths (a ++ b) = max (eDepths a) (eDepths b)
  | [], b => by simp [eDepths]
  | x :: a, b => by simp only [List.cons_append, eDepths, eDepths_app a b]; exact (Nat.max_assoc _ _ _).symm
mutual
theorem eDepth_le : ∀ x : TSExpr, eDepth x ≤ 1 + x.sz
  | ⟨_, l⟩ => by simp only [eDepth, TSExpr.sz]; have := eDepths_le l; split <;> omega
theorem eDepths_le : ∀ l : List TSExpr, eDepths l ≤ l.length + TSExpr.szLs l
  | [] => by simp [eDepths, TSExpr.szLs]
  | x :: l => by simp only [eDepths, TSExpr.szLs, List.length_cons]; have := eDepth_le x; have := eDepths_le l; omega
end
def eDpk (l : List TSExpr) (k : Nat) : Nat := eDepths (l.take k)
theorem eDpk_zero (l : List TSExpr) : eDpk l 0 = 0 := rfl
theorem eDepth_atom {x : TSExpr} (h : ¬ x.fAtom.toList = []) : eDepth x = 0 := by cases x; simp only [eDepth]; exact if_neg h
theorem eDpk_full {x : TSExpr} (h : x.fAtom.toList = []) : eDpk x.fList x.fList.length + 1 = eDepth x := by cases x; simp only [eDepth, eDpk, List.take_length]; exact (if_pos h).symm
theorem eDpk_step {l : List TSExpr} {k : Nat} (h : k < l.length) : eDpk l (k + 1) = max (eDpk l k) (eDepth l[k]) := by
  unfold eDpk
  rw [List.take_succ_eq_append_getElem h, eDepths_app]; simp [eDepths]
theorem eDpk_i {l : List TSExpr} {k : Nat} (h : k < l.length) : (if eDpk l k < eDepth l[k] then (eDepth l[k] : Int) else (eDpk l k : Int)) = (eDpk l (k + 1) : Int) := by
  rw [eDpk_step h]; split <;> omega
theorem eDpk_s {l : List TSExpr} {k : Nat} (h : k < l.length) : (if eDepth l[k] < eDpk l k then (eDpk l k : Int) else (eDepth l[k] : Int)) = (eDpk l (k + 1) : Int) := by
  rw [eDpk_step h]; split <;> omega
theorem ieDepth_a (x : TSExpr) (hz : x.sz ≤ 1048576) (hc : ∀ y ∈ x.fList, ∀ h, CS cx.P 224 [.d (y.dd false)] h (.d (.lf (.int .i64 ((eDepth y : Nat) : Int)))) h) (h : HP) : CS cx.P 224 [.d (x.dd false)] h (.d (.lf (.int .i64 ((eDepth x : Nat) : Int)))) h := by
  have hz2 := x.sz_eq; unfold szs at hz2
  have hle := eDepth_le x
  refine CS.run (fn := Tryz.f224) ⟨Tryz.func224, rfl, rfl⟩ _ _ _ _ 23 rfl (by simp) ?_
  refine W.seq ?_
  apply W.regS; intro _ K hK
  iterate 2 (refine WL.op [] rfl (by simp <;> omega) rfl ?_; simp)
  exact WL.nil hK
  refine W.seq ?_
  refine W.seq ?_
  apply W.regS; intro _ K hK
  iterate 3 (refine WL.op [] rfl (by simp <;> omega) rfl ?_; simp)
  exact WL.nil hK
  refine W.condS _ rfl trivial (fun hb0 => ?_) fun hb0 => ?_ <;> try simp at hb0
  · have hres := eDepth_atom hb0
    have hw := hb0
    refine W.seq ?_
    apply W.regS; intro _ K hK
    refine WL.op [] rfl (by simp <;> omega) rfl ?_; simp
    exact WL.nil hK
    refine W.ret ⟨.inr rfl, ⟨_, rfl⟩, ?_⟩
    simp [Tryz.f224, hres, hw]
  · refine W.skip ?_
    refine W.seq ?_
    apply W.regS; intro _ K hK
    refine WL.op [] rfl (by simp <;> omega) rfl ?_; simp
    exact WL.nil hK
    refine W.seq ?_
    refine W.seq ?_
    apply W.regS; intro _ K hK
    iterate 4 (refine WL.op [] rfl (by simp <;> omega) rfl ?_; simp)
    exact WL.nil hK
    refine W.block ?_
    refine W.loopk [10, 11] [] (fun k0 => [(12, .d (.lf (.int .i64 (k0 : Int)))), (3, .d (.lf (.int .i64 ((eDpk x.fList k0 : Nat) : Int))))]) (fun _ => []) x.fList.length rfl (by simp [eDpk_zero]) fun k0 hk0 T hT => ?_
    simp at hT; subst hT
    refine W.seq ?_
    apply W.regS; intro _ K hK
    refine WL.op [] rfl (by simp <;> omega) rfl ?_; simp
    exact WL.nil hK
    refine W.seq ?_
    refine W.condS _ rfl trivial (fun hb1 => ?_) fun hb1 => ?_ <;> try simp at hb1
    · have hx := ixNext hb1 (by omega)
      have hw := eDpk_i hb1
      refine W.skip ?_
      refine W.seq ?_
      refine W.block ?_
      refine W.seq ?_
      apply W.regS; intro _ K hK
      refine WL.op [] rfl (by simp [hb1, hx, hw] <;> omega) rfl ?_; simp [hb1, hx, hw]
      refine WL.op [15] rfl (by simp [hb1, hx, hw] <;> omega) rfl ?_; simp [hb1, hx, hw]
      iterate 2 (refine WL.op [] rfl (by simp [hb1, hx, hw] <;> omega) rfl ?_; simp [hb1, hx, hw])
      exact WL.nil hK
      apply W.regS; intro _ K hK
      iterate 2 (refine WL.op [] rfl (by simp [hb1, hx, hw] <;> omega) rfl ?_; simp [hb1, hx, hw])
      refine WL.call [] _ _ _ rfl rfl (by simp) (g := 224) (caps := []) (by simp) (by simp) (fn := Tryz.f224) ⟨Tryz.func224, rfl, rfl⟩ rfl (by simp [hb1, hx, hw]) (by simp) (by simp [hb1, hx, hw]) (hc x.fList[k0] (List.getElem_mem hb1) _) rfl ?_; simp [hb1, hx, hw]
      iterate 2 (refine WL.op [] rfl (by simp [hb1, hx, hw] <;> omega) rfl ?_; simp [hb1, hx, hw])
      exact WL.nil hK
      apply W.regS; intro _ K hK
      iterate 2 (refine WL.op [] rfl (by simp [hb1, hx, hw] <;> omega) rfl ?_; simp [hb1, hx, hw])
      exact WL.nil hK
      refine ⟨hb1, Wz.to rfl rfl rfl ?_⟩
      simp
    · have hkl : k0 = x.fList.length := by omega
      subst hkl
      have hres := (eDpk_full hb0).symm
      have hw := i64w (n := (eDpk x.fList x.fList.length : Int) + 1) (by omega) (by omega)
      refine W.exit ?_
      refine W.seq ?_
      apply W.regS; intro _ K hK
      iterate 3 (refine WL.op [] rfl (by simp <;> omega) rfl ?_; simp)
      exact WL.nil hK
      refine W.ret ⟨.inr rfl, ⟨_, rfl⟩, ?_⟩
      simp [Tryz.f224, hres, hw]
theorem seDepth_a (x : TSExpr) (hz : x.sz ≤ 1048576) (hc : ∀ y ∈ x.fList, ∀ h, CS cx.P 217 [.d (y.dd false)] h (.d (.lf (.int .i64 ((eDepth y : Nat) : Int)))) h) (h : HP) : CS cx.P 217 [.d (x.dd false)] h (.d (.lf (.int .i64 ((eDepth x : Nat) : Int)))) h := by
  have hz2 := x.sz_eq; unfold szs at hz2
  have hle := eDepth_le x
  refine CS.run (fn := Tryz.f217) ⟨Tryz.func217, rfl, rfl⟩ _ _ _ _ 25 rfl (by simp) ?_
  refine W.seq ?_
  apply W.regS; intro _ K hK
  iterate 2 (refine WL.op [] rfl (by simp <;> omega) rfl ?_; simp)
  exact WL.nil hK
  refine W.seq ?_
  refine W.seq ?_
  apply W.regS; intro _ K hK
  iterate 3 (refine WL.op [] rfl (by simp <;> omega) rfl ?_; simp)
  exact WL.nil hK
  refine W.condS _ rfl trivial (fun hb0 => ?_) fun hb0 => ?_ <;> try simp at hb0
  · have hres := eDepth_atom hb0
    have hw := hb0
    refine W.seq ?_
    apply W.regS; intro _ K hK
    refine WL.op [] rfl (by simp <;> omega) rfl ?_; simp
    exact WL.nil hK
    refine W.ret ⟨.inr rfl, ⟨_, rfl⟩, ?_⟩
    simp [Tryz.f217, hres, hw]
  · refine W.skip ?_
    refine W.seq ?_
    apply W.regS; intro _ K hK
    refine WL.op [] rfl (by simp <;> omega) rfl ?_; simp
    exact WL.nil hK
    refine W.seq ?_
    refine W.seq ?_
    apply W.regS; intro _ K hK
    refine WL.op [] rfl (by simp <;> omega) rfl ?_; simp
    exact WL.nil hK
    refine W.block ?_
    refine W.loopk [1] [1] (fun k0 => [(4, .d (.lf (.int .i64 (k0 : Int)))), (3, .d (.lf (.int .i64 ((eDpk x.fList k0 : Nat) : Int))))]) (fun _ => []) x.fList.length rfl (by simp [eDpk_zero]) fun k0 hk0 T hT => ?_
    simp at hT; subst hT
    refine W.seq ?_
    refine W.seq ?_
    apply W.regS; intro _ K hK
    iterate 5 (refine WL.op [] rfl (by simp <;> omega) rfl ?_; simp)
    exact WL.nil hK
    refine W.condS _ rfl trivial (fun hb1 => ?_) fun hb1 => ?_ <;> try simp at hb1
    · have hx := ixNext hb1 (by omega)
      have hw := eDpk_s hb1
      refine W.skip ?_
      refine W.seq ?_
      refine W.block ?_
      apply W.regS; intro _ K hK
      iterate 6 (refine WL.op [] rfl (by simp [hb1, hx, hw] <;> omega) rfl ?_; simp [hb1, hx, hw])
      refine WL.call [] _ _ _ rfl rfl (by simp) (g := 217) (caps := []) (by simp) (by simp) (fn := Tryz.f217) ⟨Tryz.func217, rfl, rfl⟩ rfl (by simp [hb1, hx, hw]) (by simp) (by simp [hb1, hx, hw]) (hc x.fList[k0] (List.getElem_mem hb1) _) rfl ?_; simp [hb1, hx, hw]
      refine WL.call [] _ _ _ rfl rfl (by simp) (g := 213) (caps := []) (by simp) (by simp) (fn := Tryz.f213) ⟨Tryz.func213, rfl, rfl⟩ rfl (by simp [hb1, hx, hw]) (by simp) (by simp [hb1, hx, hw]) (l1Max_d (eDpk x.fList k0) (eDepth x.fList[k0]) _) rfl ?_; simp [hb1, hx, hw]
      refine WL.op [] rfl (by simp [hb1, hx, hw] <;> omega) rfl ?_; simp [hb1, hx, hw]
      exact WL.nil hK
      apply W.regS; intro _ K hK
      iterate 3 (refine WL.op [] rfl (by simp [hb1, hx, hw] <;> omega) rfl ?_; simp [hb1, hx, hw])
      exact WL.nil hK
      refine ⟨hb1, Wz.to rfl rfl rfl ?_⟩
      simp
    · have hkl : k0 = x.fList.length := by omega
      subst hkl
      have hres := (eDpk_full hb0).symm
      have hw := i64w (n := (eDpk x.fList x.fList.length : Int) + 1) (by omega) (by omega)
      refine W.exit ?_
      refine W.seq ?_
      apply W.regS; intro _ K hK
      iterate 3 (refine WL.op [] rfl (by simp <;> omega) rfl ?_; simp)
      exact WL.nil hK
      refine W.ret ⟨.inr rfl, ⟨_, rfl⟩, ?_⟩
      simp [Tryz.f217, hres, hw]
end Go.Proofs.YtkmiecgcibjkbaaGreat
namespace Go.Proofs.YtkmiecgcibjkbaaGreat
open Go.RowKit Go.Shelf
set_option maxRecDepth 100000
theorem idxByte0 (s : ByteArray) (c : Int) (w : World) : Calls Tryz.prog 265 #[.string s, .int .u8 c] w fun e w' => e = .returned (.int .i64 (Lib.indexByte s.data.toList c.toNat.toUInt8)) ∧ w' = w := by
  go_enter Tryz.func265, Tryz.ntmps265
  go_wp2
  rw [run_callFunc_extern Tryz.func266 (by kernel_rfl) (by kernel_rfl) (by kernel_rfl) (e := Extern.BytealgIndexByte.indexByte) (by kernel_rfl), Lib.run_indexByteString]
  simp only [Result.andThen]
  rw [Oper.upon_value]
  go_wp2
  go_ret
  exact ⟨rfl, rfl⟩
def atS : ByteArray := ⟨#[39, 45, 43, 42, 60, 61, 46]⟩
def ixB (n : Int) : Int := Lib.indexByte atS.data.toList n.toNat.toUInt8
theorem ixB_all : ∀ k : Fin 256, (-1 ≤ ixB (k.val : Int) ∧ ixB (k.val : Int) < 7) ∧ decide (0 ≤ ixB (k.val : Int)) = (decide ((k.val : Int) = 39) || decide ((k.val : Int) = 45) || decide ((k.val : Int) = 43) || decide ((k.val : Int) = 42) || decide ((k.val : Int) = 60) || decide ((k.val : Int) = 61) || decide ((k.val : Int) = 46)) := by decide +kernel
theorem idxByte_d (k : Fin 256) (h : HP) : CS cx.P 265 [.d (.lf (.string atS)), .d (.lf (.int .u8 (k.val : Int)))] h (.d (.lf (.int .i64 (ixB (k.val : Int))))) h := by
  refine CS.ofVal (c := cx) (args := [.lf (.string atS), .lf (.int .u8 (k.val : Int))]) (v := .int .i64 (ixB (k.val : Int))) (fun w F => ⟨?_, rfl⟩) (fun w vs ⟨F, _, hl, hv⟩ => ?_) h
  · have := (ixB_all k).1
    simp only [rp, okLeaf, i64mn, i64mx]
    exact ⟨trivial, by omega, trivial⟩
  · obtain ⟨c0, h0, e0⟩ := hv 0 _ rfl
    obtain ⟨c1, h1, e1⟩ := hv 1 _ rfl
    simp only [DD.vw, rp] at h0 h1
    obtain ⟨rfl, -⟩ := h0
    obtain ⟨rfl, -⟩ := h1
    match vs, hl, e0, e1 with
    | [a, b], _, e0, e1 =>
      simp [DD.mk] at e0 e1
      subst e0; subst e1
      refine (idxByte0 atS (k.val : Int) w).mono fun e w' ⟨h1, h2⟩ => ⟨h1, ?_⟩
      subst h2; exact Below.refl _ _
end Go.Proofs.YtkmiecgcibjkbaaGreat
namespace Go.Proofs.YtkmiecgcibjkbaaGreat
open Go.RowKit
set_option maxRecDepth 10000
set_option linter.unusedSimpArgs false
set_option maxHeartbeats 4000000
theorem strIdx_d (k : Fin 256) (h : HP) : CS cx.P 264 [.d (.lf (.string atS)), .d (.lf (.int .u8 (k.val : Int)))] h (.d (.lf (.int .i64 (ixB (k.val : Int))))) h := by
  refine CS.run (fn := Tryz.f264) ⟨Tryz.func264, rfl, rfl⟩ _ _ _ _ 8 rfl (by simp) ?_
  refine W.seq ?_
  apply W.regS; intro _ K hK
  refine WL.op [] rfl (by simp <;> omega) rfl ?_; simp
  exact WL.nil hK
  refine W.seq ?_
  apply W.regS; intro _ K hK
  iterate 2 (refine WL.op [] rfl (by simp <;> omega) rfl ?_; simp)
  refine WL.call [] _ _ _ rfl rfl (by simp) (g := 265) (caps := []) (by simp) (by simp) (fn := Tryz.f265) ⟨Tryz.func265, rfl, rfl⟩ rfl (by simp) (by simp) (by simp) (idxByte_d k _) rfl ?_; simp
  refine WL.op [] rfl (by simp <;> omega) rfl ?_; simp
  exact WL.nil hK
  refine W.ret ⟨.inr rfl, ⟨_, rfl⟩, ?_⟩
  simp [Tryz.f264]
theorem isAtomByte_d (k : Fin 256) (h : HP) : CS cx.P 258 [.d (.lf (.int .u8 (k.val : Int)))] h (.d (.lf (.bool (atB (k.val : Int))))) h := by
  have hi := (ixB_all k).2
  refine CS.run (fn := Tryz.f258) ⟨Tryz.func258, rfl, rfl⟩ _ _ _ _ 14 rfl (by simp) ?_
  refine W.seq ?_
  apply W.regS; intro _ K hK
  refine WL.op [] rfl (by simp [atS] <;> omega) rfl ?_; simp [atS]
  exact WL.nil hK
  refine W.seq ?_
  refine W.regJ0 (D := [some 3, some 4, some 5, some 6, some 7, some 8, some 9, some 10, some 11, some 12, some 13, some 2]) rfl fun _ K hD hK => ?_
  refine WL.op [] rfl (by simp [atS] <;> omega) rfl ?_; simp [atS]
  refine WL.call [] _ _ _ rfl rfl (by simp) (g := 229) (caps := []) (by simp) (by simp) (fn := Tryz.f229) ⟨Tryz.func229, rfl, rfl⟩ rfl (by simp [atS]) (by simp) (by simp [atS]) (isLower_d (k.val : Int) _) rfl ?_; simp [atS]
  refine WL.op [] rfl (by simp [atS] <;> omega) rfl ?_; simp [atS]
  refine WL.split 5 _ rfl (fun g5 => ?_) fun g5 => ?_ <;> try simp at g5
  · simp [atS]
    refine WL.no2 hD 2 5 false rfl rfl (by simp) (by simp) rfl ?_; simp [atS]
    refine WL.no2 hD 2 5 false rfl rfl (by simp) (by simp) rfl ?_; simp [atS]
    iterate 2 (refine WL.op [] rfl (by simp [atS] <;> omega) rfl ?_; simp [atS])
    refine WL.no2 hD 6 9 false rfl rfl (by simp) (by simp) rfl ?_; simp [atS]
    refine WL.no2 hD 6 9 false rfl rfl (by simp) (by simp) rfl ?_; simp [atS]
    refine WL.no2 hD 6 9 false rfl rfl (by simp) (by simp) rfl ?_; simp [atS]
    iterate 2 (refine WL.op [] rfl (by simp [atS] <;> omega) rfl ?_; simp [atS])
    refine WL.nil (hK _ ?_)
    refine W.ret ⟨.inr rfl, ⟨_, rfl⟩, ?_⟩
    simp [Tryz.f258, atB, hi, g5]
  · simp [atS]
    refine WL.opG [] hD 2 5 false rfl rfl (by simp) (by simp [atS] <;> omega) rfl ?_; simp [atS]
    refine WL.callG hD 2 5 false rfl rfl (by simp) [] _ _ _ rfl (by simp) (g := 228) (caps := []) (by simp) (by simp) (fn := Tryz.f228) ⟨Tryz.func228, rfl, rfl⟩ rfl (by simp [atS]) (by simp) (by simp [atS]) (isDigit_d (k.val : Int) _) rfl ?_; simp [atS]
    iterate 2 (refine WL.op [] rfl (by simp [atS] <;> omega) rfl ?_; simp [atS])
    refine WL.split 9 _ rfl (fun g9 => ?_) fun g9 => ?_ <;> try simp at g9
    · simp [atS]
      refine WL.no2 hD 6 9 false rfl rfl (by simp) (by simp) rfl ?_; simp [atS]
      refine WL.no2 hD 6 9 false rfl rfl (by simp) (by simp) rfl ?_; simp [atS]
      refine WL.no2 hD 6 9 false rfl rfl (by simp) (by simp) rfl ?_; simp [atS]
      iterate 2 (refine WL.op [] rfl (by simp [atS] <;> omega) rfl ?_; simp [atS])
      refine WL.nil (hK _ ?_)
      refine W.ret ⟨.inr rfl, ⟨_, rfl⟩, ?_⟩
      simp [Tryz.f258, atB, hi, g5, g9]
    · simp [atS]
      refine WL.opG [] hD 6 9 false rfl rfl (by simp) (by simp [atS] <;> omega) rfl ?_; simp [atS]
      refine WL.callG hD 6 9 false rfl rfl (by simp) [] _ _ _ rfl (by simp) (g := 264) (caps := []) (by simp) (by simp) (fn := Tryz.f264) ⟨Tryz.func264, rfl, rfl⟩ rfl (by simp [atS]) (by simp) (by simp [atS]) (strIdx_d k _) rfl ?_; simp [atS]
      refine WL.opG [] hD 6 9 false rfl rfl (by simp) (by simp [atS] <;> omega) rfl ?_; simp [atS]
      iterate 2 (refine WL.op [] rfl (by simp [atS] <;> omega) rfl ?_; simp [atS])
      refine WL.nil (hK _ ?_)
      refine W.ret ⟨.inr rfl, ⟨_, rfl⟩, ?_⟩
      simp [Tryz.f258, atB, hi, g5, g9]
theorem iAtom_d (s : ByteArray) (hs : s.size ≤ 1048576) (h : HP) : CS cx.P 246 [.d (.lf (.string s))] h (.d (.lf (.bool (isAt s)))) h := by
  refine CS.run (fn := Tryz.f246) ⟨Tryz.func246, rfl, rfl⟩ _ _ _ _ 23 rfl (by simp) ?_
  refine W.seq ?_
  apply W.regS; intro _ K hK
  refine WL.op [] rfl (by simp <;> omega) rfl ?_; simp
  exact WL.nil hK
  refine W.seq ?_
  refine W.seq ?_
  apply W.regS; intro _ K hK
  iterate 3 (refine WL.op [] rfl (by simp <;> omega) rfl ?_; simp)
  exact WL.nil hK
  refine W.block ?_
  refine W.loopI [0, 5] [] (fun k0 => [(6, .d (.lf (.int .i64 (k0 : Int))))]) (fun _ => []) s.size (fun k0 => ∀ j, j < k0 → (fun i => atB (bt s i)) j = true) rfl (by simp) (by simp) fun k0 hk0 hi0 T hT => ?_
  simp at hT; subst hT
  refine W.seq ?_
  apply W.regS; intro _ K hK
  refine WL.op [] rfl (by simp <;> omega) rfl ?_; simp
  exact WL.nil hK
  refine W.seq ?_
  refine W.condS _ rfl trivial (fun hb0 => ?_) fun hb0 => ?_ <;> try simp at hb0
  · have hx := ixNext hb0 (by omega)
    refine W.skip ?_
    refine W.seq ?_
    refine W.block ?_
    refine W.seq ?_
    apply W.regS; intro _ K hK
    iterate 2 (refine WL.op [] rfl (by simp [hb0, hx] <;> omega) rfl ?_; simp [hb0, hx])
    exact WL.nil hK
    refine W.seq ?_
    apply W.regS; intro _ K hK
    iterate 3 (refine WL.op [] rfl (by simp [hb0, hx] <;> omega) rfl ?_; simp [hb0, hx])
    refine WL.call [] _ _ _ rfl rfl (by simp) (g := 258) (caps := []) (by simp) (by simp) (fn := Tryz.f258) ⟨Tryz.func258, rfl, rfl⟩ rfl (by simp [hb0, hx]) (by simp) (by simp [hb0, hx]) (isAtomByte_d ⟨bt s k0, bt_lt s k0⟩ _) rfl ?_; simp [hb0, hx]
    refine WL.op [] rfl (by simp [hb0, hx] <;> omega) rfl ?_; simp [hb0, hx]
    exact WL.nil hK
    refine W.condS _ rfl trivial (fun hb1 => ?_) fun hb1 => ?_ <;> try simp at hb1
    · have hall := allB_false (n := s.size) (p := fun i => atB (bt s i)) hb0 (by simpa using hb1)
      refine W.seq ?_
      apply W.regS; intro _ K hK
      refine WL.op [] rfl (by simp [hb0, hx] <;> omega) rfl ?_; simp [hb0, hx]
      exact WL.nil hK
      refine W.ret ⟨.inr rfl, ⟨_, rfl⟩, ?_⟩
      simp [Tryz.f246, isAt, within, hall] <;> omega
    · refine W.skip ?_
      apply W.regS; intro _ K hK
      iterate 2 (refine WL.op [] rfl (by simp [hb0, hx] <;> omega) rfl ?_; simp [hb0, hx])
      exact WL.nil hK
      refine ⟨hb0, step_all hi0 (by simpa using hb1), Wz.to rfl rfl rfl ?_⟩
      simp
  · have hkl : k0 = s.size := by omega
    subst hkl
    have hall := allB_true hi0
    refine W.exit ?_
    refine W.seq ?_
    refine W.regJ0 (D := [some 15, some 16, some 17, some 18, some 19, some 20, some 21, some 22, some 2]) rfl fun _ K hD hK => ?_
    iterate 4 (refine WL.op [] rfl (by simp <;> omega) rfl ?_; simp)
    refine WL.split 18 _ rfl (fun g18 => ?_) fun g18 => ?_ <;> try simp at g18
    · simp
      refine WL.opG [] hD 3 18 true rfl rfl (by simp) (by simp <;> omega) rfl ?_; simp
      refine WL.opG [] hD 3 18 true rfl rfl (by simp) (by simp <;> omega) rfl ?_; simp
      refine WL.opG [] hD 3 18 true rfl rfl (by simp) (by simp <;> omega) rfl ?_; simp
      iterate 2 (refine WL.op [] rfl (by simp <;> omega) rfl ?_; simp)
      refine WL.nil (hK _ ?_)
      refine W.ret ⟨.inr rfl, ⟨_, rfl⟩, ?_⟩
      simp [Tryz.f246, isAt, within, hall, g18] <;> omega
    · simp
      refine WL.no2 hD 3 18 true rfl rfl (by simp) (by simp) rfl ?_; simp
      refine WL.no2 hD 3 18 true rfl rfl (by simp) (by simp) rfl ?_; simp
      refine WL.no2 hD 3 18 true rfl rfl (by simp) (by simp) rfl ?_; simp
      iterate 2 (refine WL.op [] rfl (by simp <;> omega) rfl ?_; simp)
      refine WL.nil (hK _ ?_)
      refine W.ret ⟨.inr rfl, ⟨_, rfl⟩, ?_⟩
      simp [Tryz.f246, isAt, within, hall, g18] <;> omega
end Go.Proofs.YtkmiecgcibjkbaaGreat
namespace Go.Proofs.YtkmiecgcibjkbaaGreat
open Go.RowKit
set_option maxRecDepth 10000
set_option linter.unusedSimpArgs false
set_option maxHeartbeats 4000000
mutual
def eForm : TSExpr → Bool
  | ⟨a, l⟩ => if a.toList = [] then eForms l else isAt a && decide (l = [])
def eForms : List TSExpr → Bool
  | [] => true
  | x :: l => eForm x && eForms l
end
theorem eForms_any : ∀ l : List TSExpr, eForms l = !(l.any fun y => !eForm y)
  | [] => rfl
  | x :: l => by simp only [eForms, eForms_any l, List.any_cons, Bool.not_or, Bool.not_not]
theorem eForm_atom {x : TSExpr} (h : ¬ x.fAtom.toList = []) : eForm x = (isAt x.fAtom && decide (x.fList = [])) := by cases x; simp only [eForm]; exact if_neg h
theorem eForm_list {x : TSExpr} (h : x.fAtom.toList = []) : eForm x = !(x.fList.any fun y => !eForm y) := by rw [← eForms_any]; cases x; simp only [eForm]; exact if_pos h
theorem atomsClo_d (y : TSExpr) (hy : ∀ h, CS cx.P 223 [.d (y.dd false)] h (.d (.lf (.bool (eForm y)))) h) (h : HP) : CS cx.P 248 [.d (y.dd false)] h (.d (.lf (.bool (!eForm y)))) h := by
  refine CS.run (fn := Tryz.f248) ⟨Tryz.func248, rfl, rfl⟩ _ _ _ _ 6 rfl (by simp) ?_
  refine W.seq ?_
  apply W.regS; intro _ K hK
  iterate 2 (refine WL.op [] rfl (by simp <;> omega) rfl ?_; simp)
  exact WL.nil hK
  refine W.seq ?_
  apply W.regS; intro _ K hK
  refine WL.op [] rfl (by simp <;> omega) rfl ?_; simp
  refine WL.call [] _ _ _ rfl rfl (by simp) (g := 223) (caps := []) (by simp) (by simp) (fn := Tryz.f223) ⟨Tryz.func223, rfl, rfl⟩ rfl (by simp) (by simp) (by simp) (hy _) rfl ?_; simp
  iterate 2 (refine WL.op [] rfl (by simp <;> omega) rfl ?_; simp)
  exact WL.nil hK
  refine W.ret ⟨.inr rfl, ⟨_, rfl⟩, ?_⟩
  simp [Tryz.f248]
theorem areAtoms_a (x : TSExpr) (hz : x.sz ≤ 1048576) (hc : ∀ y ∈ x.fList, ∀ h, CS cx.P 223 [.d (y.dd false)] h (.d (.lf (.bool (eForm y)))) h) (h : HP) : CS cx.P 223 [.d (x.dd false)] h (.d (.lf (.bool (eForm x)))) h := by
  have hz2 := x.sz_eq; unfold szs at hz2
  refine CS.run (fn := Tryz.f223) ⟨Tryz.func223, rfl, rfl⟩ _ _ _ _ 19 rfl (by simp) ?_
  refine W.seq ?_
  apply W.regS; intro _ K hK
  iterate 2 (refine WL.op [] rfl (by simp <;> omega) rfl ?_; simp)
  exact WL.nil hK
  refine W.seq ?_
  refine W.seq ?_
  apply W.regS; intro _ K hK
  iterate 3 (refine WL.op [] rfl (by simp <;> omega) rfl ?_; simp)
  exact WL.nil hK
  refine W.condS _ rfl trivial (fun hb0 => ?_) fun hb0 => ?_ <;> try simp at hb0
  · have hres := eForm_atom hb0
    refine W.seq ?_
    refine W.regJ0 (D := [some 6, some 7, some 8, some 9, some 10, some 11, some 12, some 13, some 14, some 2]) rfl fun _ K hD hK => ?_
    iterate 2 (refine WL.op [] rfl (by simp <;> omega) rfl ?_; simp)
    refine WL.call [] _ _ _ rfl rfl (by simp) (g := 246) (caps := []) (by simp) (by simp) (fn := Tryz.f246) ⟨Tryz.func246, rfl, rfl⟩ rfl (by simp) (by simp) (by simp) (iAtom_d x.fAtom (by omega) _) rfl ?_; simp
    refine WL.op [] rfl (by simp <;> omega) rfl ?_; simp
    refine WL.split 9 _ rfl (fun g9 => ?_) fun g9 => ?_ <;> try simp at g9
    · simp
      refine WL.opG [] hD 3 9 true rfl rfl (by simp) (by simp <;> omega) rfl ?_; simp
      refine WL.opG [] hD 3 9 true rfl rfl (by simp) (by simp <;> omega) rfl ?_; simp
      refine WL.opG [] hD 3 9 true rfl rfl (by simp) (by simp <;> omega) rfl ?_; simp
      refine WL.opG [] hD 3 9 true rfl rfl (by simp) (by simp <;> omega) rfl ?_; simp
      iterate 2 (refine WL.op [] rfl (by simp <;> omega) rfl ?_; simp)
      refine WL.nil (hK _ ?_)
      refine W.ret ⟨.inr rfl, ⟨_, rfl⟩, ?_⟩
      simp [Tryz.f223, hres, g9]
    · simp
      refine WL.no2 hD 3 9 true rfl rfl (by simp) (by simp) rfl ?_; simp
      refine WL.no2 hD 3 9 true rfl rfl (by simp) (by simp) rfl ?_; simp
      refine WL.no2 hD 3 9 true rfl rfl (by simp) (by simp) rfl ?_; simp
      refine WL.no2 hD 3 9 true rfl rfl (by simp) (by simp) rfl ?_; simp
      iterate 2 (refine WL.op [] rfl (by simp <;> omega) rfl ?_; simp)
      refine WL.nil (hK _ ?_)
      refine W.ret ⟨.inr rfl, ⟨_, rfl⟩, ?_⟩
      simp [Tryz.f223, hres, g9]
  · have hres := eForm_list hb0
    refine W.skip ?_
    refine W.seq ?_
    apply W.regS; intro _ K hK
    iterate 2 (refine WL.op [] rfl (by simp <;> omega) rfl ?_; simp)
    refine WL.call [] _ _ _ rfl rfl (by simp) (g := 247) (caps := []) (by simp) (by simp) (fn := Tryz.f247) ⟨Tryz.func247, rfl, rfl⟩ rfl (by simp) (by simp) (by simp) (ContainsFuncSExpr_d x.fList (by omega) 248 Tryz.f248 _ ⟨Tryz.func248, rfl, rfl⟩ (fun y => !eForm y) (fun y hy h => atomsClo_d y (hc y hy) h) _) rfl ?_; simp
    iterate 2 (refine WL.op [] rfl (by simp <;> omega) rfl ?_; simp)
    exact WL.nil hK
    refine W.ret ⟨.inr rfl, ⟨_, rfl⟩, ?_⟩
    simp [Tryz.f223, hres]
end Go.Proofs.YtkmiecgcibjkbaaGreat
namespace Go.Proofs.YtkmiecgcibjkbaaGreat
open Go.RowKit
set_option maxRecDepth 10000
set_option linter.unusedSimpArgs false
set_option maxHeartbeats 4000000
theorem eForm_bad {x : TSExpr} {k : Nat} (h : x.fAtom.toList = []) (hk : k < x.fList.length) (e : eForm x.fList[k] = false) : eForm x = false := by
  rw [eForm_list h]
  have : (x.fList.any fun y => !eForm y) = true := List.any_eq_true.2 ⟨x.fList[k], List.getElem_mem hk, by simp [e]⟩
  rw [this]; rfl
theorem eForm_good {x : TSExpr} (h : x.fAtom.toList = []) (e : ∀ j, j < x.fList.length → ∀ y, x.fList[j]? = some y → (fun y => !eForm y) y = false) : eForm x = true := by
  rw [eForm_list h]
  have : (x.fList.any fun y => !eForm y) = false := by
    rw [List.any_eq_false]
    intro y hy
    obtain ⟨j, hj⟩ := List.mem_iff_getElem?.1 hy
    have := e j (List.getElem?_eq_some_iff.1 hj).1 y hj
    simpa using this
  rw [this]; rfl
theorem l2Form_a (x : TSExpr) (hz : x.sz ≤ 1048576) (hc : ∀ y ∈ x.fList, ∀ h, CS cx.P 216 [.d (y.dd false)] h (.d (.lf (.bool (eForm y)))) h) (h : HP) : CS cx.P 216 [.d (x.dd false)] h (.d (.lf (.bool (eForm x)))) h := by
  have hz2 := x.sz_eq; unfold szs at hz2
  refine CS.run (fn := Tryz.f216) ⟨Tryz.func216, rfl, rfl⟩ _ _ _ _ 30 rfl (by simp) ?_
  refine W.seq ?_
  apply W.regS; intro _ K hK
  iterate 2 (refine WL.op [] rfl (by simp <;> omega) rfl ?_; simp)
  exact WL.nil hK
  refine W.seq ?_
  refine W.seq ?_
  apply W.regS; intro _ K hK
  iterate 3 (refine WL.op [] rfl (by simp <;> omega) rfl ?_; simp)
  exact WL.nil hK
  refine W.condS _ rfl trivial (fun hb0 => ?_) fun hb0 => ?_ <;> try simp at hb0
  · have hres := eForm_atom hb0
    refine W.seq ?_
    refine W.regJ0 (D := [some 7, some 8, some 9, some 10, some 11, some 12, some 13, some 14, some 15, some 2]) rfl fun _ K hD hK => ?_
    iterate 2 (refine WL.op [] rfl (by simp <;> omega) rfl ?_; simp)
    refine WL.call [] _ _ _ rfl rfl (by simp) (g := 243) (caps := []) (by simp) (by simp) (fn := Tryz.f243) ⟨Tryz.func243, rfl, rfl⟩ rfl (by simp) (by simp) (by simp) (sAtom_d x.fAtom (by omega) _) rfl ?_; simp
    refine WL.op [] rfl (by simp <;> omega) rfl ?_; simp
    refine WL.split 10 _ rfl (fun g10 => ?_) fun g10 => ?_ <;> try simp at g10
    · simp
      refine WL.opG [] hD 3 10 true rfl rfl (by simp) (by simp <;> omega) rfl ?_; simp
      refine WL.opG [] hD 3 10 true rfl rfl (by simp) (by simp <;> omega) rfl ?_; simp
      refine WL.opG [] hD 3 10 true rfl rfl (by simp) (by simp <;> omega) rfl ?_; simp
      refine WL.opG [] hD 3 10 true rfl rfl (by simp) (by simp <;> omega) rfl ?_; simp
      iterate 2 (refine WL.op [] rfl (by simp <;> omega) rfl ?_; simp)
      refine WL.nil (hK _ ?_)
      refine W.ret ⟨.inr rfl, ⟨_, rfl⟩, ?_⟩
      simp [Tryz.f216, hres, g10]
    · simp
      refine WL.no2 hD 3 10 true rfl rfl (by simp) (by simp) rfl ?_; simp
      refine WL.no2 hD 3 10 true rfl rfl (by simp) (by simp) rfl ?_; simp
      refine WL.no2 hD 3 10 true rfl rfl (by simp) (by simp) rfl ?_; simp
      refine WL.no2 hD 3 10 true rfl rfl (by simp) (by simp) rfl ?_; simp
      iterate 2 (refine WL.op [] rfl (by simp <;> omega) rfl ?_; simp)
      refine WL.nil (hK _ ?_)
      refine W.ret ⟨.inr rfl, ⟨_, rfl⟩, ?_⟩
      simp [Tryz.f216, hres, g10]
  · refine W.skip ?_
    refine W.seq ?_
    refine W.seq ?_
    apply W.regS; intro _ K hK
    refine WL.op [] rfl (by simp <;> omega) rfl ?_; simp
    exact WL.nil hK
    refine W.block ?_
    refine W.loopI [1] [1] (fun k0 => [(3, .d (.lf (.int .i64 (k0 : Int))))]) (fun _ => []) x.fList.length (fun k0 => ∀ j, j < k0 → ∀ y, x.fList[j]? = some y → (fun y => !eForm y) y = false) rfl (by simp) (by simp) fun k0 hk0 hi0 T hT => ?_
    simp at hT; subst hT
    refine W.seq ?_
    refine W.seq ?_
    apply W.regS; intro _ K hK
    iterate 5 (refine WL.op [] rfl (by simp <;> omega) rfl ?_; simp)
    exact WL.nil hK
    refine W.condS _ rfl trivial (fun hb1 => ?_) fun hb1 => ?_ <;> try simp at hb1
    · have hx := ixNext hb1 (by omega)
      refine W.skip ?_
      refine W.seq ?_
      refine W.block ?_
      refine W.seq ?_
      apply W.regS; intro _ K hK
      iterate 5 (refine WL.op [] rfl (by simp [hb1, hx] <;> omega) rfl ?_; simp [hb1, hx])
      refine WL.call [] _ _ _ rfl rfl (by simp) (g := 216) (caps := []) (by simp) (by simp) (fn := Tryz.f216) ⟨Tryz.func216, rfl, rfl⟩ rfl (by simp [hb1, hx]) (by simp) (by simp [hb1, hx]) (hc x.fList[k0] (List.getElem_mem hb1) _) rfl ?_; simp [hb1, hx]
      refine WL.op [] rfl (by simp [hb1, hx] <;> omega) rfl ?_; simp [hb1, hx]
      exact WL.nil hK
      refine W.condS _ rfl trivial (fun hb2 => ?_) fun hb2 => ?_ <;> try simp at hb2
      · have hres := eForm_bad hb0 hb1 (by simpa using hb2)
        refine W.seq ?_
        apply W.regS; intro _ K hK
        refine WL.op [] rfl (by simp [hb1, hx] <;> omega) rfl ?_; simp [hb1, hx]
        exact WL.nil hK
        refine W.ret ⟨.inr rfl, ⟨_, rfl⟩, ?_⟩
        simp [Tryz.f216, hres]
      · refine W.skip ?_
        apply W.regS; intro _ K hK
        iterate 3 (refine WL.op [] rfl (by simp [hb1, hx] <;> omega) rfl ?_; simp [hb1, hx])
        exact WL.nil hK
        refine ⟨hb1, noP_step (p := fun y => !eForm y) hi0 hb1 (by simpa using hb2), Wz.to rfl rfl rfl ?_⟩
        simp
    · have hkl : k0 = x.fList.length := by omega
      subst hkl
      have hres := eForm_good hb0 hi0
      refine W.exit ?_
      refine W.seq ?_
      apply W.regS; intro _ K hK
      refine WL.op [] rfl (by simp <;> omega) rfl ?_; simp
      exact WL.nil hK
      refine W.ret ⟨.inr rfl, ⟨_, rfl⟩, ?_⟩
      simp [Tryz.f216, hres]
end Go.Proofs.YtkmiecgcibjkbaaGreat
namespace Go.Proofs.YtkmiecgcibjkbaaGreat
open Go.RowKit
set_option maxRecDepth 10000
set_option linter.unusedSimpArgs false
set_option maxHeartbeats 4000000
theorem eSizeI_d (x : TSExpr) (hz : x.sz ≤ 1048576) (h : HP) : CS cx.P 225 [.d (x.dd false)] h (.d (.lf (.int .i64 ((eSize x : Nat) : Int)))) h := eSizeI_a x hz (fun y hy h => eSizeI_d y (by have h1 := szL_le TSExpr.sz hy; have h2 := x.sz_eq; unfold szs at h2; omega) h) h
termination_by SizeOf.sizeOf x
decreasing_by have := List.sizeOf_lt_of_mem hy; have := x.lt_fList; omega
theorem ieDepth_d (x : TSExpr) (hz : x.sz ≤ 1048576) (h : HP) : CS cx.P 224 [.d (x.dd false)] h (.d (.lf (.int .i64 ((eDepth x : Nat) : Int)))) h := ieDepth_a x hz (fun y hy h => ieDepth_d y (by have h1 := szL_le TSExpr.sz hy; have h2 := x.sz_eq; unfold szs at h2; omega) h) h
termination_by SizeOf.sizeOf x
decreasing_by have := List.sizeOf_lt_of_mem hy; have := x.lt_fList; omega
theorem seDepth_d (x : TSExpr) (hz : x.sz ≤ 1048576) (h : HP) : CS cx.P 217 [.d (x.dd false)] h (.d (.lf (.int .i64 ((eDepth x : Nat) : Int)))) h := seDepth_a x hz (fun y hy h => seDepth_d y (by have h1 := szL_le TSExpr.sz hy; have h2 := x.sz_eq; unfold szs at h2; omega) h) h
termination_by SizeOf.sizeOf x
decreasing_by have := List.sizeOf_lt_of_mem hy; have := x.lt_fList; omega
theorem areAtoms_d (x : TSExpr) (hz : x.sz ≤ 1048576) (h : HP) : CS cx.P 223 [.d (x.dd false)] h (.d (.lf (.bool (eForm x)))) h := areAtoms_a x hz (fun y hy h => areAtoms_d y (by have h1 := szL_le TSExpr.sz hy; have h2 := x.sz_eq; unfold szs at h2; omega) h) h
termination_by SizeOf.sizeOf x
decreasing_by have := List.sizeOf_lt_of_mem hy; have := x.lt_fList; omega
theorem l2Form_d (x : TSExpr) (hz : x.sz ≤ 1048576) (h : HP) : CS cx.P 216 [.d (x.dd false)] h (.d (.lf (.bool (eForm x)))) h := l2Form_a x hz (fun y hy h => l2Form_d y (by have h1 := szL_le TSExpr.sz hy; have h2 := x.sz_eq; unfold szs at h2; omega) h) h
termination_by SizeOf.sizeOf x
decreasing_by have := List.sizeOf_lt_of_mem hy; have := x.lt_fList; omega
theorem eLeft_d (x : TSExpr) (left : Int) (h0 : 0 ≤ left) (h1 : left ≤ 1048576) (hz : x.sz ≤ 1048576) (h : HP) : CS cx.P 215 [.d (x.dd false), .d (.lf (.int .i64 (left)))] h (.d (.lf (.int .i64 (lft (eSize x) left)))) h := eLeft_a x left h0 h1 hz (fun y hy left h0 h1 h => eLeft_d y left h0 h1 (by have h1 := szL_le TSExpr.sz hy; have h2 := x.sz_eq; unfold szs at h2; omega) h) h
termination_by SizeOf.sizeOf x
decreasing_by have := List.sizeOf_lt_of_mem hy; have := x.lt_fList; omega
def eValid (x : TSExpr) : Bool := eForm x && decide (eDepth x ≤ 14) && decide (eSize x ≤ 900)
theorem iValidE_d (x : TSExpr) (hz : x.sz ≤ 1048576) (h : HP) : CS cx.P 183 [.d (x.dd false)] h (.d (.lf (.bool (eValid x)))) h := by
  refine CS.run (fn := Tryz.f183) ⟨Tryz.func183, rfl, rfl⟩ _ _ _ _ 15 rfl (by simp) ?_
  refine W.seq ?_
  apply W.regS; intro _ K hK
  iterate 2 (refine WL.op [] rfl (by simp <;> omega) rfl ?_; simp)
  exact WL.nil hK
  refine W.seq ?_
  refine W.regJ0 (D := [some 3, some 4, some 5, some 6, some 7, some 8, some 9, some 10, some 11, some 12, some 13, some 14, some 2]) rfl fun _ K hD hK => ?_
  refine WL.op [] rfl (by simp <;> omega) rfl ?_; simp
  refine WL.call [] _ _ _ rfl rfl (by simp) (g := 223) (caps := []) (by simp) (by simp) (fn := Tryz.f223) ⟨Tryz.func223, rfl, rfl⟩ rfl (by simp) (by simp) (by simp) (areAtoms_d x hz _) rfl ?_; simp
  refine WL.op [] rfl (by simp <;> omega) rfl ?_; simp
  refine WL.split 5 _ rfl (fun g5 => ?_) fun g5 => ?_ <;> try simp at g5
  · simp
    refine WL.opG [] hD 2 5 true rfl rfl (by simp) (by simp <;> omega) rfl ?_; simp
    refine WL.callG hD 2 5 true rfl rfl (by simp) [] _ _ _ rfl (by simp) (g := 224) (caps := []) (by simp) (by simp) (fn := Tryz.f224) ⟨Tryz.func224, rfl, rfl⟩ rfl (by simp) (by simp) (by simp) (ieDepth_d x hz _) rfl ?_; simp
    refine WL.opG [] hD 2 5 true rfl rfl (by simp) (by simp <;> omega) rfl ?_; simp
    iterate 2 (refine WL.op [] rfl (by simp <;> omega) rfl ?_; simp)
    refine WL.split 10 _ rfl (fun g10 => ?_) fun g10 => ?_ <;> try simp at g10
    · simp
      refine WL.opG [] hD 7 10 true rfl rfl (by simp) (by simp <;> omega) rfl ?_; simp
      refine WL.callG hD 7 10 true rfl rfl (by simp) [] _ _ _ rfl (by simp) (g := 225) (caps := []) (by simp) (by simp) (fn := Tryz.f225) ⟨Tryz.func225, rfl, rfl⟩ rfl (by simp) (by simp) (by simp) (eSizeI_d x hz _) rfl ?_; simp
      refine WL.opG [] hD 7 10 true rfl rfl (by simp) (by simp <;> omega) rfl ?_; simp
      iterate 2 (refine WL.op [] rfl (by simp <;> omega) rfl ?_; simp)
      refine WL.nil (hK _ ?_)
      refine W.ret ⟨.inr rfl, ⟨_, rfl⟩, ?_⟩
      simp [Tryz.f183, eValid, g5, g10] <;> first | omega | grind
    · simp
      refine WL.no2 hD 7 10 true rfl rfl (by simp) (by simp) rfl ?_; simp
      refine WL.no2 hD 7 10 true rfl rfl (by simp) (by simp) rfl ?_; simp
      refine WL.no2 hD 7 10 true rfl rfl (by simp) (by simp) rfl ?_; simp
      iterate 2 (refine WL.op [] rfl (by simp <;> omega) rfl ?_; simp)
      refine WL.nil (hK _ ?_)
      refine W.ret ⟨.inr rfl, ⟨_, rfl⟩, ?_⟩
      simp [Tryz.f183, eValid, g5, g10] <;> first | omega | grind
  · simp
    refine WL.no2 hD 2 5 true rfl rfl (by simp) (by simp) rfl ?_; simp
    refine WL.no2 hD 2 5 true rfl rfl (by simp) (by simp) rfl ?_; simp
    refine WL.no2 hD 2 5 true rfl rfl (by simp) (by simp) rfl ?_; simp
    iterate 2 (refine WL.op [] rfl (by simp <;> omega) rfl ?_; simp)
    refine WL.no2 hD 7 10 true rfl rfl (by simp) (by simp) rfl ?_; simp
    refine WL.no2 hD 7 10 true rfl rfl (by simp) (by simp) rfl ?_; simp
    refine WL.no2 hD 7 10 true rfl rfl (by simp) (by simp) rfl ?_; simp
    iterate 2 (refine WL.op [] rfl (by simp <;> omega) rfl ?_; simp)
    refine WL.nil (hK _ ?_)
    refine W.ret ⟨.inr rfl, ⟨_, rfl⟩, ?_⟩
    simp [Tryz.f183, eValid, g5] <;> first | omega | grind
theorem sValidE_d (x : TSExpr) (hz : x.sz ≤ 1048576) (h : HP) : CS cx.P 174 [.d (x.dd false)] h (.d (.lf (.bool (eValid x)))) h := by
  have hk := lft_ok (eSize x) 900 (by omega)
  refine CS.run (fn := Tryz.f174) ⟨Tryz.func174, rfl, rfl⟩ _ _ _ _ 15 rfl (by simp) ?_
  refine W.seq ?_
  apply W.regS; intro _ K hK
  iterate 2 (refine WL.op [] rfl (by simp <;> omega) rfl ?_; simp)
  exact WL.nil hK
  refine W.seq ?_
  refine W.regJ0 (D := [some 3, some 4, some 5, some 6, some 7, some 8, some 9, some 10, some 11, some 12, some 13, some 14, some 2]) rfl fun _ K hD hK => ?_
  refine WL.op [] rfl (by simp <;> omega) rfl ?_; simp
  refine WL.call [] _ _ _ rfl rfl (by simp) (g := 215) (caps := []) (by simp) (by simp) (fn := Tryz.f215) ⟨Tryz.func215, rfl, rfl⟩ rfl (by simp) (by simp) (by simp) (eLeft_d x 900 (by omega) (by omega) hz _) rfl ?_; simp
  iterate 2 (refine WL.op [] rfl (by simp <;> omega) rfl ?_; simp)
  refine WL.split 6 _ rfl (fun g6 => ?_) fun g6 => ?_ <;> try simp at g6
  · simp
    refine WL.opG [] hD 3 6 true rfl rfl (by simp) (by simp <;> omega) rfl ?_; simp
    refine WL.callG hD 3 6 true rfl rfl (by simp) [] _ _ _ rfl (by simp) (g := 216) (caps := []) (by simp) (by simp) (fn := Tryz.f216) ⟨Tryz.func216, rfl, rfl⟩ rfl (by simp) (by simp) (by simp) (l2Form_d x hz _) rfl ?_; simp
    iterate 2 (refine WL.op [] rfl (by simp <;> omega) rfl ?_; simp)
    refine WL.split 10 _ rfl (fun g10 => ?_) fun g10 => ?_ <;> try simp at g10
    · simp
      refine WL.opG [] hD 7 10 true rfl rfl (by simp) (by simp <;> omega) rfl ?_; simp
      refine WL.callG hD 7 10 true rfl rfl (by simp) [] _ _ _ rfl (by simp) (g := 217) (caps := []) (by simp) (by simp) (fn := Tryz.f217) ⟨Tryz.func217, rfl, rfl⟩ rfl (by simp) (by simp) (by simp) (seDepth_d x hz _) rfl ?_; simp
      refine WL.opG [] hD 7 10 true rfl rfl (by simp) (by simp <;> omega) rfl ?_; simp
      iterate 2 (refine WL.op [] rfl (by simp <;> omega) rfl ?_; simp)
      refine WL.nil (hK _ ?_)
      refine W.ret ⟨.inr rfl, ⟨_, rfl⟩, ?_⟩
      simp [Tryz.f174, eValid, g6, g10] <;> simp at hk <;> first | omega | grind
    · simp
      refine WL.no2 hD 7 10 true rfl rfl (by simp) (by simp) rfl ?_; simp
      refine WL.no2 hD 7 10 true rfl rfl (by simp) (by simp) rfl ?_; simp
      refine WL.no2 hD 7 10 true rfl rfl (by simp) (by simp) rfl ?_; simp
      iterate 2 (refine WL.op [] rfl (by simp <;> omega) rfl ?_; simp)
      refine WL.nil (hK _ ?_)
      refine W.ret ⟨.inr rfl, ⟨_, rfl⟩, ?_⟩
      simp [Tryz.f174, eValid, g6, g10] <;> simp at hk <;> first | omega | grind
  · simp
    refine WL.no2 hD 3 6 true rfl rfl (by simp) (by simp) rfl ?_; simp
    refine WL.no2 hD 3 6 true rfl rfl (by simp) (by simp) rfl ?_; simp
    iterate 2 (refine WL.op [] rfl (by simp <;> omega) rfl ?_; simp)
    refine WL.no2 hD 7 10 true rfl rfl (by simp) (by simp) rfl ?_; simp
    refine WL.no2 hD 7 10 true rfl rfl (by simp) (by simp) rfl ?_; simp
    refine WL.no2 hD 7 10 true rfl rfl (by simp) (by simp) rfl ?_; simp
    iterate 2 (refine WL.op [] rfl (by simp <;> omega) rfl ?_; simp)
    refine WL.nil (hK _ ?_)
    refine W.ret ⟨.inr rfl, ⟨_, rfl⟩, ?_⟩
    simp [Tryz.f174, eValid, g6] <;> simp at hk <;> first | omega | grind
end Go.Proofs.YtkmiecgcibjkbaaGreat
