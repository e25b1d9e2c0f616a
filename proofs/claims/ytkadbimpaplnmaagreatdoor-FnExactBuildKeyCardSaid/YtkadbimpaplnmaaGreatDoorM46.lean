/- Walks by the Den rules. No condition but sizes. -/
import Derived.Test.YtkadbimpaplnmaaGreatDoorM16
import Derived.Test.YtkadbimpaplnmaaGreatDoorM17
import Derived.Test.YtkadbimpaplnmaaGreatDoorM18
namespace Go.Proofs.YtkadbimpaplnmaaGreatDoor
open Go.RowKit
set_option maxRecDepth 10000
set_option linter.unusedSimpArgs false
set_option linter.unusedVariables false
set_option maxHeartbeats 4000000
theorem szStringS_d (l : List ByteArray) (left : Int) (h0 : 0 ≤ left) (h1 : left ≤ 1048576) (h : HP) : CS cx.P 31 [.d (.sl false .one (l.map dS)), .d (.lf (.int .i64 (left)))] h (.d (.lf (.int .i64 (lftI (szs ByteArray.size l) left)))) h := by
 refine CS.fitD 0 (.sl false .one (l.map dS)) rfl fun hfit => ?_
 simp only [DD.fit, List.length_map, mxl] at hfit
 have hw0 := i64w (n := left - (l.length : Int)) (by omega) (by omega)
 refine Ze Tryz.func31 rfl 28 ?_
 apply Zr; intros
 refine Zo ?_; simp
 exact Zx
 apply Zr; intros
 iterate 5 (refine Zo ?_; simp)
 exact Zx
 refine W.seq ?_
 apply Zr; intros
 iterate 2 (refine Zo ?_; simp)
 exact Zx
 refine Zc rfl ?_ ?_ <;> intro hb0 <;> try simp [hw0] at hb0
 have hle := szK_le ByteArray.size l 0
 rw [szK_zero] at hle
 have hres : lftI (szs ByteArray.size l) left = -1 := lft_m1 (by omega)
 apply Zr; intros
 refine Zo ?_; simp
 exact Zx
 refine W.ret (Zq ?_)
 simp [Tryz.f31, hres]
 simp only [hw0]
 refine W.skip ?_
 refine W.seq ?_
 apply Zr; intros
 refine Zo ?_; simp
 exact Zx
 refine W.block ?_
 refine W.loopI [0] [] (fun k0 => [(5, .d (.lf (.int .i64 (k0 : Int)))), (1, .d (.lf (.int .i64 (left - ((szK ByteArray.size l k0 : Nat) : Int)))))]) (fun _ => []) l.length (fun k0 => ((szK ByteArray.size l k0 : Nat) : Int) ≤ left) rfl (by simp [szK_zero]) (by rw [szK_zero]; omega) fun k0 hk0 hi0 T hT => ?_
 simp at hT; subst hT
 refine W.seq ?_
 apply Zr; intros
 iterate 4 (refine Zo ?_; simp)
 exact Zx
 refine Zc rfl ?_ ?_ <;> intro hb1 <;> try simp at hb1
 have hx := ixNext hb1 (by omega)
 have hnx := szK_nx (g := ByteArray.size) hb1
 have hle := szK_le ByteArray.size l (k0 + 1)
 have hss := fits_mem hfit.2 _ (gm hb1)
 simp [DD.fit, okLeaf] at hss
 have hw2 := i64w (n := left - ((szK ByteArray.size l k0 : Nat) : Int) - ((l[k0].size : Nat) : Int)) (by omega) (by omega)
 refine W.skip ?_
 refine Zb ?_
 apply Zr; intros
 iterate 8 (refine Zo ?_ (by simp [hb1, hx] <;> omega); simp [hb1, hx])
 exact Zx
 apply Zr; intros
 iterate 2 (refine Zo ?_ (by simp [hb1, hx] <;> omega); simp [hb1, hx])
 exact Zx
 refine Zc rfl ?_ ?_ <;> intro hb2 <;> try simp [hw2] at hb2
 have hres : lftI (szs ByteArray.size l) left = -1 := lft_m1 (by omega)
 apply Zr; intros
 refine Zo ?_ (by simp [hb1, hx] <;> omega); simp [hb1, hx]
 exact Zx
 refine W.ret (Zq ?_)
 simp [Tryz.f31, hres]
 have hs : left - ((szK ByteArray.size l k0 : Nat) : Int) - ((ByteArray.size l[k0] : Nat) : Int) = left - ((szK ByteArray.size l (k0 + 1) : Nat) : Int) := by omega
 simp only [hw2]
 refine W.skip ?_
 apply Zs; intros
 iterate 3 (refine Zo ?_ (by simp [hb1, hx] <;> omega); simp [hb1, hx])
 exact Zx
 refine ⟨hb1, by omega, Wz.to rfl rfl rfl ?_⟩
 simp [hs]
 have hkl : k0 = l.length := by omega
 subst hkl
 have hfu := szK_full ByteArray.size l
 rw [hfu] at hi0
 have hres : lftI (szs ByteArray.size l) left = left - ((szK ByteArray.size l l.length : Nat) : Int) := by rw [hfu]; exact lft_eq hi0
 refine W.exit ?_
 apply Zr; intros
 iterate 2 (refine Zo ?_; simp)
 exact Zx
 refine W.ret (Zq ?_)
 simp [Tryz.f31, hres]
theorem szType_a (x : TType) (left : Int) (h0 : 0 ≤ left) (h1 : left ≤ 1048576) (hcArgs : ∀ left, 0 ≤ left → left ≤ 1048576 → ∀ h, CS cx.P 187 [.d (.sl false sh88 (x.fArgs.map (TType.dd false))), .d (.lf (.int .i64 (left)))] h (.d (.lf (.int .i64 (lftI (szs TType.sz x.fArgs) left)))) h) (h : HP) : CS cx.P 125 [.d (x.dd false), .d (.lf (.int .i64 (left)))] h (.d (.lf (.int .i64 (lftI x.sz left)))) h := by
 refine CS.fitD 0 (x.dd false) rfl fun hfit => ?_
 have hsz := x.sz_eq
 simp [DD.fit, DD.fits, okLeaf] at hfit
 have hw0 := i64w (n := left - ((x.fName.size : Nat) : Int)) (by omega) (by omega)
 refine Ze Tryz.func125 rfl 19 ?_
 apply Zr; intros
 iterate 2 (refine Zo ?_; simp)
 exact Zx
 apply Zr; intros
 iterate 6 (refine Zo ?_; simp)
 exact Zx
 refine W.seq ?_
 apply Zr; intros
 iterate 2 (refine Zo ?_; simp)
 exact Zx
 refine Zc rfl ?_ ?_ <;> intro hb0 <;> try simp [hw0] at hb0
 have hres : lftI x.sz left = -1 := lft_m1 (by omega)
 apply Zr; intros
 refine Zo ?_; simp
 exact Zx
 refine W.ret (Zq ?_)
 simp [Tryz.f125, hres]
 simp only [hw0]
 refine W.skip ?_
 apply Zr; intros
 iterate 3 (refine Zo ?_; simp)
 refine Zl [] rfl Tryz.func187 (hcArgs (left - ((x.fName.size : Nat) : Int)) (by omega) (by omega) _) ?_; simp
 refine Zo ?_; simp
 exact Zx
 refine W.seq ?_
 apply Zr; intros
 iterate 2 (refine Zo ?_; simp)
 exact Zx
 refine Zc rfl ?_ ?_ <;> intro hb1 <;> try simp at hb1
 have hl1 := lft_lt hb1
 have hres : lftI x.sz left = -1 := lft_m1 (by omega)
 apply Zr; intros
 refine Zo ?_; simp
 exact Zx
 refine W.ret (Zq ?_)
 simp [Tryz.f125, hres]
 have hj1 := (lft_ge hb1).1
 have hg1 := (lft_ge hb1).2
 simp only [hj1]
 have hres : lftI x.sz left = left - ((x.fName.size : Nat) : Int) - ((szs TType.sz x.fArgs : Nat) : Int) := (lft_eq (by omega)).trans (by omega)
 refine W.skip ?_
 apply Zr; intros
 iterate 2 (refine Zo ?_; simp)
 exact Zx
 refine W.ret (Zq ?_)
 simp [Tryz.f125, hres]
theorem szTypeS_a (l : List TType) (left : Int) (h0 : 0 ≤ left) (h1 : left ≤ 1048576) (hc : ∀ y ∈ l, ∀ left, 0 ≤ left → left ≤ 1048576 → ∀ h, CS cx.P 125 [.d (y.dd false), .d (.lf (.int .i64 (left)))] h (.d (.lf (.int .i64 (lftI y.sz left)))) h) (h : HP) : CS cx.P 187 [.d (.sl false sh88 (l.map (TType.dd false))), .d (.lf (.int .i64 (left)))] h (.d (.lf (.int .i64 (lftI (szs TType.sz l) left)))) h := by
 refine CS.fitD 0 (.sl false sh88 (l.map (TType.dd false))) rfl fun hfit => ?_
 simp only [DD.fit, List.length_map, mxl] at hfit
 have hw0 := i64w (n := left - (l.length : Int)) (by omega) (by omega)
 refine Ze Tryz.func187 rfl 27 ?_
 apply Zr; intros
 refine Zo ?_; simp
 exact Zx
 apply Zr; intros
 iterate 5 (refine Zo ?_; simp)
 exact Zx
 refine W.seq ?_
 apply Zr; intros
 iterate 2 (refine Zo ?_; simp)
 exact Zx
 refine Zc rfl ?_ ?_ <;> intro hb0 <;> try simp [hw0] at hb0
 have hle := szK_le TType.sz l 0
 rw [szK_zero] at hle
 have hres : lftI (szs TType.sz l) left = -1 := lft_m1 (by omega)
 apply Zr; intros
 refine Zo ?_; simp
 exact Zx
 refine W.ret (Zq ?_)
 simp [Tryz.f187, hres]
 simp only [hw0]
 refine W.skip ?_
 refine W.seq ?_
 apply Zr; intros
 refine Zo ?_; simp
 exact Zx
 refine W.block ?_
 refine W.loopI [0] [] (fun k0 => [(5, .d (.lf (.int .i64 (k0 : Int)))), (1, .d (.lf (.int .i64 (left - ((szK TType.sz l k0 : Nat) : Int)))))]) (fun _ => []) l.length (fun k0 => ((szK TType.sz l k0 : Nat) : Int) ≤ left) rfl (by simp [szK_zero]) (by rw [szK_zero]; omega) fun k0 hk0 hi0 T hT => ?_
 simp at hT; subst hT
 refine W.seq ?_
 apply Zr; intros
 iterate 4 (refine Zo ?_; simp)
 exact Zx
 refine Zc rfl ?_ ?_ <;> intro hb1 <;> try simp at hb1
 have hx := ixNext hb1 (by omega)
 have hnx := szK_nx (g := TType.sz) hb1
 have hle := szK_le TType.sz l (k0 + 1)
 refine W.skip ?_
 refine Zb ?_
 apply Zr; intros
 iterate 5 (refine Zo ?_ (by simp [hb1, hx] <;> omega); simp [hb1, hx])
 refine Zl [] rfl Tryz.func125 (hc l[k0] (gm hb1) (left - ((szK TType.sz l k0 : Nat) : Int)) (by omega) (by omega) _) ?_ (by simp [hb1, hx]); simp [hb1, hx]
 refine Zo ?_ (by simp [hb1, hx] <;> omega); simp [hb1, hx]
 exact Zx
 apply Zr; intros
 iterate 2 (refine Zo ?_ (by simp [hb1, hx] <;> omega); simp [hb1, hx])
 exact Zx
 refine Zc rfl ?_ ?_ <;> intro hb2 <;> try simp at hb2
 have hl := lft_lt hb2
 have hres : lftI (szs TType.sz l) left = -1 := lft_m1 (by omega)
 apply Zr; intros
 refine Zo ?_ (by simp [hb1, hx] <;> omega); simp [hb1, hx]
 exact Zx
 refine W.ret (Zq ?_)
 simp [Tryz.f187, hres]
 have hj := (lft_ge hb2).1
 have hg := (lft_ge hb2).2
 have hs : left - ((szK TType.sz l k0 : Nat) : Int) - ((TType.sz l[k0] : Nat) : Int) = left - ((szK TType.sz l (k0 + 1) : Nat) : Int) := by omega
 simp only [hj]
 refine W.skip ?_
 apply Zs; intros
 iterate 3 (refine Zo ?_ (by simp [hb1, hx] <;> omega); simp [hb1, hx])
 exact Zx
 refine ⟨hb1, by omega, Wz.to rfl rfl rfl ?_⟩
 simp [hs]
 have hkl : k0 = l.length := by omega
 subst hkl
 have hfu := szK_full TType.sz l
 rw [hfu] at hi0
 have hres : lftI (szs TType.sz l) left = left - ((szK TType.sz l l.length : Nat) : Int) := by rw [hfu]; exact lft_eq hi0
 refine W.exit ?_
 apply Zr; intros
 iterate 2 (refine Zo ?_; simp)
 exact Zx
 refine W.ret (Zq ?_)
 simp [Tryz.f187, hres]
theorem szType_d (x : TType) (left : Int) (h0 : 0 ≤ left) (h1 : left ≤ 1048576) (h : HP) : CS cx.P 125 [.d (x.dd false), .d (.lf (.int .i64 (left)))] h (.d (.lf (.int .i64 (lftI x.sz left)))) h := szType_a x left h0 h1 (fun left h0 h1 h => szTypeS_a x.fArgs left h0 h1  (fun y0 hy0 left h0 h1 h => szType_d y0 left h0 h1 h) h) h
termination_by SizeOf.sizeOf x
decreasing_by
 ·have := List.sizeOf_lt_of_mem hy0; have := x.lt_fArgs; omega
theorem szTypeS_d (l : List TType) (left : Int) (h0 : 0 ≤ left) (h1 : left ≤ 1048576) (h : HP) : CS cx.P 187 [.d (.sl false sh88 (l.map (TType.dd false))), .d (.lf (.int .i64 (left)))] h (.d (.lf (.int .i64 (lftI (szs TType.sz l) left)))) h := szTypeS_a l left h0 h1 (fun y _ left h0 h1 h => szType_d y left h0 h1 h) h
theorem szArm_a (x : TArm) (left : Int) (h0 : 0 ≤ left) (h1 : left ≤ 1048576) (hcBody : ∀ left, 0 ≤ left → left ≤ 1048576 → ∀ h, CS cx.P 129 [.d (x.fBody.dd false), .d (.lf (.int .i64 (left)))] h (.d (.lf (.int .i64 (lftI x.fBody.sz left)))) h) (h : HP) : CS cx.P 241 [.d (x.dd false), .d (.lf (.int .i64 (left)))] h (.d (.lf (.int .i64 (lftI x.sz left)))) h := by
 refine CS.fitD 0 (x.dd false) rfl fun hfit => ?_
 have hsz := x.sz_eq
 simp [DD.fit, DD.fits, okLeaf] at hfit
 have hw0 := i64w (n := left - ((x.fConstructor.size : Nat) : Int)) (by omega) (by omega)
 refine Ze Tryz.func241 rfl 25 ?_
 apply Zr; intros
 iterate 2 (refine Zo ?_; simp)
 exact Zx
 apply Zr; intros
 iterate 6 (refine Zo ?_; simp)
 exact Zx
 refine W.seq ?_
 apply Zr; intros
 iterate 2 (refine Zo ?_; simp)
 exact Zx
 refine Zc rfl ?_ ?_ <;> intro hb0 <;> try simp [hw0] at hb0
 have hres : lftI x.sz left = -1 := lft_m1 (by omega)
 apply Zr; intros
 refine Zo ?_; simp
 exact Zx
 refine W.ret (Zq ?_)
 simp [Tryz.f241, hres]
 simp only [hw0]
 refine W.skip ?_
 apply Zr; intros
 iterate 3 (refine Zo ?_; simp)
 refine Zl [] rfl Tryz.func31 (szStringS_d x.fVars (left - ((x.fConstructor.size : Nat) : Int)) (by omega) (by omega) _) ?_; simp
 refine Zo ?_; simp
 exact Zx
 refine W.seq ?_
 apply Zr; intros
 iterate 2 (refine Zo ?_; simp)
 exact Zx
 refine Zc rfl ?_ ?_ <;> intro hb1 <;> try simp at hb1
 have hl1 := lft_lt hb1
 have hres : lftI x.sz left = -1 := lft_m1 (by omega)
 apply Zr; intros
 refine Zo ?_; simp
 exact Zx
 refine W.ret (Zq ?_)
 simp [Tryz.f241, hres]
 have hj1 := (lft_ge hb1).1
 have hg1 := (lft_ge hb1).2
 simp only [hj1]
 refine W.skip ?_
 apply Zr; intros
 iterate 3 (refine Zo ?_; simp)
 refine Zl [] rfl Tryz.func129 (hcBody (left - ((x.fConstructor.size : Nat) : Int) - ((szs ByteArray.size x.fVars : Nat) : Int)) (by omega) (by omega) _) ?_; simp
 refine Zo ?_; simp
 exact Zx
 refine W.seq ?_
 apply Zr; intros
 iterate 2 (refine Zo ?_; simp)
 exact Zx
 refine Zc rfl ?_ ?_ <;> intro hb2 <;> try simp at hb2
 have hl2 := lft_lt hb2
 have hres : lftI x.sz left = -1 := lft_m1 (by omega)
 apply Zr; intros
 refine Zo ?_; simp
 exact Zx
 refine W.ret (Zq ?_)
 simp [Tryz.f241, hres]
 have hj2 := (lft_ge hb2).1
 have hg2 := (lft_ge hb2).2
 simp only [hj2]
 have hres : lftI x.sz left = left - ((x.fConstructor.size : Nat) : Int) - ((szs ByteArray.size x.fVars : Nat) : Int) - ((x.fBody.sz : Nat) : Int) := (lft_eq (by omega)).trans (by omega)
 refine W.skip ?_
 apply Zr; intros
 iterate 2 (refine Zo ?_; simp)
 exact Zx
 refine W.ret (Zq ?_)
 simp [Tryz.f241, hres]
theorem szArmS_a (l : List TArm) (left : Int) (h0 : 0 ≤ left) (h1 : left ≤ 1048576) (hc : ∀ y ∈ l, ∀ left, 0 ≤ left → left ≤ 1048576 → ∀ h, CS cx.P 241 [.d (y.dd false), .d (.lf (.int .i64 (left)))] h (.d (.lf (.int .i64 (lftI y.sz left)))) h) (h : HP) : CS cx.P 192 [.d (.sl false sh198 (l.map (TArm.dd false))), .d (.lf (.int .i64 (left)))] h (.d (.lf (.int .i64 (lftI (szs TArm.sz l) left)))) h := by
 refine CS.fitD 0 (.sl false sh198 (l.map (TArm.dd false))) rfl fun hfit => ?_
 simp only [DD.fit, List.length_map, mxl] at hfit
 have hw0 := i64w (n := left - (l.length : Int)) (by omega) (by omega)
 refine Ze Tryz.func192 rfl 27 ?_
 apply Zr; intros
 refine Zo ?_; simp
 exact Zx
 apply Zr; intros
 iterate 5 (refine Zo ?_; simp)
 exact Zx
 refine W.seq ?_
 apply Zr; intros
 iterate 2 (refine Zo ?_; simp)
 exact Zx
 refine Zc rfl ?_ ?_ <;> intro hb0 <;> try simp [hw0] at hb0
 have hle := szK_le TArm.sz l 0
 rw [szK_zero] at hle
 have hres : lftI (szs TArm.sz l) left = -1 := lft_m1 (by omega)
 apply Zr; intros
 refine Zo ?_; simp
 exact Zx
 refine W.ret (Zq ?_)
 simp [Tryz.f192, hres]
 simp only [hw0]
 refine W.skip ?_
 refine W.seq ?_
 apply Zr; intros
 refine Zo ?_; simp
 exact Zx
 refine W.block ?_
 refine W.loopI [0] [] (fun k0 => [(5, .d (.lf (.int .i64 (k0 : Int)))), (1, .d (.lf (.int .i64 (left - ((szK TArm.sz l k0 : Nat) : Int)))))]) (fun _ => []) l.length (fun k0 => ((szK TArm.sz l k0 : Nat) : Int) ≤ left) rfl (by simp [szK_zero]) (by rw [szK_zero]; omega) fun k0 hk0 hi0 T hT => ?_
 simp at hT; subst hT
 refine W.seq ?_
 apply Zr; intros
 iterate 4 (refine Zo ?_; simp)
 exact Zx
 refine Zc rfl ?_ ?_ <;> intro hb1 <;> try simp at hb1
 have hx := ixNext hb1 (by omega)
 have hnx := szK_nx (g := TArm.sz) hb1
 have hle := szK_le TArm.sz l (k0 + 1)
 refine W.skip ?_
 refine Zb ?_
 apply Zr; intros
 iterate 5 (refine Zo ?_ (by simp [hb1, hx] <;> omega); simp [hb1, hx])
 refine Zl [] rfl Tryz.func241 (hc l[k0] (gm hb1) (left - ((szK TArm.sz l k0 : Nat) : Int)) (by omega) (by omega) _) ?_ (by simp [hb1, hx]); simp [hb1, hx]
 refine Zo ?_ (by simp [hb1, hx] <;> omega); simp [hb1, hx]
 exact Zx
 apply Zr; intros
 iterate 2 (refine Zo ?_ (by simp [hb1, hx] <;> omega); simp [hb1, hx])
 exact Zx
 refine Zc rfl ?_ ?_ <;> intro hb2 <;> try simp at hb2
 have hl := lft_lt hb2
 have hres : lftI (szs TArm.sz l) left = -1 := lft_m1 (by omega)
 apply Zr; intros
 refine Zo ?_ (by simp [hb1, hx] <;> omega); simp [hb1, hx]
 exact Zx
 refine W.ret (Zq ?_)
 simp [Tryz.f192, hres]
 have hj := (lft_ge hb2).1
 have hg := (lft_ge hb2).2
 have hs : left - ((szK TArm.sz l k0 : Nat) : Int) - ((TArm.sz l[k0] : Nat) : Int) = left - ((szK TArm.sz l (k0 + 1) : Nat) : Int) := by omega
 simp only [hj]
 refine W.skip ?_
 apply Zs; intros
 iterate 3 (refine Zo ?_ (by simp [hb1, hx] <;> omega); simp [hb1, hx])
 exact Zx
 refine ⟨hb1, by omega, Wz.to rfl rfl rfl ?_⟩
 simp [hs]
 have hkl : k0 = l.length := by omega
 subst hkl
 have hfu := szK_full TArm.sz l
 rw [hfu] at hi0
 have hres : lftI (szs TArm.sz l) left = left - ((szK TArm.sz l l.length : Nat) : Int) := by rw [hfu]; exact lft_eq hi0
 refine W.exit ?_
 apply Zr; intros
 iterate 2 (refine Zo ?_; simp)
 exact Zx
 refine W.ret (Zq ?_)
 simp [Tryz.f192, hres]
theorem szExpr_a (x : TExpr) (left : Int) (h0 : 0 ≤ left) (h1 : left ≤ 1048576) (hcArgs : ∀ left, 0 ≤ left → left ≤ 1048576 → ∀ h, CS cx.P 191 [.d (.sl false sh98 (x.fArgs.map (TExpr.dd false))), .d (.lf (.int .i64 (left)))] h (.d (.lf (.int .i64 (lftI (szs TExpr.sz x.fArgs) left)))) h) (hcArms : ∀ left, 0 ≤ left → left ≤ 1048576 → ∀ h, CS cx.P 192 [.d (.sl false sh198 (x.fArms.map (TArm.dd false))), .d (.lf (.int .i64 (left)))] h (.d (.lf (.int .i64 (lftI (szs TArm.sz x.fArms) left)))) h) (h : HP) : CS cx.P 129 [.d (x.dd false), .d (.lf (.int .i64 (left)))] h (.d (.lf (.int .i64 (lftI x.sz left)))) h := by
 refine CS.fitD 0 (x.dd false) rfl fun hfit => ?_
 have hsz := x.sz_eq
 simp [DD.fit, DD.fits, okLeaf] at hfit
 have hw0 := i64w (n := left - ((x.fTrait.size : Nat) : Int)) (by omega) (by omega)
 refine Ze Tryz.func129 rfl 38 ?_
 apply Zr; intros
 iterate 2 (refine Zo ?_; simp)
 exact Zx
 apply Zr; intros
 iterate 6 (refine Zo ?_; simp)
 exact Zx
 refine W.seq ?_
 apply Zr; intros
 iterate 2 (refine Zo ?_; simp)
 exact Zx
 refine Zc rfl ?_ ?_ <;> intro hb0 <;> try simp [hw0] at hb0
 have hres : lftI x.sz left = -1 := lft_m1 (by omega)
 apply Zr; intros
 refine Zo ?_; simp
 exact Zx
 refine W.ret (Zq ?_)
 simp [Tryz.f129, hres]
 simp only [hw0]
 have hw1 := i64w (n := left - ((x.fTrait.size : Nat) : Int) - ((x.fName.size : Nat) : Int)) (by omega) (by omega)
 refine W.skip ?_
 apply Zr; intros
 iterate 6 (refine Zo ?_; simp)
 exact Zx
 refine W.seq ?_
 apply Zr; intros
 iterate 2 (refine Zo ?_; simp)
 exact Zx
 refine Zc rfl ?_ ?_ <;> intro hb1 <;> try simp [hw1] at hb1
 have hres : lftI x.sz left = -1 := lft_m1 (by omega)
 apply Zr; intros
 refine Zo ?_; simp
 exact Zx
 refine W.ret (Zq ?_)
 simp [Tryz.f129, hres]
 simp only [hw1]
 refine W.skip ?_
 apply Zr; intros
 iterate 3 (refine Zo ?_; simp)
 refine Zl [] rfl Tryz.func125 (szType_d x.fType (left - ((x.fTrait.size : Nat) : Int) - ((x.fName.size : Nat) : Int)) (by omega) (by omega) _) ?_; simp
 refine Zo ?_; simp
 exact Zx
 refine W.seq ?_
 apply Zr; intros
 iterate 2 (refine Zo ?_; simp)
 exact Zx
 refine Zc rfl ?_ ?_ <;> intro hb2 <;> try simp at hb2
 have hl2 := lft_lt hb2
 have hres : lftI x.sz left = -1 := lft_m1 (by omega)
 apply Zr; intros
 refine Zo ?_; simp
 exact Zx
 refine W.ret (Zq ?_)
 simp [Tryz.f129, hres]
 have hj2 := (lft_ge hb2).1
 have hg2 := (lft_ge hb2).2
 simp only [hj2]
 refine W.skip ?_
 apply Zr; intros
 iterate 3 (refine Zo ?_; simp)
 refine Zl [] rfl Tryz.func191 (hcArgs (left - ((x.fTrait.size : Nat) : Int) - ((x.fName.size : Nat) : Int) - ((x.fType.sz : Nat) : Int)) (by omega) (by omega) _) ?_; simp
 refine Zo ?_; simp
 exact Zx
 refine W.seq ?_
 apply Zr; intros
 iterate 2 (refine Zo ?_; simp)
 exact Zx
 refine Zc rfl ?_ ?_ <;> intro hb3 <;> try simp at hb3
 have hl3 := lft_lt hb3
 have hres : lftI x.sz left = -1 := lft_m1 (by omega)
 apply Zr; intros
 refine Zo ?_; simp
 exact Zx
 refine W.ret (Zq ?_)
 simp [Tryz.f129, hres]
 have hj3 := (lft_ge hb3).1
 have hg3 := (lft_ge hb3).2
 simp only [hj3]
 refine W.skip ?_
 apply Zr; intros
 iterate 3 (refine Zo ?_; simp)
 refine Zl [] rfl Tryz.func192 (hcArms (left - ((x.fTrait.size : Nat) : Int) - ((x.fName.size : Nat) : Int) - ((x.fType.sz : Nat) : Int) - ((szs TExpr.sz x.fArgs : Nat) : Int)) (by omega) (by omega) _) ?_; simp
 refine Zo ?_; simp
 exact Zx
 refine W.seq ?_
 apply Zr; intros
 iterate 2 (refine Zo ?_; simp)
 exact Zx
 refine Zc rfl ?_ ?_ <;> intro hb4 <;> try simp at hb4
 have hl4 := lft_lt hb4
 have hres : lftI x.sz left = -1 := lft_m1 (by omega)
 apply Zr; intros
 refine Zo ?_; simp
 exact Zx
 refine W.ret (Zq ?_)
 simp [Tryz.f129, hres]
 have hj4 := (lft_ge hb4).1
 have hg4 := (lft_ge hb4).2
 simp only [hj4]
 have hres : lftI x.sz left = left - ((x.fTrait.size : Nat) : Int) - ((x.fName.size : Nat) : Int) - ((x.fType.sz : Nat) : Int) - ((szs TExpr.sz x.fArgs : Nat) : Int) - ((szs TArm.sz x.fArms : Nat) : Int) := (lft_eq (by omega)).trans (by omega)
 refine W.skip ?_
 apply Zr; intros
 iterate 2 (refine Zo ?_; simp)
 exact Zx
 refine W.ret (Zq ?_)
 simp [Tryz.f129, hres]
theorem szExprS_a (l : List TExpr) (left : Int) (h0 : 0 ≤ left) (h1 : left ≤ 1048576) (hc : ∀ y ∈ l, ∀ left, 0 ≤ left → left ≤ 1048576 → ∀ h, CS cx.P 129 [.d (y.dd false), .d (.lf (.int .i64 (left)))] h (.d (.lf (.int .i64 (lftI y.sz left)))) h) (h : HP) : CS cx.P 191 [.d (.sl false sh98 (l.map (TExpr.dd false))), .d (.lf (.int .i64 (left)))] h (.d (.lf (.int .i64 (lftI (szs TExpr.sz l) left)))) h := by
 refine CS.fitD 0 (.sl false sh98 (l.map (TExpr.dd false))) rfl fun hfit => ?_
 simp only [DD.fit, List.length_map, mxl] at hfit
 have hw0 := i64w (n := left - (l.length : Int)) (by omega) (by omega)
 refine Ze Tryz.func191 rfl 27 ?_
 apply Zr; intros
 refine Zo ?_; simp
 exact Zx
 apply Zr; intros
 iterate 5 (refine Zo ?_; simp)
 exact Zx
 refine W.seq ?_
 apply Zr; intros
 iterate 2 (refine Zo ?_; simp)
 exact Zx
 refine Zc rfl ?_ ?_ <;> intro hb0 <;> try simp [hw0] at hb0
 have hle := szK_le TExpr.sz l 0
 rw [szK_zero] at hle
 have hres : lftI (szs TExpr.sz l) left = -1 := lft_m1 (by omega)
 apply Zr; intros
 refine Zo ?_; simp
 exact Zx
 refine W.ret (Zq ?_)
 simp [Tryz.f191, hres]
 simp only [hw0]
 refine W.skip ?_
 refine W.seq ?_
 apply Zr; intros
 refine Zo ?_; simp
 exact Zx
 refine W.block ?_
 refine W.loopI [0] [] (fun k0 => [(5, .d (.lf (.int .i64 (k0 : Int)))), (1, .d (.lf (.int .i64 (left - ((szK TExpr.sz l k0 : Nat) : Int)))))]) (fun _ => []) l.length (fun k0 => ((szK TExpr.sz l k0 : Nat) : Int) ≤ left) rfl (by simp [szK_zero]) (by rw [szK_zero]; omega) fun k0 hk0 hi0 T hT => ?_
 simp at hT; subst hT
 refine W.seq ?_
 apply Zr; intros
 iterate 4 (refine Zo ?_; simp)
 exact Zx
 refine Zc rfl ?_ ?_ <;> intro hb1 <;> try simp at hb1
 have hx := ixNext hb1 (by omega)
 have hnx := szK_nx (g := TExpr.sz) hb1
 have hle := szK_le TExpr.sz l (k0 + 1)
 refine W.skip ?_
 refine Zb ?_
 apply Zr; intros
 iterate 5 (refine Zo ?_ (by simp [hb1, hx] <;> omega); simp [hb1, hx])
 refine Zl [] rfl Tryz.func129 (hc l[k0] (gm hb1) (left - ((szK TExpr.sz l k0 : Nat) : Int)) (by omega) (by omega) _) ?_ (by simp [hb1, hx]); simp [hb1, hx]
 refine Zo ?_ (by simp [hb1, hx] <;> omega); simp [hb1, hx]
 exact Zx
 apply Zr; intros
 iterate 2 (refine Zo ?_ (by simp [hb1, hx] <;> omega); simp [hb1, hx])
 exact Zx
 refine Zc rfl ?_ ?_ <;> intro hb2 <;> try simp at hb2
 have hl := lft_lt hb2
 have hres : lftI (szs TExpr.sz l) left = -1 := lft_m1 (by omega)
 apply Zr; intros
 refine Zo ?_ (by simp [hb1, hx] <;> omega); simp [hb1, hx]
 exact Zx
 refine W.ret (Zq ?_)
 simp [Tryz.f191, hres]
 have hj := (lft_ge hb2).1
 have hg := (lft_ge hb2).2
 have hs : left - ((szK TExpr.sz l k0 : Nat) : Int) - ((TExpr.sz l[k0] : Nat) : Int) = left - ((szK TExpr.sz l (k0 + 1) : Nat) : Int) := by omega
 simp only [hj]
 refine W.skip ?_
 apply Zs; intros
 iterate 3 (refine Zo ?_ (by simp [hb1, hx] <;> omega); simp [hb1, hx])
 exact Zx
 refine ⟨hb1, by omega, Wz.to rfl rfl rfl ?_⟩
 simp [hs]
 have hkl : k0 = l.length := by omega
 subst hkl
 have hfu := szK_full TExpr.sz l
 rw [hfu] at hi0
 have hres : lftI (szs TExpr.sz l) left = left - ((szK TExpr.sz l l.length : Nat) : Int) := by rw [hfu]; exact lft_eq hi0
 refine W.exit ?_
 apply Zr; intros
 iterate 2 (refine Zo ?_; simp)
 exact Zx
 refine W.ret (Zq ?_)
 simp [Tryz.f191, hres]
theorem szExpr_d (x : TExpr) (left : Int) (h0 : 0 ≤ left) (h1 : left ≤ 1048576) (h : HP) : CS cx.P 129 [.d (x.dd false), .d (.lf (.int .i64 (left)))] h (.d (.lf (.int .i64 (lftI x.sz left)))) h := szExpr_a x left h0 h1 (fun left h0 h1 h => szExprS_a x.fArgs left h0 h1  (fun y0 hy0 left h0 h1 h => szExpr_d y0 left h0 h1 h) h) (fun left h0 h1 h => szArmS_a x.fArms left h0 h1  (fun y1 hy1 left h0 h1 h => szArm_a y1 left h0 h1 (fun left h0 h1 h => szExpr_d y1.fBody left h0 h1 h) h) h) h
termination_by SizeOf.sizeOf x
decreasing_by
 ·have := List.sizeOf_lt_of_mem hy0; have := x.lt_fArgs; omega
 ·have := List.sizeOf_lt_of_mem hy1; have := x.lt_fArms; have := y1.lt_fBody; omega
theorem szSignature_d (x : TSignature) (left : Int) (h0 : 0 ≤ left) (h1 : left ≤ 1048576) (h : HP) : CS cx.P 185 [.d (x.dd false), .d (.lf (.int .i64 (left)))] h (.d (.lf (.int .i64 (lftI x.sz left)))) h := by
 refine CS.fitD 0 (x.dd false) rfl fun hfit => ?_
 have hsz := x.sz_eq
 simp [DD.fit, DD.fits, okLeaf] at hfit
 have hw0 := i64w (n := left - ((x.fName.size : Nat) : Int)) (by omega) (by omega)
 refine Ze Tryz.func185 rfl 37 ?_
 apply Zr; intros
 iterate 2 (refine Zo ?_; simp)
 exact Zx
 apply Zr; intros
 iterate 6 (refine Zo ?_; simp)
 exact Zx
 refine W.seq ?_
 apply Zr; intros
 iterate 2 (refine Zo ?_; simp)
 exact Zx
 refine Zc rfl ?_ ?_ <;> intro hb0 <;> try simp [hw0] at hb0
 have hres : lftI x.sz left = -1 := lft_m1 (by omega)
 apply Zr; intros
 refine Zo ?_; simp
 exact Zx
 refine W.ret (Zq ?_)
 simp [Tryz.f185, hres]
 simp only [hw0]
 refine W.skip ?_
 apply Zr; intros
 iterate 3 (refine Zo ?_; simp)
 refine Zl [] rfl Tryz.func187 (szTypeS_d x.fParams (left - ((x.fName.size : Nat) : Int)) (by omega) (by omega) _) ?_; simp
 refine Zo ?_; simp
 exact Zx
 refine W.seq ?_
 apply Zr; intros
 iterate 2 (refine Zo ?_; simp)
 exact Zx
 refine Zc rfl ?_ ?_ <;> intro hb1 <;> try simp at hb1
 have hl1 := lft_lt hb1
 have hres : lftI x.sz left = -1 := lft_m1 (by omega)
 apply Zr; intros
 refine Zo ?_; simp
 exact Zx
 refine W.ret (Zq ?_)
 simp [Tryz.f185, hres]
 have hj1 := (lft_ge hb1).1
 have hg1 := (lft_ge hb1).2
 simp only [hj1]
 refine W.skip ?_
 apply Zr; intros
 iterate 3 (refine Zo ?_; simp)
 refine Zl [] rfl Tryz.func125 (szType_d x.fResult (left - ((x.fName.size : Nat) : Int) - ((szs TType.sz x.fParams : Nat) : Int)) (by omega) (by omega) _) ?_; simp
 refine Zo ?_; simp
 exact Zx
 refine W.seq ?_
 apply Zr; intros
 iterate 2 (refine Zo ?_; simp)
 exact Zx
 refine Zc rfl ?_ ?_ <;> intro hb2 <;> try simp at hb2
 have hl2 := lft_lt hb2
 have hres : lftI x.sz left = -1 := lft_m1 (by omega)
 apply Zr; intros
 refine Zo ?_; simp
 exact Zx
 refine W.ret (Zq ?_)
 simp [Tryz.f185, hres]
 have hj2 := (lft_ge hb2).1
 have hg2 := (lft_ge hb2).2
 simp only [hj2]
 refine W.skip ?_
 apply Zr; intros
 iterate 3 (refine Zo ?_; simp)
 refine Zl [] rfl Tryz.func31 (szStringS_d x.fVars (left - ((x.fName.size : Nat) : Int) - ((szs TType.sz x.fParams : Nat) : Int) - ((x.fResult.sz : Nat) : Int)) (by omega) (by omega) _) ?_; simp
 refine Zo ?_; simp
 exact Zx
 refine W.seq ?_
 apply Zr; intros
 iterate 2 (refine Zo ?_; simp)
 exact Zx
 refine Zc rfl ?_ ?_ <;> intro hb3 <;> try simp at hb3
 have hl3 := lft_lt hb3
 have hres : lftI x.sz left = -1 := lft_m1 (by omega)
 apply Zr; intros
 refine Zo ?_; simp
 exact Zx
 refine W.ret (Zq ?_)
 simp [Tryz.f185, hres]
 have hj3 := (lft_ge hb3).1
 have hg3 := (lft_ge hb3).2
 simp only [hj3]
 refine W.skip ?_
 apply Zr; intros
 iterate 3 (refine Zo ?_; simp)
 refine Zl [] rfl Tryz.func129 (szExpr_d x.fBody (left - ((x.fName.size : Nat) : Int) - ((szs TType.sz x.fParams : Nat) : Int) - ((x.fResult.sz : Nat) : Int) - ((szs ByteArray.size x.fVars : Nat) : Int)) (by omega) (by omega) _) ?_; simp
 refine Zo ?_; simp
 exact Zx
 refine W.seq ?_
 apply Zr; intros
 iterate 2 (refine Zo ?_; simp)
 exact Zx
 refine Zc rfl ?_ ?_ <;> intro hb4 <;> try simp at hb4
 have hl4 := lft_lt hb4
 have hres : lftI x.sz left = -1 := lft_m1 (by omega)
 apply Zr; intros
 refine Zo ?_; simp
 exact Zx
 refine W.ret (Zq ?_)
 simp [Tryz.f185, hres]
 have hj4 := (lft_ge hb4).1
 have hg4 := (lft_ge hb4).2
 simp only [hj4]
 have hres : lftI x.sz left = left - ((x.fName.size : Nat) : Int) - ((szs TType.sz x.fParams : Nat) : Int) - ((x.fResult.sz : Nat) : Int) - ((szs ByteArray.size x.fVars : Nat) : Int) - ((x.fBody.sz : Nat) : Int) := (lft_eq (by omega)).trans (by omega)
 refine W.skip ?_
 apply Zr; intros
 iterate 2 (refine Zo ?_; simp)
 exact Zx
 refine W.ret (Zq ?_)
 simp [Tryz.f185, hres]
theorem szSignatureS_a (l : List TSignature) (left : Int) (h0 : 0 ≤ left) (h1 : left ≤ 1048576) (hc : ∀ y ∈ l, ∀ left, 0 ≤ left → left ≤ 1048576 → ∀ h, CS cx.P 185 [.d (y.dd false), .d (.lf (.int .i64 (left)))] h (.d (.lf (.int .i64 (lftI y.sz left)))) h) (h : HP) : CS cx.P 123 [.d (.sl false sh154 (l.map (TSignature.dd false))), .d (.lf (.int .i64 (left)))] h (.d (.lf (.int .i64 (lftI (szs TSignature.sz l) left)))) h := by
 refine CS.fitD 0 (.sl false sh154 (l.map (TSignature.dd false))) rfl fun hfit => ?_
 simp only [DD.fit, List.length_map, mxl] at hfit
 have hw0 := i64w (n := left - (l.length : Int)) (by omega) (by omega)
 refine Ze Tryz.func123 rfl 27 ?_
 apply Zr; intros
 refine Zo ?_; simp
 exact Zx
 apply Zr; intros
 iterate 5 (refine Zo ?_; simp)
 exact Zx
 refine W.seq ?_
 apply Zr; intros
 iterate 2 (refine Zo ?_; simp)
 exact Zx
 refine Zc rfl ?_ ?_ <;> intro hb0 <;> try simp [hw0] at hb0
 have hle := szK_le TSignature.sz l 0
 rw [szK_zero] at hle
 have hres : lftI (szs TSignature.sz l) left = -1 := lft_m1 (by omega)
 apply Zr; intros
 refine Zo ?_; simp
 exact Zx
 refine W.ret (Zq ?_)
 simp [Tryz.f123, hres]
 simp only [hw0]
 refine W.skip ?_
 refine W.seq ?_
 apply Zr; intros
 refine Zo ?_; simp
 exact Zx
 refine W.block ?_
 refine W.loopI [0] [] (fun k0 => [(5, .d (.lf (.int .i64 (k0 : Int)))), (1, .d (.lf (.int .i64 (left - ((szK TSignature.sz l k0 : Nat) : Int)))))]) (fun _ => []) l.length (fun k0 => ((szK TSignature.sz l k0 : Nat) : Int) ≤ left) rfl (by simp [szK_zero]) (by rw [szK_zero]; omega) fun k0 hk0 hi0 T hT => ?_
 simp at hT; subst hT
 refine W.seq ?_
 apply Zr; intros
 iterate 4 (refine Zo ?_; simp)
 exact Zx
 refine Zc rfl ?_ ?_ <;> intro hb1 <;> try simp at hb1
 have hx := ixNext hb1 (by omega)
 have hnx := szK_nx (g := TSignature.sz) hb1
 have hle := szK_le TSignature.sz l (k0 + 1)
 refine W.skip ?_
 refine Zb ?_
 apply Zr; intros
 iterate 5 (refine Zo ?_ (by simp [hb1, hx] <;> omega); simp [hb1, hx])
 refine Zl [] rfl Tryz.func185 (hc l[k0] (gm hb1) (left - ((szK TSignature.sz l k0 : Nat) : Int)) (by omega) (by omega) _) ?_ (by simp [hb1, hx]); simp [hb1, hx]
 refine Zo ?_ (by simp [hb1, hx] <;> omega); simp [hb1, hx]
 exact Zx
 apply Zr; intros
 iterate 2 (refine Zo ?_ (by simp [hb1, hx] <;> omega); simp [hb1, hx])
 exact Zx
 refine Zc rfl ?_ ?_ <;> intro hb2 <;> try simp at hb2
 have hl := lft_lt hb2
 have hres : lftI (szs TSignature.sz l) left = -1 := lft_m1 (by omega)
 apply Zr; intros
 refine Zo ?_ (by simp [hb1, hx] <;> omega); simp [hb1, hx]
 exact Zx
 refine W.ret (Zq ?_)
 simp [Tryz.f123, hres]
 have hj := (lft_ge hb2).1
 have hg := (lft_ge hb2).2
 have hs : left - ((szK TSignature.sz l k0 : Nat) : Int) - ((TSignature.sz l[k0] : Nat) : Int) = left - ((szK TSignature.sz l (k0 + 1) : Nat) : Int) := by omega
 simp only [hj]
 refine W.skip ?_
 apply Zs; intros
 iterate 3 (refine Zo ?_ (by simp [hb1, hx] <;> omega); simp [hb1, hx])
 exact Zx
 refine ⟨hb1, by omega, Wz.to rfl rfl rfl ?_⟩
 simp [hs]
 have hkl : k0 = l.length := by omega
 subst hkl
 have hfu := szK_full TSignature.sz l
 rw [hfu] at hi0
 have hres : lftI (szs TSignature.sz l) left = left - ((szK TSignature.sz l l.length : Nat) : Int) := by rw [hfu]; exact lft_eq hi0
 refine W.exit ?_
 apply Zr; intros
 iterate 2 (refine Zo ?_; simp)
 exact Zx
 refine W.ret (Zq ?_)
 simp [Tryz.f123, hres]
theorem szSignatureS_d (l : List TSignature) (left : Int) (h0 : 0 ≤ left) (h1 : left ≤ 1048576) (h : HP) : CS cx.P 123 [.d (.sl false sh154 (l.map (TSignature.dd false))), .d (.lf (.int .i64 (left)))] h (.d (.lf (.int .i64 (lftI (szs TSignature.sz l) left)))) h := szSignatureS_a l left h0 h1 (fun y _ left h0 h1 h => szSignature_d y left h0 h1 h) h
theorem szTrait_d (x : TTrait) (left : Int) (h0 : 0 ≤ left) (h1 : left ≤ 1048576) (h : HP) : CS cx.P 73 [.d (x.dd false), .d (.lf (.int .i64 (left)))] h (.d (.lf (.int .i64 (lftI x.sz left)))) h := by
 refine CS.fitD 0 (x.dd false) rfl fun hfit => ?_
 have hsz := x.sz_eq
 simp [DD.fit, DD.fits, okLeaf] at hfit
 have hw0 := i64w (n := left - ((x.fName.size : Nat) : Int)) (by omega) (by omega)
 refine Ze Tryz.func73 rfl 25 ?_
 apply Zr; intros
 iterate 2 (refine Zo ?_; simp)
 exact Zx
 apply Zr; intros
 iterate 6 (refine Zo ?_; simp)
 exact Zx
 refine W.seq ?_
 apply Zr; intros
 iterate 2 (refine Zo ?_; simp)
 exact Zx
 refine Zc rfl ?_ ?_ <;> intro hb0 <;> try simp [hw0] at hb0
 have hres : lftI x.sz left = -1 := lft_m1 (by omega)
 apply Zr; intros
 refine Zo ?_; simp
 exact Zx
 refine W.ret (Zq ?_)
 simp [Tryz.f73, hres]
 simp only [hw0]
 refine W.skip ?_
 apply Zr; intros
 iterate 3 (refine Zo ?_; simp)
 refine Zl [] rfl Tryz.func31 (szStringS_d x.fSupertraits (left - ((x.fName.size : Nat) : Int)) (by omega) (by omega) _) ?_; simp
 refine Zo ?_; simp
 exact Zx
 refine W.seq ?_
 apply Zr; intros
 iterate 2 (refine Zo ?_; simp)
 exact Zx
 refine Zc rfl ?_ ?_ <;> intro hb1 <;> try simp at hb1
 have hl1 := lft_lt hb1
 have hres : lftI x.sz left = -1 := lft_m1 (by omega)
 apply Zr; intros
 refine Zo ?_; simp
 exact Zx
 refine W.ret (Zq ?_)
 simp [Tryz.f73, hres]
 have hj1 := (lft_ge hb1).1
 have hg1 := (lft_ge hb1).2
 simp only [hj1]
 refine W.skip ?_
 apply Zr; intros
 iterate 3 (refine Zo ?_; simp)
 refine Zl [] rfl Tryz.func123 (szSignatureS_d x.fSignatures (left - ((x.fName.size : Nat) : Int) - ((szs ByteArray.size x.fSupertraits : Nat) : Int)) (by omega) (by omega) _) ?_; simp
 refine Zo ?_; simp
 exact Zx
 refine W.seq ?_
 apply Zr; intros
 iterate 2 (refine Zo ?_; simp)
 exact Zx
 refine Zc rfl ?_ ?_ <;> intro hb2 <;> try simp at hb2
 have hl2 := lft_lt hb2
 have hres : lftI x.sz left = -1 := lft_m1 (by omega)
 apply Zr; intros
 refine Zo ?_; simp
 exact Zx
 refine W.ret (Zq ?_)
 simp [Tryz.f73, hres]
 have hj2 := (lft_ge hb2).1
 have hg2 := (lft_ge hb2).2
 simp only [hj2]
 have hres : lftI x.sz left = left - ((x.fName.size : Nat) : Int) - ((szs ByteArray.size x.fSupertraits : Nat) : Int) - ((szs TSignature.sz x.fSignatures : Nat) : Int) := (lft_eq (by omega)).trans (by omega)
 refine W.skip ?_
 apply Zr; intros
 iterate 2 (refine Zo ?_; simp)
 exact Zx
 refine W.ret (Zq ?_)
 simp [Tryz.f73, hres]
theorem szTraitS_a (l : List TTrait) (left : Int) (h0 : 0 ≤ left) (h1 : left ≤ 1048576) (hc : ∀ y ∈ l, ∀ left, 0 ≤ left → left ≤ 1048576 → ∀ h, CS cx.P 73 [.d (y.dd false), .d (.lf (.int .i64 (left)))] h (.d (.lf (.int .i64 (lftI y.sz left)))) h) (h : HP) : CS cx.P 32 [.d (.sl false sh80 (l.map (TTrait.dd false))), .d (.lf (.int .i64 (left)))] h (.d (.lf (.int .i64 (lftI (szs TTrait.sz l) left)))) h := by
 refine CS.fitD 0 (.sl false sh80 (l.map (TTrait.dd false))) rfl fun hfit => ?_
 simp only [DD.fit, List.length_map, mxl] at hfit
 have hw0 := i64w (n := left - (l.length : Int)) (by omega) (by omega)
 refine Ze Tryz.func32 rfl 27 ?_
 apply Zr; intros
 refine Zo ?_; simp
 exact Zx
 apply Zr; intros
 iterate 5 (refine Zo ?_; simp)
 exact Zx
 refine W.seq ?_
 apply Zr; intros
 iterate 2 (refine Zo ?_; simp)
 exact Zx
 refine Zc rfl ?_ ?_ <;> intro hb0 <;> try simp [hw0] at hb0
 have hle := szK_le TTrait.sz l 0
 rw [szK_zero] at hle
 have hres : lftI (szs TTrait.sz l) left = -1 := lft_m1 (by omega)
 apply Zr; intros
 refine Zo ?_; simp
 exact Zx
 refine W.ret (Zq ?_)
 simp [Tryz.f32, hres]
 simp only [hw0]
 refine W.skip ?_
 refine W.seq ?_
 apply Zr; intros
 refine Zo ?_; simp
 exact Zx
 refine W.block ?_
 refine W.loopI [0] [] (fun k0 => [(5, .d (.lf (.int .i64 (k0 : Int)))), (1, .d (.lf (.int .i64 (left - ((szK TTrait.sz l k0 : Nat) : Int)))))]) (fun _ => []) l.length (fun k0 => ((szK TTrait.sz l k0 : Nat) : Int) ≤ left) rfl (by simp [szK_zero]) (by rw [szK_zero]; omega) fun k0 hk0 hi0 T hT => ?_
 simp at hT; subst hT
 refine W.seq ?_
 apply Zr; intros
 iterate 4 (refine Zo ?_; simp)
 exact Zx
 refine Zc rfl ?_ ?_ <;> intro hb1 <;> try simp at hb1
 have hx := ixNext hb1 (by omega)
 have hnx := szK_nx (g := TTrait.sz) hb1
 have hle := szK_le TTrait.sz l (k0 + 1)
 refine W.skip ?_
 refine Zb ?_
 apply Zr; intros
 iterate 5 (refine Zo ?_ (by simp [hb1, hx] <;> omega); simp [hb1, hx])
 refine Zl [] rfl Tryz.func73 (hc l[k0] (gm hb1) (left - ((szK TTrait.sz l k0 : Nat) : Int)) (by omega) (by omega) _) ?_ (by simp [hb1, hx]); simp [hb1, hx]
 refine Zo ?_ (by simp [hb1, hx] <;> omega); simp [hb1, hx]
 exact Zx
 apply Zr; intros
 iterate 2 (refine Zo ?_ (by simp [hb1, hx] <;> omega); simp [hb1, hx])
 exact Zx
 refine Zc rfl ?_ ?_ <;> intro hb2 <;> try simp at hb2
 have hl := lft_lt hb2
 have hres : lftI (szs TTrait.sz l) left = -1 := lft_m1 (by omega)
 apply Zr; intros
 refine Zo ?_ (by simp [hb1, hx] <;> omega); simp [hb1, hx]
 exact Zx
 refine W.ret (Zq ?_)
 simp [Tryz.f32, hres]
 have hj := (lft_ge hb2).1
 have hg := (lft_ge hb2).2
 have hs : left - ((szK TTrait.sz l k0 : Nat) : Int) - ((TTrait.sz l[k0] : Nat) : Int) = left - ((szK TTrait.sz l (k0 + 1) : Nat) : Int) := by omega
 simp only [hj]
 refine W.skip ?_
 apply Zs; intros
 iterate 3 (refine Zo ?_ (by simp [hb1, hx] <;> omega); simp [hb1, hx])
 exact Zx
 refine ⟨hb1, by omega, Wz.to rfl rfl rfl ?_⟩
 simp [hs]
 have hkl : k0 = l.length := by omega
 subst hkl
 have hfu := szK_full TTrait.sz l
 rw [hfu] at hi0
 have hres : lftI (szs TTrait.sz l) left = left - ((szK TTrait.sz l l.length : Nat) : Int) := by rw [hfu]; exact lft_eq hi0
 refine W.exit ?_
 apply Zr; intros
 iterate 2 (refine Zo ?_; simp)
 exact Zx
 refine W.ret (Zq ?_)
 simp [Tryz.f32, hres]
theorem szTraitS_d (l : List TTrait) (left : Int) (h0 : 0 ≤ left) (h1 : left ≤ 1048576) (h : HP) : CS cx.P 32 [.d (.sl false sh80 (l.map (TTrait.dd false))), .d (.lf (.int .i64 (left)))] h (.d (.lf (.int .i64 (lftI (szs TTrait.sz l) left)))) h := szTraitS_a l left h0 h1 (fun y _ left h0 h1 h => szTrait_d y left h0 h1 h) h
theorem szConstructor_d (x : TConstructor) (left : Int) (h0 : 0 ≤ left) (h1 : left ≤ 1048576) (h : HP) : CS cx.P 186 [.d (x.dd false), .d (.lf (.int .i64 (left)))] h (.d (.lf (.int .i64 (lftI x.sz left)))) h := by
 refine CS.fitD 0 (x.dd false) rfl fun hfit => ?_
 have hsz := x.sz_eq
 simp [DD.fit, DD.fits, okLeaf] at hfit
 have hw0 := i64w (n := left - ((x.fName.size : Nat) : Int)) (by omega) (by omega)
 refine Ze Tryz.func186 rfl 19 ?_
 apply Zr; intros
 iterate 2 (refine Zo ?_; simp)
 exact Zx
 apply Zr; intros
 iterate 6 (refine Zo ?_; simp)
 exact Zx
 refine W.seq ?_
 apply Zr; intros
 iterate 2 (refine Zo ?_; simp)
 exact Zx
 refine Zc rfl ?_ ?_ <;> intro hb0 <;> try simp [hw0] at hb0
 have hres : lftI x.sz left = -1 := lft_m1 (by omega)
 apply Zr; intros
 refine Zo ?_; simp
 exact Zx
 refine W.ret (Zq ?_)
 simp [Tryz.f186, hres]
 simp only [hw0]
 refine W.skip ?_
 apply Zr; intros
 iterate 3 (refine Zo ?_; simp)
 refine Zl [] rfl Tryz.func187 (szTypeS_d x.fFields (left - ((x.fName.size : Nat) : Int)) (by omega) (by omega) _) ?_; simp
 refine Zo ?_; simp
 exact Zx
 refine W.seq ?_
 apply Zr; intros
 iterate 2 (refine Zo ?_; simp)
 exact Zx
 refine Zc rfl ?_ ?_ <;> intro hb1 <;> try simp at hb1
 have hl1 := lft_lt hb1
 have hres : lftI x.sz left = -1 := lft_m1 (by omega)
 apply Zr; intros
 refine Zo ?_; simp
 exact Zx
 refine W.ret (Zq ?_)
 simp [Tryz.f186, hres]
 have hj1 := (lft_ge hb1).1
 have hg1 := (lft_ge hb1).2
 simp only [hj1]
 have hres : lftI x.sz left = left - ((x.fName.size : Nat) : Int) - ((szs TType.sz x.fFields : Nat) : Int) := (lft_eq (by omega)).trans (by omega)
 refine W.skip ?_
 apply Zr; intros
 iterate 2 (refine Zo ?_; simp)
 exact Zx
 refine W.ret (Zq ?_)
 simp [Tryz.f186, hres]
theorem szConstructorS_a (l : List TConstructor) (left : Int) (h0 : 0 ≤ left) (h1 : left ≤ 1048576) (hc : ∀ y ∈ l, ∀ left, 0 ≤ left → left ≤ 1048576 → ∀ h, CS cx.P 186 [.d (y.dd false), .d (.lf (.int .i64 (left)))] h (.d (.lf (.int .i64 (lftI y.sz left)))) h) (h : HP) : CS cx.P 124 [.d (.sl false sh159 (l.map (TConstructor.dd false))), .d (.lf (.int .i64 (left)))] h (.d (.lf (.int .i64 (lftI (szs TConstructor.sz l) left)))) h := by
 refine CS.fitD 0 (.sl false sh159 (l.map (TConstructor.dd false))) rfl fun hfit => ?_
 simp only [DD.fit, List.length_map, mxl] at hfit
 have hw0 := i64w (n := left - (l.length : Int)) (by omega) (by omega)
 refine Ze Tryz.func124 rfl 27 ?_
 apply Zr; intros
 refine Zo ?_; simp
 exact Zx
 apply Zr; intros
 iterate 5 (refine Zo ?_; simp)
 exact Zx
 refine W.seq ?_
 apply Zr; intros
 iterate 2 (refine Zo ?_; simp)
 exact Zx
 refine Zc rfl ?_ ?_ <;> intro hb0 <;> try simp [hw0] at hb0
 have hle := szK_le TConstructor.sz l 0
 rw [szK_zero] at hle
 have hres : lftI (szs TConstructor.sz l) left = -1 := lft_m1 (by omega)
 apply Zr; intros
 refine Zo ?_; simp
 exact Zx
 refine W.ret (Zq ?_)
 simp [Tryz.f124, hres]
 simp only [hw0]
 refine W.skip ?_
 refine W.seq ?_
 apply Zr; intros
 refine Zo ?_; simp
 exact Zx
 refine W.block ?_
 refine W.loopI [0] [] (fun k0 => [(5, .d (.lf (.int .i64 (k0 : Int)))), (1, .d (.lf (.int .i64 (left - ((szK TConstructor.sz l k0 : Nat) : Int)))))]) (fun _ => []) l.length (fun k0 => ((szK TConstructor.sz l k0 : Nat) : Int) ≤ left) rfl (by simp [szK_zero]) (by rw [szK_zero]; omega) fun k0 hk0 hi0 T hT => ?_
 simp at hT; subst hT
 refine W.seq ?_
 apply Zr; intros
 iterate 4 (refine Zo ?_; simp)
 exact Zx
 refine Zc rfl ?_ ?_ <;> intro hb1 <;> try simp at hb1
 have hx := ixNext hb1 (by omega)
 have hnx := szK_nx (g := TConstructor.sz) hb1
 have hle := szK_le TConstructor.sz l (k0 + 1)
 refine W.skip ?_
 refine Zb ?_
 apply Zr; intros
 iterate 5 (refine Zo ?_ (by simp [hb1, hx] <;> omega); simp [hb1, hx])
 refine Zl [] rfl Tryz.func186 (hc l[k0] (gm hb1) (left - ((szK TConstructor.sz l k0 : Nat) : Int)) (by omega) (by omega) _) ?_ (by simp [hb1, hx]); simp [hb1, hx]
 refine Zo ?_ (by simp [hb1, hx] <;> omega); simp [hb1, hx]
 exact Zx
 apply Zr; intros
 iterate 2 (refine Zo ?_ (by simp [hb1, hx] <;> omega); simp [hb1, hx])
 exact Zx
 refine Zc rfl ?_ ?_ <;> intro hb2 <;> try simp at hb2
 have hl := lft_lt hb2
 have hres : lftI (szs TConstructor.sz l) left = -1 := lft_m1 (by omega)
 apply Zr; intros
 refine Zo ?_ (by simp [hb1, hx] <;> omega); simp [hb1, hx]
 exact Zx
 refine W.ret (Zq ?_)
 simp [Tryz.f124, hres]
 have hj := (lft_ge hb2).1
 have hg := (lft_ge hb2).2
 have hs : left - ((szK TConstructor.sz l k0 : Nat) : Int) - ((TConstructor.sz l[k0] : Nat) : Int) = left - ((szK TConstructor.sz l (k0 + 1) : Nat) : Int) := by omega
 simp only [hj]
 refine W.skip ?_
 apply Zs; intros
 iterate 3 (refine Zo ?_ (by simp [hb1, hx] <;> omega); simp [hb1, hx])
 exact Zx
 refine ⟨hb1, by omega, Wz.to rfl rfl rfl ?_⟩
 simp [hs]
 have hkl : k0 = l.length := by omega
 subst hkl
 have hfu := szK_full TConstructor.sz l
 rw [hfu] at hi0
 have hres : lftI (szs TConstructor.sz l) left = left - ((szK TConstructor.sz l l.length : Nat) : Int) := by rw [hfu]; exact lft_eq hi0
 refine W.exit ?_
 apply Zr; intros
 iterate 2 (refine Zo ?_; simp)
 exact Zx
 refine W.ret (Zq ?_)
 simp [Tryz.f124, hres]
theorem szConstructorS_d (l : List TConstructor) (left : Int) (h0 : 0 ≤ left) (h1 : left ≤ 1048576) (h : HP) : CS cx.P 124 [.d (.sl false sh159 (l.map (TConstructor.dd false))), .d (.lf (.int .i64 (left)))] h (.d (.lf (.int .i64 (lftI (szs TConstructor.sz l) left)))) h := szConstructorS_a l left h0 h1 (fun y _ left h0 h1 h => szConstructor_d y left h0 h1 h) h
theorem szDataType_d (x : TDataType) (left : Int) (h0 : 0 ≤ left) (h1 : left ≤ 1048576) (h : HP) : CS cx.P 74 [.d (x.dd false), .d (.lf (.int .i64 (left)))] h (.d (.lf (.int .i64 (lftI x.sz left)))) h := by
 refine CS.fitD 0 (x.dd false) rfl fun hfit => ?_
 have hsz := x.sz_eq
 simp [DD.fit, DD.fits, okLeaf] at hfit
 have hw0 := i64w (n := left - ((x.fName.size : Nat) : Int)) (by omega) (by omega)
 refine Ze Tryz.func74 rfl 25 ?_
 apply Zr; intros
 iterate 2 (refine Zo ?_; simp)
 exact Zx
 apply Zr; intros
 iterate 6 (refine Zo ?_; simp)
 exact Zx
 refine W.seq ?_
 apply Zr; intros
 iterate 2 (refine Zo ?_; simp)
 exact Zx
 refine Zc rfl ?_ ?_ <;> intro hb0 <;> try simp [hw0] at hb0
 have hres : lftI x.sz left = -1 := lft_m1 (by omega)
 apply Zr; intros
 refine Zo ?_; simp
 exact Zx
 refine W.ret (Zq ?_)
 simp [Tryz.f74, hres]
 simp only [hw0]
 refine W.skip ?_
 apply Zr; intros
 iterate 3 (refine Zo ?_; simp)
 refine Zl [] rfl Tryz.func31 (szStringS_d x.fVars (left - ((x.fName.size : Nat) : Int)) (by omega) (by omega) _) ?_; simp
 refine Zo ?_; simp
 exact Zx
 refine W.seq ?_
 apply Zr; intros
 iterate 2 (refine Zo ?_; simp)
 exact Zx
 refine Zc rfl ?_ ?_ <;> intro hb1 <;> try simp at hb1
 have hl1 := lft_lt hb1
 have hres : lftI x.sz left = -1 := lft_m1 (by omega)
 apply Zr; intros
 refine Zo ?_; simp
 exact Zx
 refine W.ret (Zq ?_)
 simp [Tryz.f74, hres]
 have hj1 := (lft_ge hb1).1
 have hg1 := (lft_ge hb1).2
 simp only [hj1]
 refine W.skip ?_
 apply Zr; intros
 iterate 3 (refine Zo ?_; simp)
 refine Zl [] rfl Tryz.func124 (szConstructorS_d x.fConstructors (left - ((x.fName.size : Nat) : Int) - ((szs ByteArray.size x.fVars : Nat) : Int)) (by omega) (by omega) _) ?_; simp
 refine Zo ?_; simp
 exact Zx
 refine W.seq ?_
 apply Zr; intros
 iterate 2 (refine Zo ?_; simp)
 exact Zx
 refine Zc rfl ?_ ?_ <;> intro hb2 <;> try simp at hb2
 have hl2 := lft_lt hb2
 have hres : lftI x.sz left = -1 := lft_m1 (by omega)
 apply Zr; intros
 refine Zo ?_; simp
 exact Zx
 refine W.ret (Zq ?_)
 simp [Tryz.f74, hres]
 have hj2 := (lft_ge hb2).1
 have hg2 := (lft_ge hb2).2
 simp only [hj2]
 have hres : lftI x.sz left = left - ((x.fName.size : Nat) : Int) - ((szs ByteArray.size x.fVars : Nat) : Int) - ((szs TConstructor.sz x.fConstructors : Nat) : Int) := (lft_eq (by omega)).trans (by omega)
 refine W.skip ?_
 apply Zr; intros
 iterate 2 (refine Zo ?_; simp)
 exact Zx
 refine W.ret (Zq ?_)
 simp [Tryz.f74, hres]
theorem szDataTypeS_a (l : List TDataType) (left : Int) (h0 : 0 ≤ left) (h1 : left ≤ 1048576) (hc : ∀ y ∈ l, ∀ left, 0 ≤ left → left ≤ 1048576 → ∀ h, CS cx.P 74 [.d (y.dd false), .d (.lf (.int .i64 (left)))] h (.d (.lf (.int .i64 (lftI y.sz left)))) h) (h : HP) : CS cx.P 33 [.d (.sl false sh84 (l.map (TDataType.dd false))), .d (.lf (.int .i64 (left)))] h (.d (.lf (.int .i64 (lftI (szs TDataType.sz l) left)))) h := by
 refine CS.fitD 0 (.sl false sh84 (l.map (TDataType.dd false))) rfl fun hfit => ?_
 simp only [DD.fit, List.length_map, mxl] at hfit
 have hw0 := i64w (n := left - (l.length : Int)) (by omega) (by omega)
 refine Ze Tryz.func33 rfl 27 ?_
 apply Zr; intros
 refine Zo ?_; simp
 exact Zx
 apply Zr; intros
 iterate 5 (refine Zo ?_; simp)
 exact Zx
 refine W.seq ?_
 apply Zr; intros
 iterate 2 (refine Zo ?_; simp)
 exact Zx
 refine Zc rfl ?_ ?_ <;> intro hb0 <;> try simp [hw0] at hb0
 have hle := szK_le TDataType.sz l 0
 rw [szK_zero] at hle
 have hres : lftI (szs TDataType.sz l) left = -1 := lft_m1 (by omega)
 apply Zr; intros
 refine Zo ?_; simp
 exact Zx
 refine W.ret (Zq ?_)
 simp [Tryz.f33, hres]
 simp only [hw0]
 refine W.skip ?_
 refine W.seq ?_
 apply Zr; intros
 refine Zo ?_; simp
 exact Zx
 refine W.block ?_
 refine W.loopI [0] [] (fun k0 => [(5, .d (.lf (.int .i64 (k0 : Int)))), (1, .d (.lf (.int .i64 (left - ((szK TDataType.sz l k0 : Nat) : Int)))))]) (fun _ => []) l.length (fun k0 => ((szK TDataType.sz l k0 : Nat) : Int) ≤ left) rfl (by simp [szK_zero]) (by rw [szK_zero]; omega) fun k0 hk0 hi0 T hT => ?_
 simp at hT; subst hT
 refine W.seq ?_
 apply Zr; intros
 iterate 4 (refine Zo ?_; simp)
 exact Zx
 refine Zc rfl ?_ ?_ <;> intro hb1 <;> try simp at hb1
 have hx := ixNext hb1 (by omega)
 have hnx := szK_nx (g := TDataType.sz) hb1
 have hle := szK_le TDataType.sz l (k0 + 1)
 refine W.skip ?_
 refine Zb ?_
 apply Zr; intros
 iterate 5 (refine Zo ?_ (by simp [hb1, hx] <;> omega); simp [hb1, hx])
 refine Zl [] rfl Tryz.func74 (hc l[k0] (gm hb1) (left - ((szK TDataType.sz l k0 : Nat) : Int)) (by omega) (by omega) _) ?_ (by simp [hb1, hx]); simp [hb1, hx]
 refine Zo ?_ (by simp [hb1, hx] <;> omega); simp [hb1, hx]
 exact Zx
 apply Zr; intros
 iterate 2 (refine Zo ?_ (by simp [hb1, hx] <;> omega); simp [hb1, hx])
 exact Zx
 refine Zc rfl ?_ ?_ <;> intro hb2 <;> try simp at hb2
 have hl := lft_lt hb2
 have hres : lftI (szs TDataType.sz l) left = -1 := lft_m1 (by omega)
 apply Zr; intros
 refine Zo ?_ (by simp [hb1, hx] <;> omega); simp [hb1, hx]
 exact Zx
 refine W.ret (Zq ?_)
 simp [Tryz.f33, hres]
 have hj := (lft_ge hb2).1
 have hg := (lft_ge hb2).2
 have hs : left - ((szK TDataType.sz l k0 : Nat) : Int) - ((TDataType.sz l[k0] : Nat) : Int) = left - ((szK TDataType.sz l (k0 + 1) : Nat) : Int) := by omega
 simp only [hj]
 refine W.skip ?_
 apply Zs; intros
 iterate 3 (refine Zo ?_ (by simp [hb1, hx] <;> omega); simp [hb1, hx])
 exact Zx
 refine ⟨hb1, by omega, Wz.to rfl rfl rfl ?_⟩
 simp [hs]
 have hkl : k0 = l.length := by omega
 subst hkl
 have hfu := szK_full TDataType.sz l
 rw [hfu] at hi0
 have hres : lftI (szs TDataType.sz l) left = left - ((szK TDataType.sz l l.length : Nat) : Int) := by rw [hfu]; exact lft_eq hi0
 refine W.exit ?_
 apply Zr; intros
 iterate 2 (refine Zo ?_; simp)
 exact Zx
 refine W.ret (Zq ?_)
 simp [Tryz.f33, hres]
theorem szDataTypeS_d (l : List TDataType) (left : Int) (h0 : 0 ≤ left) (h1 : left ≤ 1048576) (h : HP) : CS cx.P 33 [.d (.sl false sh84 (l.map (TDataType.dd false))), .d (.lf (.int .i64 (left)))] h (.d (.lf (.int .i64 (lftI (szs TDataType.sz l) left)))) h := szDataTypeS_a l left h0 h1 (fun y _ left h0 h1 h => szDataType_d y left h0 h1 h) h
theorem szBound_d (x : TBound) (left : Int) (h0 : 0 ≤ left) (h1 : left ≤ 1048576) (h : HP) : CS cx.P 188 [.d (x.dd false), .d (.lf (.int .i64 (left)))] h (.d (.lf (.int .i64 (lftI x.sz left)))) h := by
 refine CS.fitD 0 (x.dd false) rfl fun hfit => ?_
 have hsz := x.sz_eq
 simp [DD.fit, DD.fits, okLeaf] at hfit
 have hw0 := i64w (n := left - ((x.fTrait.size : Nat) : Int)) (by omega) (by omega)
 refine Ze Tryz.func188 rfl 19 ?_
 apply Zr; intros
 iterate 2 (refine Zo ?_; simp)
 exact Zx
 apply Zr; intros
 iterate 6 (refine Zo ?_; simp)
 exact Zx
 refine W.seq ?_
 apply Zr; intros
 iterate 2 (refine Zo ?_; simp)
 exact Zx
 refine Zc rfl ?_ ?_ <;> intro hb0 <;> try simp [hw0] at hb0
 have hres : lftI x.sz left = -1 := lft_m1 (by omega)
 apply Zr; intros
 refine Zo ?_; simp
 exact Zx
 refine W.ret (Zq ?_)
 simp [Tryz.f188, hres]
 simp only [hw0]
 refine W.skip ?_
 apply Zr; intros
 iterate 3 (refine Zo ?_; simp)
 refine Zl [] rfl Tryz.func125 (szType_d x.fType (left - ((x.fTrait.size : Nat) : Int)) (by omega) (by omega) _) ?_; simp
 refine Zo ?_; simp
 exact Zx
 refine W.seq ?_
 apply Zr; intros
 iterate 2 (refine Zo ?_; simp)
 exact Zx
 refine Zc rfl ?_ ?_ <;> intro hb1 <;> try simp at hb1
 have hl1 := lft_lt hb1
 have hres : lftI x.sz left = -1 := lft_m1 (by omega)
 apply Zr; intros
 refine Zo ?_; simp
 exact Zx
 refine W.ret (Zq ?_)
 simp [Tryz.f188, hres]
 have hj1 := (lft_ge hb1).1
 have hg1 := (lft_ge hb1).2
 simp only [hj1]
 have hres : lftI x.sz left = left - ((x.fTrait.size : Nat) : Int) - ((x.fType.sz : Nat) : Int) := (lft_eq (by omega)).trans (by omega)
 refine W.skip ?_
 apply Zr; intros
 iterate 2 (refine Zo ?_; simp)
 exact Zx
 refine W.ret (Zq ?_)
 simp [Tryz.f188, hres]
theorem szBoundS_a (l : List TBound) (left : Int) (h0 : 0 ≤ left) (h1 : left ≤ 1048576) (hc : ∀ y ∈ l, ∀ left, 0 ≤ left → left ≤ 1048576 → ∀ h, CS cx.P 188 [.d (y.dd false), .d (.lf (.int .i64 (left)))] h (.d (.lf (.int .i64 (lftI y.sz left)))) h) (h : HP) : CS cx.P 126 [.d (.sl false sh206 (l.map (TBound.dd false))), .d (.lf (.int .i64 (left)))] h (.d (.lf (.int .i64 (lftI (szs TBound.sz l) left)))) h := by
 refine CS.fitD 0 (.sl false sh206 (l.map (TBound.dd false))) rfl fun hfit => ?_
 simp only [DD.fit, List.length_map, mxl] at hfit
 have hw0 := i64w (n := left - (l.length : Int)) (by omega) (by omega)
 refine Ze Tryz.func126 rfl 27 ?_
 apply Zr; intros
 refine Zo ?_; simp
 exact Zx
 apply Zr; intros
 iterate 5 (refine Zo ?_; simp)
 exact Zx
 refine W.seq ?_
 apply Zr; intros
 iterate 2 (refine Zo ?_; simp)
 exact Zx
 refine Zc rfl ?_ ?_ <;> intro hb0 <;> try simp [hw0] at hb0
 have hle := szK_le TBound.sz l 0
 rw [szK_zero] at hle
 have hres : lftI (szs TBound.sz l) left = -1 := lft_m1 (by omega)
 apply Zr; intros
 refine Zo ?_; simp
 exact Zx
 refine W.ret (Zq ?_)
 simp [Tryz.f126, hres]
 simp only [hw0]
 refine W.skip ?_
 refine W.seq ?_
 apply Zr; intros
 refine Zo ?_; simp
 exact Zx
 refine W.block ?_
 refine W.loopI [0] [] (fun k0 => [(5, .d (.lf (.int .i64 (k0 : Int)))), (1, .d (.lf (.int .i64 (left - ((szK TBound.sz l k0 : Nat) : Int)))))]) (fun _ => []) l.length (fun k0 => ((szK TBound.sz l k0 : Nat) : Int) ≤ left) rfl (by simp [szK_zero]) (by rw [szK_zero]; omega) fun k0 hk0 hi0 T hT => ?_
 simp at hT; subst hT
 refine W.seq ?_
 apply Zr; intros
 iterate 4 (refine Zo ?_; simp)
 exact Zx
 refine Zc rfl ?_ ?_ <;> intro hb1 <;> try simp at hb1
 have hx := ixNext hb1 (by omega)
 have hnx := szK_nx (g := TBound.sz) hb1
 have hle := szK_le TBound.sz l (k0 + 1)
 refine W.skip ?_
 refine Zb ?_
 apply Zr; intros
 iterate 5 (refine Zo ?_ (by simp [hb1, hx] <;> omega); simp [hb1, hx])
 refine Zl [] rfl Tryz.func188 (hc l[k0] (gm hb1) (left - ((szK TBound.sz l k0 : Nat) : Int)) (by omega) (by omega) _) ?_ (by simp [hb1, hx]); simp [hb1, hx]
 refine Zo ?_ (by simp [hb1, hx] <;> omega); simp [hb1, hx]
 exact Zx
 apply Zr; intros
 iterate 2 (refine Zo ?_ (by simp [hb1, hx] <;> omega); simp [hb1, hx])
 exact Zx
 refine Zc rfl ?_ ?_ <;> intro hb2 <;> try simp at hb2
 have hl := lft_lt hb2
 have hres : lftI (szs TBound.sz l) left = -1 := lft_m1 (by omega)
 apply Zr; intros
 refine Zo ?_ (by simp [hb1, hx] <;> omega); simp [hb1, hx]
 exact Zx
 refine W.ret (Zq ?_)
 simp [Tryz.f126, hres]
 have hj := (lft_ge hb2).1
 have hg := (lft_ge hb2).2
 have hs : left - ((szK TBound.sz l k0 : Nat) : Int) - ((TBound.sz l[k0] : Nat) : Int) = left - ((szK TBound.sz l (k0 + 1) : Nat) : Int) := by omega
 simp only [hj]
 refine W.skip ?_
 apply Zs; intros
 iterate 3 (refine Zo ?_ (by simp [hb1, hx] <;> omega); simp [hb1, hx])
 exact Zx
 refine ⟨hb1, by omega, Wz.to rfl rfl rfl ?_⟩
 simp [hs]
 have hkl : k0 = l.length := by omega
 subst hkl
 have hfu := szK_full TBound.sz l
 rw [hfu] at hi0
 have hres : lftI (szs TBound.sz l) left = left - ((szK TBound.sz l l.length : Nat) : Int) := by rw [hfu]; exact lft_eq hi0
 refine W.exit ?_
 apply Zr; intros
 iterate 2 (refine Zo ?_; simp)
 exact Zx
 refine W.ret (Zq ?_)
 simp [Tryz.f126, hres]
theorem szBoundS_d (l : List TBound) (left : Int) (h0 : 0 ≤ left) (h1 : left ≤ 1048576) (h : HP) : CS cx.P 126 [.d (.sl false sh206 (l.map (TBound.dd false))), .d (.lf (.int .i64 (left)))] h (.d (.lf (.int .i64 (lftI (szs TBound.sz l) left)))) h := szBoundS_a l left h0 h1 (fun y _ left h0 h1 h => szBound_d y left h0 h1 h) h
theorem szMethod_d (x : TMethod) (left : Int) (h0 : 0 ≤ left) (h1 : left ≤ 1048576) (h : HP) : CS cx.P 189 [.d (x.dd false), .d (.lf (.int .i64 (left)))] h (.d (.lf (.int .i64 (lftI x.sz left)))) h := by
 refine CS.fitD 0 (x.dd false) rfl fun hfit => ?_
 have hsz := x.sz_eq
 simp [DD.fit, DD.fits, okLeaf] at hfit
 have hw0 := i64w (n := left - ((x.fName.size : Nat) : Int)) (by omega) (by omega)
 refine Ze Tryz.func189 rfl 25 ?_
 apply Zr; intros
 iterate 2 (refine Zo ?_; simp)
 exact Zx
 apply Zr; intros
 iterate 6 (refine Zo ?_; simp)
 exact Zx
 refine W.seq ?_
 apply Zr; intros
 iterate 2 (refine Zo ?_; simp)
 exact Zx
 refine Zc rfl ?_ ?_ <;> intro hb0 <;> try simp [hw0] at hb0
 have hres : lftI x.sz left = -1 := lft_m1 (by omega)
 apply Zr; intros
 refine Zo ?_; simp
 exact Zx
 refine W.ret (Zq ?_)
 simp [Tryz.f189, hres]
 simp only [hw0]
 refine W.skip ?_
 apply Zr; intros
 iterate 3 (refine Zo ?_; simp)
 refine Zl [] rfl Tryz.func31 (szStringS_d x.fVars (left - ((x.fName.size : Nat) : Int)) (by omega) (by omega) _) ?_; simp
 refine Zo ?_; simp
 exact Zx
 refine W.seq ?_
 apply Zr; intros
 iterate 2 (refine Zo ?_; simp)
 exact Zx
 refine Zc rfl ?_ ?_ <;> intro hb1 <;> try simp at hb1
 have hl1 := lft_lt hb1
 have hres : lftI x.sz left = -1 := lft_m1 (by omega)
 apply Zr; intros
 refine Zo ?_; simp
 exact Zx
 refine W.ret (Zq ?_)
 simp [Tryz.f189, hres]
 have hj1 := (lft_ge hb1).1
 have hg1 := (lft_ge hb1).2
 simp only [hj1]
 refine W.skip ?_
 apply Zr; intros
 iterate 3 (refine Zo ?_; simp)
 refine Zl [] rfl Tryz.func129 (szExpr_d x.fBody (left - ((x.fName.size : Nat) : Int) - ((szs ByteArray.size x.fVars : Nat) : Int)) (by omega) (by omega) _) ?_; simp
 refine Zo ?_; simp
 exact Zx
 refine W.seq ?_
 apply Zr; intros
 iterate 2 (refine Zo ?_; simp)
 exact Zx
 refine Zc rfl ?_ ?_ <;> intro hb2 <;> try simp at hb2
 have hl2 := lft_lt hb2
 have hres : lftI x.sz left = -1 := lft_m1 (by omega)
 apply Zr; intros
 refine Zo ?_; simp
 exact Zx
 refine W.ret (Zq ?_)
 simp [Tryz.f189, hres]
 have hj2 := (lft_ge hb2).1
 have hg2 := (lft_ge hb2).2
 simp only [hj2]
 have hres : lftI x.sz left = left - ((x.fName.size : Nat) : Int) - ((szs ByteArray.size x.fVars : Nat) : Int) - ((x.fBody.sz : Nat) : Int) := (lft_eq (by omega)).trans (by omega)
 refine W.skip ?_
 apply Zr; intros
 iterate 2 (refine Zo ?_; simp)
 exact Zx
 refine W.ret (Zq ?_)
 simp [Tryz.f189, hres]
theorem szMethodS_a (l : List TMethod) (left : Int) (h0 : 0 ≤ left) (h1 : left ≤ 1048576) (hc : ∀ y ∈ l, ∀ left, 0 ≤ left → left ≤ 1048576 → ∀ h, CS cx.P 189 [.d (y.dd false), .d (.lf (.int .i64 (left)))] h (.d (.lf (.int .i64 (lftI y.sz left)))) h) (h : HP) : CS cx.P 127 [.d (.sl false sh164 (l.map (TMethod.dd false))), .d (.lf (.int .i64 (left)))] h (.d (.lf (.int .i64 (lftI (szs TMethod.sz l) left)))) h := by
 refine CS.fitD 0 (.sl false sh164 (l.map (TMethod.dd false))) rfl fun hfit => ?_
 simp only [DD.fit, List.length_map, mxl] at hfit
 have hw0 := i64w (n := left - (l.length : Int)) (by omega) (by omega)
 refine Ze Tryz.func127 rfl 27 ?_
 apply Zr; intros
 refine Zo ?_; simp
 exact Zx
 apply Zr; intros
 iterate 5 (refine Zo ?_; simp)
 exact Zx
 refine W.seq ?_
 apply Zr; intros
 iterate 2 (refine Zo ?_; simp)
 exact Zx
 refine Zc rfl ?_ ?_ <;> intro hb0 <;> try simp [hw0] at hb0
 have hle := szK_le TMethod.sz l 0
 rw [szK_zero] at hle
 have hres : lftI (szs TMethod.sz l) left = -1 := lft_m1 (by omega)
 apply Zr; intros
 refine Zo ?_; simp
 exact Zx
 refine W.ret (Zq ?_)
 simp [Tryz.f127, hres]
 simp only [hw0]
 refine W.skip ?_
 refine W.seq ?_
 apply Zr; intros
 refine Zo ?_; simp
 exact Zx
 refine W.block ?_
 refine W.loopI [0] [] (fun k0 => [(5, .d (.lf (.int .i64 (k0 : Int)))), (1, .d (.lf (.int .i64 (left - ((szK TMethod.sz l k0 : Nat) : Int)))))]) (fun _ => []) l.length (fun k0 => ((szK TMethod.sz l k0 : Nat) : Int) ≤ left) rfl (by simp [szK_zero]) (by rw [szK_zero]; omega) fun k0 hk0 hi0 T hT => ?_
 simp at hT; subst hT
 refine W.seq ?_
 apply Zr; intros
 iterate 4 (refine Zo ?_; simp)
 exact Zx
 refine Zc rfl ?_ ?_ <;> intro hb1 <;> try simp at hb1
 have hx := ixNext hb1 (by omega)
 have hnx := szK_nx (g := TMethod.sz) hb1
 have hle := szK_le TMethod.sz l (k0 + 1)
 refine W.skip ?_
 refine Zb ?_
 apply Zr; intros
 iterate 5 (refine Zo ?_ (by simp [hb1, hx] <;> omega); simp [hb1, hx])
 refine Zl [] rfl Tryz.func189 (hc l[k0] (gm hb1) (left - ((szK TMethod.sz l k0 : Nat) : Int)) (by omega) (by omega) _) ?_ (by simp [hb1, hx]); simp [hb1, hx]
 refine Zo ?_ (by simp [hb1, hx] <;> omega); simp [hb1, hx]
 exact Zx
 apply Zr; intros
 iterate 2 (refine Zo ?_ (by simp [hb1, hx] <;> omega); simp [hb1, hx])
 exact Zx
 refine Zc rfl ?_ ?_ <;> intro hb2 <;> try simp at hb2
 have hl := lft_lt hb2
 have hres : lftI (szs TMethod.sz l) left = -1 := lft_m1 (by omega)
 apply Zr; intros
 refine Zo ?_ (by simp [hb1, hx] <;> omega); simp [hb1, hx]
 exact Zx
 refine W.ret (Zq ?_)
 simp [Tryz.f127, hres]
 have hj := (lft_ge hb2).1
 have hg := (lft_ge hb2).2
 have hs : left - ((szK TMethod.sz l k0 : Nat) : Int) - ((TMethod.sz l[k0] : Nat) : Int) = left - ((szK TMethod.sz l (k0 + 1) : Nat) : Int) := by omega
 simp only [hj]
 refine W.skip ?_
 apply Zs; intros
 iterate 3 (refine Zo ?_ (by simp [hb1, hx] <;> omega); simp [hb1, hx])
 exact Zx
 refine ⟨hb1, by omega, Wz.to rfl rfl rfl ?_⟩
 simp [hs]
 have hkl : k0 = l.length := by omega
 subst hkl
 have hfu := szK_full TMethod.sz l
 rw [hfu] at hi0
 have hres : lftI (szs TMethod.sz l) left = left - ((szK TMethod.sz l l.length : Nat) : Int) := by rw [hfu]; exact lft_eq hi0
 refine W.exit ?_
 apply Zr; intros
 iterate 2 (refine Zo ?_; simp)
 exact Zx
 refine W.ret (Zq ?_)
 simp [Tryz.f127, hres]
theorem szMethodS_d (l : List TMethod) (left : Int) (h0 : 0 ≤ left) (h1 : left ≤ 1048576) (h : HP) : CS cx.P 127 [.d (.sl false sh164 (l.map (TMethod.dd false))), .d (.lf (.int .i64 (left)))] h (.d (.lf (.int .i64 (lftI (szs TMethod.sz l) left)))) h := szMethodS_a l left h0 h1 (fun y _ left h0 h1 h => szMethod_d y left h0 h1 h) h
theorem szInstance_d (x : TInstance) (left : Int) (h0 : 0 ≤ left) (h1 : left ≤ 1048576) (h : HP) : CS cx.P 75 [.d (x.dd false), .d (.lf (.int .i64 (left)))] h (.d (.lf (.int .i64 (lftI x.sz left)))) h := by
 refine CS.fitD 0 (x.dd false) rfl fun hfit => ?_
 have hsz := x.sz_eq
 simp [DD.fit, DD.fits, okLeaf] at hfit
 have hw0 := i64w (n := left - ((x.fTrait.size : Nat) : Int)) (by omega) (by omega)
 refine Ze Tryz.func75 rfl 43 ?_
 apply Zr; intros
 iterate 2 (refine Zo ?_; simp)
 exact Zx
 apply Zr; intros
 iterate 6 (refine Zo ?_; simp)
 exact Zx
 refine W.seq ?_
 apply Zr; intros
 iterate 2 (refine Zo ?_; simp)
 exact Zx
 refine Zc rfl ?_ ?_ <;> intro hb0 <;> try simp [hw0] at hb0
 have hres : lftI x.sz left = -1 := lft_m1 (by omega)
 apply Zr; intros
 refine Zo ?_; simp
 exact Zx
 refine W.ret (Zq ?_)
 simp [Tryz.f75, hres]
 simp only [hw0]
 refine W.skip ?_
 apply Zr; intros
 iterate 3 (refine Zo ?_; simp)
 refine Zl [] rfl Tryz.func31 (szStringS_d x.fVars (left - ((x.fTrait.size : Nat) : Int)) (by omega) (by omega) _) ?_; simp
 refine Zo ?_; simp
 exact Zx
 refine W.seq ?_
 apply Zr; intros
 iterate 2 (refine Zo ?_; simp)
 exact Zx
 refine Zc rfl ?_ ?_ <;> intro hb1 <;> try simp at hb1
 have hl1 := lft_lt hb1
 have hres : lftI x.sz left = -1 := lft_m1 (by omega)
 apply Zr; intros
 refine Zo ?_; simp
 exact Zx
 refine W.ret (Zq ?_)
 simp [Tryz.f75, hres]
 have hj1 := (lft_ge hb1).1
 have hg1 := (lft_ge hb1).2
 simp only [hj1]
 refine W.skip ?_
 apply Zr; intros
 iterate 3 (refine Zo ?_; simp)
 refine Zl [] rfl Tryz.func125 (szType_d x.fHead (left - ((x.fTrait.size : Nat) : Int) - ((szs ByteArray.size x.fVars : Nat) : Int)) (by omega) (by omega) _) ?_; simp
 refine Zo ?_; simp
 exact Zx
 refine W.seq ?_
 apply Zr; intros
 iterate 2 (refine Zo ?_; simp)
 exact Zx
 refine Zc rfl ?_ ?_ <;> intro hb2 <;> try simp at hb2
 have hl2 := lft_lt hb2
 have hres : lftI x.sz left = -1 := lft_m1 (by omega)
 apply Zr; intros
 refine Zo ?_; simp
 exact Zx
 refine W.ret (Zq ?_)
 simp [Tryz.f75, hres]
 have hj2 := (lft_ge hb2).1
 have hg2 := (lft_ge hb2).2
 simp only [hj2]
 refine W.skip ?_
 apply Zr; intros
 iterate 3 (refine Zo ?_; simp)
 refine Zl [] rfl Tryz.func126 (szBoundS_d x.fWhere (left - ((x.fTrait.size : Nat) : Int) - ((szs ByteArray.size x.fVars : Nat) : Int) - ((x.fHead.sz : Nat) : Int)) (by omega) (by omega) _) ?_; simp
 refine Zo ?_; simp
 exact Zx
 refine W.seq ?_
 apply Zr; intros
 iterate 2 (refine Zo ?_; simp)
 exact Zx
 refine Zc rfl ?_ ?_ <;> intro hb3 <;> try simp at hb3
 have hl3 := lft_lt hb3
 have hres : lftI x.sz left = -1 := lft_m1 (by omega)
 apply Zr; intros
 refine Zo ?_; simp
 exact Zx
 refine W.ret (Zq ?_)
 simp [Tryz.f75, hres]
 have hj3 := (lft_ge hb3).1
 have hg3 := (lft_ge hb3).2
 simp only [hj3]
 refine W.skip ?_
 apply Zr; intros
 iterate 3 (refine Zo ?_; simp)
 refine Zl [] rfl Tryz.func125 (szType_d x.fAssoc (left - ((x.fTrait.size : Nat) : Int) - ((szs ByteArray.size x.fVars : Nat) : Int) - ((x.fHead.sz : Nat) : Int) - ((szs TBound.sz x.fWhere : Nat) : Int)) (by omega) (by omega) _) ?_; simp
 refine Zo ?_; simp
 exact Zx
 refine W.seq ?_
 apply Zr; intros
 iterate 2 (refine Zo ?_; simp)
 exact Zx
 refine Zc rfl ?_ ?_ <;> intro hb4 <;> try simp at hb4
 have hl4 := lft_lt hb4
 have hres : lftI x.sz left = -1 := lft_m1 (by omega)
 apply Zr; intros
 refine Zo ?_; simp
 exact Zx
 refine W.ret (Zq ?_)
 simp [Tryz.f75, hres]
 have hj4 := (lft_ge hb4).1
 have hg4 := (lft_ge hb4).2
 simp only [hj4]
 refine W.skip ?_
 apply Zr; intros
 iterate 3 (refine Zo ?_; simp)
 refine Zl [] rfl Tryz.func127 (szMethodS_d x.fMethods (left - ((x.fTrait.size : Nat) : Int) - ((szs ByteArray.size x.fVars : Nat) : Int) - ((x.fHead.sz : Nat) : Int) - ((szs TBound.sz x.fWhere : Nat) : Int) - ((x.fAssoc.sz : Nat) : Int)) (by omega) (by omega) _) ?_; simp
 refine Zo ?_; simp
 exact Zx
 refine W.seq ?_
 apply Zr; intros
 iterate 2 (refine Zo ?_; simp)
 exact Zx
 refine Zc rfl ?_ ?_ <;> intro hb5 <;> try simp at hb5
 have hl5 := lft_lt hb5
 have hres : lftI x.sz left = -1 := lft_m1 (by omega)
 apply Zr; intros
 refine Zo ?_; simp
 exact Zx
 refine W.ret (Zq ?_)
 simp [Tryz.f75, hres]
 have hj5 := (lft_ge hb5).1
 have hg5 := (lft_ge hb5).2
 simp only [hj5]
 have hres : lftI x.sz left = left - ((x.fTrait.size : Nat) : Int) - ((szs ByteArray.size x.fVars : Nat) : Int) - ((x.fHead.sz : Nat) : Int) - ((szs TBound.sz x.fWhere : Nat) : Int) - ((x.fAssoc.sz : Nat) : Int) - ((szs TMethod.sz x.fMethods : Nat) : Int) := (lft_eq (by omega)).trans (by omega)
 refine W.skip ?_
 apply Zr; intros
 iterate 2 (refine Zo ?_; simp)
 exact Zx
 refine W.ret (Zq ?_)
 simp [Tryz.f75, hres]
theorem szInstanceS_a (l : List TInstance) (left : Int) (h0 : 0 ≤ left) (h1 : left ≤ 1048576) (hc : ∀ y ∈ l, ∀ left, 0 ≤ left → left ≤ 1048576 → ∀ h, CS cx.P 75 [.d (y.dd false), .d (.lf (.int .i64 (left)))] h (.d (.lf (.int .i64 (lftI y.sz left)))) h) (h : HP) : CS cx.P 34 [.d (.sl false sh92 (l.map (TInstance.dd false))), .d (.lf (.int .i64 (left)))] h (.d (.lf (.int .i64 (lftI (szs TInstance.sz l) left)))) h := by
 refine CS.fitD 0 (.sl false sh92 (l.map (TInstance.dd false))) rfl fun hfit => ?_
 simp only [DD.fit, List.length_map, mxl] at hfit
 have hw0 := i64w (n := left - (l.length : Int)) (by omega) (by omega)
 refine Ze Tryz.func34 rfl 27 ?_
 apply Zr; intros
 refine Zo ?_; simp
 exact Zx
 apply Zr; intros
 iterate 5 (refine Zo ?_; simp)
 exact Zx
 refine W.seq ?_
 apply Zr; intros
 iterate 2 (refine Zo ?_; simp)
 exact Zx
 refine Zc rfl ?_ ?_ <;> intro hb0 <;> try simp [hw0] at hb0
 have hle := szK_le TInstance.sz l 0
 rw [szK_zero] at hle
 have hres : lftI (szs TInstance.sz l) left = -1 := lft_m1 (by omega)
 apply Zr; intros
 refine Zo ?_; simp
 exact Zx
 refine W.ret (Zq ?_)
 simp [Tryz.f34, hres]
 simp only [hw0]
 refine W.skip ?_
 refine W.seq ?_
 apply Zr; intros
 refine Zo ?_; simp
 exact Zx
 refine W.block ?_
 refine W.loopI [0] [] (fun k0 => [(5, .d (.lf (.int .i64 (k0 : Int)))), (1, .d (.lf (.int .i64 (left - ((szK TInstance.sz l k0 : Nat) : Int)))))]) (fun _ => []) l.length (fun k0 => ((szK TInstance.sz l k0 : Nat) : Int) ≤ left) rfl (by simp [szK_zero]) (by rw [szK_zero]; omega) fun k0 hk0 hi0 T hT => ?_
 simp at hT; subst hT
 refine W.seq ?_
 apply Zr; intros
 iterate 4 (refine Zo ?_; simp)
 exact Zx
 refine Zc rfl ?_ ?_ <;> intro hb1 <;> try simp at hb1
 have hx := ixNext hb1 (by omega)
 have hnx := szK_nx (g := TInstance.sz) hb1
 have hle := szK_le TInstance.sz l (k0 + 1)
 refine W.skip ?_
 refine Zb ?_
 apply Zr; intros
 iterate 5 (refine Zo ?_ (by simp [hb1, hx] <;> omega); simp [hb1, hx])
 refine Zl [] rfl Tryz.func75 (hc l[k0] (gm hb1) (left - ((szK TInstance.sz l k0 : Nat) : Int)) (by omega) (by omega) _) ?_ (by simp [hb1, hx]); simp [hb1, hx]
 refine Zo ?_ (by simp [hb1, hx] <;> omega); simp [hb1, hx]
 exact Zx
 apply Zr; intros
 iterate 2 (refine Zo ?_ (by simp [hb1, hx] <;> omega); simp [hb1, hx])
 exact Zx
 refine Zc rfl ?_ ?_ <;> intro hb2 <;> try simp at hb2
 have hl := lft_lt hb2
 have hres : lftI (szs TInstance.sz l) left = -1 := lft_m1 (by omega)
 apply Zr; intros
 refine Zo ?_ (by simp [hb1, hx] <;> omega); simp [hb1, hx]
 exact Zx
 refine W.ret (Zq ?_)
 simp [Tryz.f34, hres]
 have hj := (lft_ge hb2).1
 have hg := (lft_ge hb2).2
 have hs : left - ((szK TInstance.sz l k0 : Nat) : Int) - ((TInstance.sz l[k0] : Nat) : Int) = left - ((szK TInstance.sz l (k0 + 1) : Nat) : Int) := by omega
 simp only [hj]
 refine W.skip ?_
 apply Zs; intros
 iterate 3 (refine Zo ?_ (by simp [hb1, hx] <;> omega); simp [hb1, hx])
 exact Zx
 refine ⟨hb1, by omega, Wz.to rfl rfl rfl ?_⟩
 simp [hs]
 have hkl : k0 = l.length := by omega
 subst hkl
 have hfu := szK_full TInstance.sz l
 rw [hfu] at hi0
 have hres : lftI (szs TInstance.sz l) left = left - ((szK TInstance.sz l l.length : Nat) : Int) := by rw [hfu]; exact lft_eq hi0
 refine W.exit ?_
 apply Zr; intros
 iterate 2 (refine Zo ?_; simp)
 exact Zx
 refine W.ret (Zq ?_)
 simp [Tryz.f34, hres]
theorem szInstanceS_d (l : List TInstance) (left : Int) (h0 : 0 ≤ left) (h1 : left ≤ 1048576) (h : HP) : CS cx.P 34 [.d (.sl false sh92 (l.map (TInstance.dd false))), .d (.lf (.int .i64 (left)))] h (.d (.lf (.int .i64 (lftI (szs TInstance.sz l) left)))) h := szInstanceS_a l left h0 h1 (fun y _ left h0 h1 h => szInstance_d y left h0 h1 h) h
theorem szParam_d (x : TParam) (left : Int) (h0 : 0 ≤ left) (h1 : left ≤ 1048576) (h : HP) : CS cx.P 190 [.d (x.dd false), .d (.lf (.int .i64 (left)))] h (.d (.lf (.int .i64 (lftI x.sz left)))) h := by
 refine CS.fitD 0 (x.dd false) rfl fun hfit => ?_
 have hsz := x.sz_eq
 simp [DD.fit, DD.fits, okLeaf] at hfit
 have hw0 := i64w (n := left - ((x.fName.size : Nat) : Int)) (by omega) (by omega)
 refine Ze Tryz.func190 rfl 19 ?_
 apply Zr; intros
 iterate 2 (refine Zo ?_; simp)
 exact Zx
 apply Zr; intros
 iterate 6 (refine Zo ?_; simp)
 exact Zx
 refine W.seq ?_
 apply Zr; intros
 iterate 2 (refine Zo ?_; simp)
 exact Zx
 refine Zc rfl ?_ ?_ <;> intro hb0 <;> try simp [hw0] at hb0
 have hres : lftI x.sz left = -1 := lft_m1 (by omega)
 apply Zr; intros
 refine Zo ?_; simp
 exact Zx
 refine W.ret (Zq ?_)
 simp [Tryz.f190, hres]
 simp only [hw0]
 refine W.skip ?_
 apply Zr; intros
 iterate 3 (refine Zo ?_; simp)
 refine Zl [] rfl Tryz.func125 (szType_d x.fType (left - ((x.fName.size : Nat) : Int)) (by omega) (by omega) _) ?_; simp
 refine Zo ?_; simp
 exact Zx
 refine W.seq ?_
 apply Zr; intros
 iterate 2 (refine Zo ?_; simp)
 exact Zx
 refine Zc rfl ?_ ?_ <;> intro hb1 <;> try simp at hb1
 have hl1 := lft_lt hb1
 have hres : lftI x.sz left = -1 := lft_m1 (by omega)
 apply Zr; intros
 refine Zo ?_; simp
 exact Zx
 refine W.ret (Zq ?_)
 simp [Tryz.f190, hres]
 have hj1 := (lft_ge hb1).1
 have hg1 := (lft_ge hb1).2
 simp only [hj1]
 have hres : lftI x.sz left = left - ((x.fName.size : Nat) : Int) - ((x.fType.sz : Nat) : Int) := (lft_eq (by omega)).trans (by omega)
 refine W.skip ?_
 apply Zr; intros
 iterate 2 (refine Zo ?_; simp)
 exact Zx
 refine W.ret (Zq ?_)
 simp [Tryz.f190, hres]
theorem szParamS_a (l : List TParam) (left : Int) (h0 : 0 ≤ left) (h1 : left ≤ 1048576) (hc : ∀ y ∈ l, ∀ left, 0 ≤ left → left ≤ 1048576 → ∀ h, CS cx.P 190 [.d (y.dd false), .d (.lf (.int .i64 (left)))] h (.d (.lf (.int .i64 (lftI y.sz left)))) h) (h : HP) : CS cx.P 128 [.d (.sl false sh167 (l.map (TParam.dd false))), .d (.lf (.int .i64 (left)))] h (.d (.lf (.int .i64 (lftI (szs TParam.sz l) left)))) h := by
 refine CS.fitD 0 (.sl false sh167 (l.map (TParam.dd false))) rfl fun hfit => ?_
 simp only [DD.fit, List.length_map, mxl] at hfit
 have hw0 := i64w (n := left - (l.length : Int)) (by omega) (by omega)
 refine Ze Tryz.func128 rfl 27 ?_
 apply Zr; intros
 refine Zo ?_; simp
 exact Zx
 apply Zr; intros
 iterate 5 (refine Zo ?_; simp)
 exact Zx
 refine W.seq ?_
 apply Zr; intros
 iterate 2 (refine Zo ?_; simp)
 exact Zx
 refine Zc rfl ?_ ?_ <;> intro hb0 <;> try simp [hw0] at hb0
 have hle := szK_le TParam.sz l 0
 rw [szK_zero] at hle
 have hres : lftI (szs TParam.sz l) left = -1 := lft_m1 (by omega)
 apply Zr; intros
 refine Zo ?_; simp
 exact Zx
 refine W.ret (Zq ?_)
 simp [Tryz.f128, hres]
 simp only [hw0]
 refine W.skip ?_
 refine W.seq ?_
 apply Zr; intros
 refine Zo ?_; simp
 exact Zx
 refine W.block ?_
 refine W.loopI [0] [] (fun k0 => [(5, .d (.lf (.int .i64 (k0 : Int)))), (1, .d (.lf (.int .i64 (left - ((szK TParam.sz l k0 : Nat) : Int)))))]) (fun _ => []) l.length (fun k0 => ((szK TParam.sz l k0 : Nat) : Int) ≤ left) rfl (by simp [szK_zero]) (by rw [szK_zero]; omega) fun k0 hk0 hi0 T hT => ?_
 simp at hT; subst hT
 refine W.seq ?_
 apply Zr; intros
 iterate 4 (refine Zo ?_; simp)
 exact Zx
 refine Zc rfl ?_ ?_ <;> intro hb1 <;> try simp at hb1
 have hx := ixNext hb1 (by omega)
 have hnx := szK_nx (g := TParam.sz) hb1
 have hle := szK_le TParam.sz l (k0 + 1)
 refine W.skip ?_
 refine Zb ?_
 apply Zr; intros
 iterate 5 (refine Zo ?_ (by simp [hb1, hx] <;> omega); simp [hb1, hx])
 refine Zl [] rfl Tryz.func190 (hc l[k0] (gm hb1) (left - ((szK TParam.sz l k0 : Nat) : Int)) (by omega) (by omega) _) ?_ (by simp [hb1, hx]); simp [hb1, hx]
 refine Zo ?_ (by simp [hb1, hx] <;> omega); simp [hb1, hx]
 exact Zx
 apply Zr; intros
 iterate 2 (refine Zo ?_ (by simp [hb1, hx] <;> omega); simp [hb1, hx])
 exact Zx
 refine Zc rfl ?_ ?_ <;> intro hb2 <;> try simp at hb2
 have hl := lft_lt hb2
 have hres : lftI (szs TParam.sz l) left = -1 := lft_m1 (by omega)
 apply Zr; intros
 refine Zo ?_ (by simp [hb1, hx] <;> omega); simp [hb1, hx]
 exact Zx
 refine W.ret (Zq ?_)
 simp [Tryz.f128, hres]
 have hj := (lft_ge hb2).1
 have hg := (lft_ge hb2).2
 have hs : left - ((szK TParam.sz l k0 : Nat) : Int) - ((TParam.sz l[k0] : Nat) : Int) = left - ((szK TParam.sz l (k0 + 1) : Nat) : Int) := by omega
 simp only [hj]
 refine W.skip ?_
 apply Zs; intros
 iterate 3 (refine Zo ?_ (by simp [hb1, hx] <;> omega); simp [hb1, hx])
 exact Zx
 refine ⟨hb1, by omega, Wz.to rfl rfl rfl ?_⟩
 simp [hs]
 have hkl : k0 = l.length := by omega
 subst hkl
 have hfu := szK_full TParam.sz l
 rw [hfu] at hi0
 have hres : lftI (szs TParam.sz l) left = left - ((szK TParam.sz l l.length : Nat) : Int) := by rw [hfu]; exact lft_eq hi0
 refine W.exit ?_
 apply Zr; intros
 iterate 2 (refine Zo ?_; simp)
 exact Zx
 refine W.ret (Zq ?_)
 simp [Tryz.f128, hres]
theorem szParamS_d (l : List TParam) (left : Int) (h0 : 0 ≤ left) (h1 : left ≤ 1048576) (h : HP) : CS cx.P 128 [.d (.sl false sh167 (l.map (TParam.dd false))), .d (.lf (.int .i64 (left)))] h (.d (.lf (.int .i64 (lftI (szs TParam.sz l) left)))) h := szParamS_a l left h0 h1 (fun y _ left h0 h1 h => szParam_d y left h0 h1 h) h
theorem szFunction_d (x : TFunction) (left : Int) (h0 : 0 ≤ left) (h1 : left ≤ 1048576) (h : HP) : CS cx.P 76 [.d (x.dd false), .d (.lf (.int .i64 (left)))] h (.d (.lf (.int .i64 (lftI x.sz left)))) h := by
 refine CS.fitD 0 (x.dd false) rfl fun hfit => ?_
 have hsz := x.sz_eq
 simp [DD.fit, DD.fits, okLeaf] at hfit
 have hw0 := i64w (n := left - ((x.fName.size : Nat) : Int)) (by omega) (by omega)
 refine Ze Tryz.func76 rfl 43 ?_
 apply Zr; intros
 iterate 2 (refine Zo ?_; simp)
 exact Zx
 apply Zr; intros
 iterate 6 (refine Zo ?_; simp)
 exact Zx
 refine W.seq ?_
 apply Zr; intros
 iterate 2 (refine Zo ?_; simp)
 exact Zx
 refine Zc rfl ?_ ?_ <;> intro hb0 <;> try simp [hw0] at hb0
 have hres : lftI x.sz left = -1 := lft_m1 (by omega)
 apply Zr; intros
 refine Zo ?_; simp
 exact Zx
 refine W.ret (Zq ?_)
 simp [Tryz.f76, hres]
 simp only [hw0]
 refine W.skip ?_
 apply Zr; intros
 iterate 3 (refine Zo ?_; simp)
 refine Zl [] rfl Tryz.func31 (szStringS_d x.fVars (left - ((x.fName.size : Nat) : Int)) (by omega) (by omega) _) ?_; simp
 refine Zo ?_; simp
 exact Zx
 refine W.seq ?_
 apply Zr; intros
 iterate 2 (refine Zo ?_; simp)
 exact Zx
 refine Zc rfl ?_ ?_ <;> intro hb1 <;> try simp at hb1
 have hl1 := lft_lt hb1
 have hres : lftI x.sz left = -1 := lft_m1 (by omega)
 apply Zr; intros
 refine Zo ?_; simp
 exact Zx
 refine W.ret (Zq ?_)
 simp [Tryz.f76, hres]
 have hj1 := (lft_ge hb1).1
 have hg1 := (lft_ge hb1).2
 simp only [hj1]
 refine W.skip ?_
 apply Zr; intros
 iterate 3 (refine Zo ?_; simp)
 refine Zl [] rfl Tryz.func126 (szBoundS_d x.fWhere (left - ((x.fName.size : Nat) : Int) - ((szs ByteArray.size x.fVars : Nat) : Int)) (by omega) (by omega) _) ?_; simp
 refine Zo ?_; simp
 exact Zx
 refine W.seq ?_
 apply Zr; intros
 iterate 2 (refine Zo ?_; simp)
 exact Zx
 refine Zc rfl ?_ ?_ <;> intro hb2 <;> try simp at hb2
 have hl2 := lft_lt hb2
 have hres : lftI x.sz left = -1 := lft_m1 (by omega)
 apply Zr; intros
 refine Zo ?_; simp
 exact Zx
 refine W.ret (Zq ?_)
 simp [Tryz.f76, hres]
 have hj2 := (lft_ge hb2).1
 have hg2 := (lft_ge hb2).2
 simp only [hj2]
 refine W.skip ?_
 apply Zr; intros
 iterate 3 (refine Zo ?_; simp)
 refine Zl [] rfl Tryz.func128 (szParamS_d x.fParams (left - ((x.fName.size : Nat) : Int) - ((szs ByteArray.size x.fVars : Nat) : Int) - ((szs TBound.sz x.fWhere : Nat) : Int)) (by omega) (by omega) _) ?_; simp
 refine Zo ?_; simp
 exact Zx
 refine W.seq ?_
 apply Zr; intros
 iterate 2 (refine Zo ?_; simp)
 exact Zx
 refine Zc rfl ?_ ?_ <;> intro hb3 <;> try simp at hb3
 have hl3 := lft_lt hb3
 have hres : lftI x.sz left = -1 := lft_m1 (by omega)
 apply Zr; intros
 refine Zo ?_; simp
 exact Zx
 refine W.ret (Zq ?_)
 simp [Tryz.f76, hres]
 have hj3 := (lft_ge hb3).1
 have hg3 := (lft_ge hb3).2
 simp only [hj3]
 refine W.skip ?_
 apply Zr; intros
 iterate 3 (refine Zo ?_; simp)
 refine Zl [] rfl Tryz.func125 (szType_d x.fResult (left - ((x.fName.size : Nat) : Int) - ((szs ByteArray.size x.fVars : Nat) : Int) - ((szs TBound.sz x.fWhere : Nat) : Int) - ((szs TParam.sz x.fParams : Nat) : Int)) (by omega) (by omega) _) ?_; simp
 refine Zo ?_; simp
 exact Zx
 refine W.seq ?_
 apply Zr; intros
 iterate 2 (refine Zo ?_; simp)
 exact Zx
 refine Zc rfl ?_ ?_ <;> intro hb4 <;> try simp at hb4
 have hl4 := lft_lt hb4
 have hres : lftI x.sz left = -1 := lft_m1 (by omega)
 apply Zr; intros
 refine Zo ?_; simp
 exact Zx
 refine W.ret (Zq ?_)
 simp [Tryz.f76, hres]
 have hj4 := (lft_ge hb4).1
 have hg4 := (lft_ge hb4).2
 simp only [hj4]
 refine W.skip ?_
 apply Zr; intros
 iterate 3 (refine Zo ?_; simp)
 refine Zl [] rfl Tryz.func129 (szExpr_d x.fBody (left - ((x.fName.size : Nat) : Int) - ((szs ByteArray.size x.fVars : Nat) : Int) - ((szs TBound.sz x.fWhere : Nat) : Int) - ((szs TParam.sz x.fParams : Nat) : Int) - ((x.fResult.sz : Nat) : Int)) (by omega) (by omega) _) ?_; simp
 refine Zo ?_; simp
 exact Zx
 refine W.seq ?_
 apply Zr; intros
 iterate 2 (refine Zo ?_; simp)
 exact Zx
 refine Zc rfl ?_ ?_ <;> intro hb5 <;> try simp at hb5
 have hl5 := lft_lt hb5
 have hres : lftI x.sz left = -1 := lft_m1 (by omega)
 apply Zr; intros
 refine Zo ?_; simp
 exact Zx
 refine W.ret (Zq ?_)
 simp [Tryz.f76, hres]
 have hj5 := (lft_ge hb5).1
 have hg5 := (lft_ge hb5).2
 simp only [hj5]
 have hres : lftI x.sz left = left - ((x.fName.size : Nat) : Int) - ((szs ByteArray.size x.fVars : Nat) : Int) - ((szs TBound.sz x.fWhere : Nat) : Int) - ((szs TParam.sz x.fParams : Nat) : Int) - ((x.fResult.sz : Nat) : Int) - ((x.fBody.sz : Nat) : Int) := (lft_eq (by omega)).trans (by omega)
 refine W.skip ?_
 apply Zr; intros
 iterate 2 (refine Zo ?_; simp)
 exact Zx
 refine W.ret (Zq ?_)
 simp [Tryz.f76, hres]
theorem szFunctionS_a (l : List TFunction) (left : Int) (h0 : 0 ≤ left) (h1 : left ≤ 1048576) (hc : ∀ y ∈ l, ∀ left, 0 ≤ left → left ≤ 1048576 → ∀ h, CS cx.P 76 [.d (y.dd false), .d (.lf (.int .i64 (left)))] h (.d (.lf (.int .i64 (lftI y.sz left)))) h) (h : HP) : CS cx.P 35 [.d (.sl false sh100 (l.map (TFunction.dd false))), .d (.lf (.int .i64 (left)))] h (.d (.lf (.int .i64 (lftI (szs TFunction.sz l) left)))) h := by
 refine CS.fitD 0 (.sl false sh100 (l.map (TFunction.dd false))) rfl fun hfit => ?_
 simp only [DD.fit, List.length_map, mxl] at hfit
 have hw0 := i64w (n := left - (l.length : Int)) (by omega) (by omega)
 refine Ze Tryz.func35 rfl 27 ?_
 apply Zr; intros
 refine Zo ?_; simp
 exact Zx
 apply Zr; intros
 iterate 5 (refine Zo ?_; simp)
 exact Zx
 refine W.seq ?_
 apply Zr; intros
 iterate 2 (refine Zo ?_; simp)
 exact Zx
 refine Zc rfl ?_ ?_ <;> intro hb0 <;> try simp [hw0] at hb0
 have hle := szK_le TFunction.sz l 0
 rw [szK_zero] at hle
 have hres : lftI (szs TFunction.sz l) left = -1 := lft_m1 (by omega)
 apply Zr; intros
 refine Zo ?_; simp
 exact Zx
 refine W.ret (Zq ?_)
 simp [Tryz.f35, hres]
 simp only [hw0]
 refine W.skip ?_
 refine W.seq ?_
 apply Zr; intros
 refine Zo ?_; simp
 exact Zx
 refine W.block ?_
 refine W.loopI [0] [] (fun k0 => [(5, .d (.lf (.int .i64 (k0 : Int)))), (1, .d (.lf (.int .i64 (left - ((szK TFunction.sz l k0 : Nat) : Int)))))]) (fun _ => []) l.length (fun k0 => ((szK TFunction.sz l k0 : Nat) : Int) ≤ left) rfl (by simp [szK_zero]) (by rw [szK_zero]; omega) fun k0 hk0 hi0 T hT => ?_
 simp at hT; subst hT
 refine W.seq ?_
 apply Zr; intros
 iterate 4 (refine Zo ?_; simp)
 exact Zx
 refine Zc rfl ?_ ?_ <;> intro hb1 <;> try simp at hb1
 have hx := ixNext hb1 (by omega)
 have hnx := szK_nx (g := TFunction.sz) hb1
 have hle := szK_le TFunction.sz l (k0 + 1)
 refine W.skip ?_
 refine Zb ?_
 apply Zr; intros
 iterate 5 (refine Zo ?_ (by simp [hb1, hx] <;> omega); simp [hb1, hx])
 refine Zl [] rfl Tryz.func76 (hc l[k0] (gm hb1) (left - ((szK TFunction.sz l k0 : Nat) : Int)) (by omega) (by omega) _) ?_ (by simp [hb1, hx]); simp [hb1, hx]
 refine Zo ?_ (by simp [hb1, hx] <;> omega); simp [hb1, hx]
 exact Zx
 apply Zr; intros
 iterate 2 (refine Zo ?_ (by simp [hb1, hx] <;> omega); simp [hb1, hx])
 exact Zx
 refine Zc rfl ?_ ?_ <;> intro hb2 <;> try simp at hb2
 have hl := lft_lt hb2
 have hres : lftI (szs TFunction.sz l) left = -1 := lft_m1 (by omega)
 apply Zr; intros
 refine Zo ?_ (by simp [hb1, hx] <;> omega); simp [hb1, hx]
 exact Zx
 refine W.ret (Zq ?_)
 simp [Tryz.f35, hres]
 have hj := (lft_ge hb2).1
 have hg := (lft_ge hb2).2
 have hs : left - ((szK TFunction.sz l k0 : Nat) : Int) - ((TFunction.sz l[k0] : Nat) : Int) = left - ((szK TFunction.sz l (k0 + 1) : Nat) : Int) := by omega
 simp only [hj]
 refine W.skip ?_
 apply Zs; intros
 iterate 3 (refine Zo ?_ (by simp [hb1, hx] <;> omega); simp [hb1, hx])
 exact Zx
 refine ⟨hb1, by omega, Wz.to rfl rfl rfl ?_⟩
 simp [hs]
 have hkl : k0 = l.length := by omega
 subst hkl
 have hfu := szK_full TFunction.sz l
 rw [hfu] at hi0
 have hres : lftI (szs TFunction.sz l) left = left - ((szK TFunction.sz l l.length : Nat) : Int) := by rw [hfu]; exact lft_eq hi0
 refine W.exit ?_
 apply Zr; intros
 iterate 2 (refine Zo ?_; simp)
 exact Zx
 refine W.ret (Zq ?_)
 simp [Tryz.f35, hres]
theorem szFunctionS_d (l : List TFunction) (left : Int) (h0 : 0 ≤ left) (h1 : left ≤ 1048576) (h : HP) : CS cx.P 35 [.d (.sl false sh100 (l.map (TFunction.dd false))), .d (.lf (.int .i64 (left)))] h (.d (.lf (.int .i64 (lftI (szs TFunction.sz l) left)))) h := szFunctionS_a l left h0 h1 (fun y _ left h0 h1 h => szFunction_d y left h0 h1 h) h
theorem szPackage_d (x : TPackage) (left : Int) (h0 : 0 ≤ left) (h1 : left ≤ 1048576) (h : HP) : CS cx.P 18 [.d (x.dd false), .d (.lf (.int .i64 (left)))] h (.d (.lf (.int .i64 (lftI x.sz left)))) h := by
 refine CS.fitD 0 (x.dd false) rfl fun hfit => ?_
 have hsz := x.sz_eq
 simp [DD.fit, DD.fits, okLeaf] at hfit
 have hw0 := i64w (n := left - ((x.fName.size : Nat) : Int)) (by omega) (by omega)
 refine Ze Tryz.func18 rfl 43 ?_
 apply Zr; intros
 iterate 2 (refine Zo ?_; simp)
 exact Zx
 apply Zr; intros
 iterate 6 (refine Zo ?_; simp)
 exact Zx
 refine W.seq ?_
 apply Zr; intros
 iterate 2 (refine Zo ?_; simp)
 exact Zx
 refine Zc rfl ?_ ?_ <;> intro hb0 <;> try simp [hw0] at hb0
 have hres : lftI x.sz left = -1 := lft_m1 (by omega)
 apply Zr; intros
 refine Zo ?_; simp
 exact Zx
 refine W.ret (Zq ?_)
 simp [Tryz.f18, hres]
 simp only [hw0]
 refine W.skip ?_
 apply Zr; intros
 iterate 3 (refine Zo ?_; simp)
 refine Zl [] rfl Tryz.func31 (szStringS_d x.fDeps (left - ((x.fName.size : Nat) : Int)) (by omega) (by omega) _) ?_; simp
 refine Zo ?_; simp
 exact Zx
 refine W.seq ?_
 apply Zr; intros
 iterate 2 (refine Zo ?_; simp)
 exact Zx
 refine Zc rfl ?_ ?_ <;> intro hb1 <;> try simp at hb1
 have hl1 := lft_lt hb1
 have hres : lftI x.sz left = -1 := lft_m1 (by omega)
 apply Zr; intros
 refine Zo ?_; simp
 exact Zx
 refine W.ret (Zq ?_)
 simp [Tryz.f18, hres]
 have hj1 := (lft_ge hb1).1
 have hg1 := (lft_ge hb1).2
 simp only [hj1]
 refine W.skip ?_
 apply Zr; intros
 iterate 3 (refine Zo ?_; simp)
 refine Zl [] rfl Tryz.func32 (szTraitS_d x.fTraits (left - ((x.fName.size : Nat) : Int) - ((szs ByteArray.size x.fDeps : Nat) : Int)) (by omega) (by omega) _) ?_; simp
 refine Zo ?_; simp
 exact Zx
 refine W.seq ?_
 apply Zr; intros
 iterate 2 (refine Zo ?_; simp)
 exact Zx
 refine Zc rfl ?_ ?_ <;> intro hb2 <;> try simp at hb2
 have hl2 := lft_lt hb2
 have hres : lftI x.sz left = -1 := lft_m1 (by omega)
 apply Zr; intros
 refine Zo ?_; simp
 exact Zx
 refine W.ret (Zq ?_)
 simp [Tryz.f18, hres]
 have hj2 := (lft_ge hb2).1
 have hg2 := (lft_ge hb2).2
 simp only [hj2]
 refine W.skip ?_
 apply Zr; intros
 iterate 3 (refine Zo ?_; simp)
 refine Zl [] rfl Tryz.func33 (szDataTypeS_d x.fDataTypes (left - ((x.fName.size : Nat) : Int) - ((szs ByteArray.size x.fDeps : Nat) : Int) - ((szs TTrait.sz x.fTraits : Nat) : Int)) (by omega) (by omega) _) ?_; simp
 refine Zo ?_; simp
 exact Zx
 refine W.seq ?_
 apply Zr; intros
 iterate 2 (refine Zo ?_; simp)
 exact Zx
 refine Zc rfl ?_ ?_ <;> intro hb3 <;> try simp at hb3
 have hl3 := lft_lt hb3
 have hres : lftI x.sz left = -1 := lft_m1 (by omega)
 apply Zr; intros
 refine Zo ?_; simp
 exact Zx
 refine W.ret (Zq ?_)
 simp [Tryz.f18, hres]
 have hj3 := (lft_ge hb3).1
 have hg3 := (lft_ge hb3).2
 simp only [hj3]
 refine W.skip ?_
 apply Zr; intros
 iterate 3 (refine Zo ?_; simp)
 refine Zl [] rfl Tryz.func34 (szInstanceS_d x.fInstances (left - ((x.fName.size : Nat) : Int) - ((szs ByteArray.size x.fDeps : Nat) : Int) - ((szs TTrait.sz x.fTraits : Nat) : Int) - ((szs TDataType.sz x.fDataTypes : Nat) : Int)) (by omega) (by omega) _) ?_; simp
 refine Zo ?_; simp
 exact Zx
 refine W.seq ?_
 apply Zr; intros
 iterate 2 (refine Zo ?_; simp)
 exact Zx
 refine Zc rfl ?_ ?_ <;> intro hb4 <;> try simp at hb4
 have hl4 := lft_lt hb4
 have hres : lftI x.sz left = -1 := lft_m1 (by omega)
 apply Zr; intros
 refine Zo ?_; simp
 exact Zx
 refine W.ret (Zq ?_)
 simp [Tryz.f18, hres]
 have hj4 := (lft_ge hb4).1
 have hg4 := (lft_ge hb4).2
 simp only [hj4]
 refine W.skip ?_
 apply Zr; intros
 iterate 3 (refine Zo ?_; simp)
 refine Zl [] rfl Tryz.func35 (szFunctionS_d x.fFunctions (left - ((x.fName.size : Nat) : Int) - ((szs ByteArray.size x.fDeps : Nat) : Int) - ((szs TTrait.sz x.fTraits : Nat) : Int) - ((szs TDataType.sz x.fDataTypes : Nat) : Int) - ((szs TInstance.sz x.fInstances : Nat) : Int)) (by omega) (by omega) _) ?_; simp
 refine Zo ?_; simp
 exact Zx
 refine W.seq ?_
 apply Zr; intros
 iterate 2 (refine Zo ?_; simp)
 exact Zx
 refine Zc rfl ?_ ?_ <;> intro hb5 <;> try simp at hb5
 have hl5 := lft_lt hb5
 have hres : lftI x.sz left = -1 := lft_m1 (by omega)
 apply Zr; intros
 refine Zo ?_; simp
 exact Zx
 refine W.ret (Zq ?_)
 simp [Tryz.f18, hres]
 have hj5 := (lft_ge hb5).1
 have hg5 := (lft_ge hb5).2
 simp only [hj5]
 have hres : lftI x.sz left = left - ((x.fName.size : Nat) : Int) - ((szs ByteArray.size x.fDeps : Nat) : Int) - ((szs TTrait.sz x.fTraits : Nat) : Int) - ((szs TDataType.sz x.fDataTypes : Nat) : Int) - ((szs TInstance.sz x.fInstances : Nat) : Int) - ((szs TFunction.sz x.fFunctions : Nat) : Int) := (lft_eq (by omega)).trans (by omega)
 refine W.skip ?_
 apply Zr; intros
 iterate 2 (refine Zo ?_; simp)
 exact Zx
 refine W.ret (Zq ?_)
 simp [Tryz.f18, hres]
theorem szPackageS_a (l : List TPackage) (left : Int) (h0 : 0 ≤ left) (h1 : left ≤ 1048576) (hc : ∀ y ∈ l, ∀ left, 0 ≤ left → left ≤ 1048576 → ∀ h, CS cx.P 18 [.d (y.dd false), .d (.lf (.int .i64 (left)))] h (.d (.lf (.int .i64 (lftI y.sz left)))) h) (h : HP) : CS cx.P 9 [.d (.sl false sh44 (l.map (TPackage.dd false))), .d (.lf (.int .i64 (left)))] h (.d (.lf (.int .i64 (lftI (szs TPackage.sz l) left)))) h := by
 refine CS.fitD 0 (.sl false sh44 (l.map (TPackage.dd false))) rfl fun hfit => ?_
 simp only [DD.fit, List.length_map, mxl] at hfit
 have hw0 := i64w (n := left - (l.length : Int)) (by omega) (by omega)
 refine Ze Tryz.func9 rfl 27 ?_
 apply Zr; intros
 refine Zo ?_; simp
 exact Zx
 apply Zr; intros
 iterate 5 (refine Zo ?_; simp)
 exact Zx
 refine W.seq ?_
 apply Zr; intros
 iterate 2 (refine Zo ?_; simp)
 exact Zx
 refine Zc rfl ?_ ?_ <;> intro hb0 <;> try simp [hw0] at hb0
 have hle := szK_le TPackage.sz l 0
 rw [szK_zero] at hle
 have hres : lftI (szs TPackage.sz l) left = -1 := lft_m1 (by omega)
 apply Zr; intros
 refine Zo ?_; simp
 exact Zx
 refine W.ret (Zq ?_)
 simp [Tryz.f9, hres]
 simp only [hw0]
 refine W.skip ?_
 refine W.seq ?_
 apply Zr; intros
 refine Zo ?_; simp
 exact Zx
 refine W.block ?_
 refine W.loopI [0] [] (fun k0 => [(5, .d (.lf (.int .i64 (k0 : Int)))), (1, .d (.lf (.int .i64 (left - ((szK TPackage.sz l k0 : Nat) : Int)))))]) (fun _ => []) l.length (fun k0 => ((szK TPackage.sz l k0 : Nat) : Int) ≤ left) rfl (by simp [szK_zero]) (by rw [szK_zero]; omega) fun k0 hk0 hi0 T hT => ?_
 simp at hT; subst hT
 refine W.seq ?_
 apply Zr; intros
 iterate 4 (refine Zo ?_; simp)
 exact Zx
 refine Zc rfl ?_ ?_ <;> intro hb1 <;> try simp at hb1
 have hx := ixNext hb1 (by omega)
 have hnx := szK_nx (g := TPackage.sz) hb1
 have hle := szK_le TPackage.sz l (k0 + 1)
 refine W.skip ?_
 refine Zb ?_
 apply Zr; intros
 iterate 5 (refine Zo ?_ (by simp [hb1, hx] <;> omega); simp [hb1, hx])
 refine Zl [] rfl Tryz.func18 (hc l[k0] (gm hb1) (left - ((szK TPackage.sz l k0 : Nat) : Int)) (by omega) (by omega) _) ?_ (by simp [hb1, hx]); simp [hb1, hx]
 refine Zo ?_ (by simp [hb1, hx] <;> omega); simp [hb1, hx]
 exact Zx
 apply Zr; intros
 iterate 2 (refine Zo ?_ (by simp [hb1, hx] <;> omega); simp [hb1, hx])
 exact Zx
 refine Zc rfl ?_ ?_ <;> intro hb2 <;> try simp at hb2
 have hl := lft_lt hb2
 have hres : lftI (szs TPackage.sz l) left = -1 := lft_m1 (by omega)
 apply Zr; intros
 refine Zo ?_ (by simp [hb1, hx] <;> omega); simp [hb1, hx]
 exact Zx
 refine W.ret (Zq ?_)
 simp [Tryz.f9, hres]
 have hj := (lft_ge hb2).1
 have hg := (lft_ge hb2).2
 have hs : left - ((szK TPackage.sz l k0 : Nat) : Int) - ((TPackage.sz l[k0] : Nat) : Int) = left - ((szK TPackage.sz l (k0 + 1) : Nat) : Int) := by omega
 simp only [hj]
 refine W.skip ?_
 apply Zs; intros
 iterate 3 (refine Zo ?_ (by simp [hb1, hx] <;> omega); simp [hb1, hx])
 exact Zx
 refine ⟨hb1, by omega, Wz.to rfl rfl rfl ?_⟩
 simp [hs]
 have hkl : k0 = l.length := by omega
 subst hkl
 have hfu := szK_full TPackage.sz l
 rw [hfu] at hi0
 have hres : lftI (szs TPackage.sz l) left = left - ((szK TPackage.sz l l.length : Nat) : Int) := by rw [hfu]; exact lft_eq hi0
 refine W.exit ?_
 apply Zr; intros
 iterate 2 (refine Zo ?_; simp)
 exact Zx
 refine W.ret (Zq ?_)
 simp [Tryz.f9, hres]
theorem szPackageS_d (l : List TPackage) (left : Int) (h0 : 0 ≤ left) (h1 : left ≤ 1048576) (h : HP) : CS cx.P 9 [.d (.sl false sh44 (l.map (TPackage.dd false))), .d (.lf (.int .i64 (left)))] h (.d (.lf (.int .i64 (lftI (szs TPackage.sz l) left)))) h := szPackageS_a l left h0 h1 (fun y _ left h0 h1 h => szPackage_d y left h0 h1 h) h
theorem szProgram_d (x : TProgram) (left : Int) (h0 : 0 ≤ left) (h1 : left ≤ 1048576) (h : HP) : CS cx.P 4 [.d (x.dd false), .d (.lf (.int .i64 (left)))] h (.d (.lf (.int .i64 (lftI x.sz left)))) h := by
 refine CS.fitD 0 (x.dd false) rfl fun hfit => ?_
 have hsz := x.sz_eq
 refine Ze Tryz.func4 rfl 12 ?_
 apply Zr; intros
 iterate 2 (refine Zo ?_; simp)
 exact Zx
 apply Zr; intros
 iterate 3 (refine Zo ?_; simp)
 refine Zl [] rfl Tryz.func9 (szPackageS_d x.fPackages (left) (by omega) (by omega) _) ?_; simp
 refine Zo ?_; simp
 exact Zx
 refine W.seq ?_
 apply Zr; intros
 iterate 2 (refine Zo ?_; simp)
 exact Zx
 refine Zc rfl ?_ ?_ <;> intro hb0 <;> try simp at hb0
 have hl0 := lft_lt hb0
 have hres : lftI x.sz left = -1 := lft_m1 (by omega)
 apply Zr; intros
 refine Zo ?_; simp
 exact Zx
 refine W.ret (Zq ?_)
 simp [Tryz.f4, hres]
 have hj0 := (lft_ge hb0).1
 have hg0 := (lft_ge hb0).2
 simp only [hj0]
 have hres : lftI x.sz left = left - ((szs TPackage.sz x.fPackages : Nat) : Int) := (lft_eq (by omega)).trans (by omega)
 refine W.skip ?_
 apply Zr; intros
 iterate 2 (refine Zo ?_; simp)
 exact Zx
 refine W.ret (Zq ?_)
 simp [Tryz.f4, hres]
end Go.Proofs.YtkadbimpaplnmaaGreatDoor
