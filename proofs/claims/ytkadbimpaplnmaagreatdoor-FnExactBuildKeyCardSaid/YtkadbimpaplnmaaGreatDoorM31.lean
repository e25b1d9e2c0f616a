/- Walks by the Den rules. No condition but sizes. -/
import Derived.Test.YtkadbimpaplnmaaGreatDoorM16
import Derived.Test.YtkadbimpaplnmaaGreatDoorM27
import Derived.Test.YtkadbimpaplnmaaGreatDoorM30
namespace Go.Proofs.YtkadbimpaplnmaaGreatDoor
open Go.RowKit
set_option maxRecDepth 10000
set_option linter.unusedSimpArgs false
set_option maxHeartbeats 4000000
theorem CloneStr_d (l : List ByteArray) (hm : l.length ≤ 1073741824) (h : HP) : CS cx.P 282 [.d (.sl false .one (l.map (dS)))] h (.d (.sl true .one (l.map (dS)))) h := by
 refine Ze Tryz.func282 rfl 8 ?_
 apply Zr; intros
 refine Zo ?_; simp
 exact Zx
 refine W.seq ?_
 refine W.seq ?_
 refine W.regJ0 (D := _) rfl fun _ K hD hK => ?_
 refine Zo ?_; simp
 refine WL.opNil rfl 38 38 4 _ rfl rfl (by simp) Tryz.underlying38 rfl trivial fun b4 hnil4 => ?_; simp
 refine WL.nil (hK _ ?_)
 refine Zc rfl ?_ ?_ <;> intro hb0 <;> try simp at hb0
 have hl : l = [] := by have := hnil4 hb0; simpa using this
 subst hl
 apply Zr; intros
 refine Zo ?_; simp
 exact Zx
 refine W.ret (Zq ?_)
 simp [Tryz.f282]
 refine W.skip ?_
 apply Zr; intros
 refine Zo ?_; simp
 refine Zm [6] ?_; simp
 iterate 2 (refine Zo ?_; simp)
 exact Zx
 refine W.ret (Zq ?_)
 simp [Tryz.f282]
def lenK {α : Type} (L : List (List α)) (k : Nat) : Nat := ((L.take k).map List.length).sum
def catK {α : Type} (L : List (List α)) (k : Nat) : List α := (L.take k).flatten
theorem lenK_zero {α : Type} (L : List (List α)) : lenK L 0 = 0 := rfl
theorem catK_zero {α : Type} (L : List (List α)) : catK L 0 = [] := rfl
theorem lenK_nx {α : Type} {L : List (List α)} {k : Nat} (h : k < L.length) : lenK L (k + 1) = lenK L k + L[k].length := by
 unfold lenK; rw [List.take_succ_eq_append_getElem h]; simp only [List.map_append, List.map_cons, List.map_nil, List.sum_append, List.sum_cons, List.sum_nil, Nat.add_zero]
theorem catK_nx {α : Type} {L : List (List α)} {k : Nat} (h : k < L.length) : catK L k ++ L[k] = catK L (k + 1) := by
 unfold catK; rw [List.take_succ_eq_append_getElem h]; simp only [List.flatten_append, List.flatten_cons, List.flatten_nil, List.append_nil]
theorem catK_full {α : Type} (L : List (List α)) : catK L L.length = L.flatten := by unfold catK; rw [List.take_length]
theorem catK_len {α : Type} (L : List (List α)) (k : Nat) : (catK L k).length = lenK L k := by unfold catK lenK; rw [List.length_flatten]
theorem lenK_le {α : Type} (L : List (List α)) (k : Nat) : lenK L k ≤ lenK L L.length := by
 have h : L.flatten = (L.take k).flatten ++ (L.drop k).flatten := by rw [← List.flatten_append, List.take_append_drop]
 have h2 := congrArg List.length h
 rw [List.length_append, ← catK_full, catK_len] at h2
 have := catK_len L k
 unfold catK at this
 omega
def rwStr (l : List ByteArray) : DD := .sl false .one (l.map (dS))
theorem rwStr_eq (l : List ByteArray) : rwStr l = .sl false .one (l.map (dS)) := rfl
theorem vws_rwStr (L : List (List ByteArray)) : DD.vws (L.map rwStr) = L.map rwStr := vws_map (fun x => by simp [rwStr_eq]) L
attribute [simp] rwStr_eq vws_rwStr
theorem ConcatStr_d (L : List (List ByteArray)) (hm : L.length ≤ 134217728) (hs : lenK L L.length ≤ 1073741824) (h : HP) : CS cx.P 283 [.d (.sl false .one (L.map rwStr))] h (.d (.sl true .one (L.flatten.map (dS)))) h := by
 refine Ze Tryz.func283 rfl 36 ?_
 apply Zr; intros
 refine Zo ?_; simp
 exact Zx
 apply Zr; intros
 refine Zo ?_; simp
 exact Zx
 refine W.seq ?_
 apply Zr; intros
 iterate 3 (refine Zo ?_; simp)
 exact Zx
 refine W.block ?_
 refine W.loopk [0, 9, 10] [] (fun k0 => [(11, .d (.lf (.int .i64 (k0 : Int)))), (3, .d (.lf (.int .i64 ((lenK L k0 : Nat) : Int))))]) (fun _ => []) L.length rfl (by simp [lenK_zero]) fun k0 hk0 T hT => ?_
 simp at hT; subst hT
 apply Zr; intros
 refine Zo ?_; simp
 exact Zx
 refine Zv rfl ?_ ?_ <;> intro hb0 <;> try simp at hb0
 have hx := ixNext hb0 (by omega)
 have hnx := lenK_nx hb0
 have hle := lenK_le L (k0 + 1)
 have hw := i64w (n := (lenK L k0 : Int) + L[k0].length) (by omega) (by omega)
 have hw2 : (lenK L (k0 + 1) : Int) = (lenK L k0 : Int) + L[k0].length := by omega
 refine W.skip ?_
 refine Zb ?_
 apply Zr; intros
 iterate 3 (refine Zo ?_ (by simp [hb0, hx, hw, hw2] <;> omega); simp [hb0, hx, hw, hw2])
 exact Zx
 apply Zr; intros
 iterate 5 (refine Zo ?_ (by simp [hb0, hx, hw, hw2] <;> omega); simp [hb0, hx, hw, hw2])
 exact Zx
 apply Zr; intros
 iterate 2 (refine Zo ?_ (by simp [hb0, hx, hw, hw2] <;> omega); simp [hb0, hx, hw, hw2])
 exact Zx
 refine Zc rfl ?_ ?_ <;> intro hb1 <;> try simp at hb1
 exfalso; omega
 refine W.skip ?_
 apply Zs; intros
 iterate 2 (refine Zo ?_ (by simp [hb0, hx, hw, hw2] <;> omega); simp [hb0, hx, hw, hw2])
 exact Zx
 refine ⟨hb0, Wz.to rfl rfl rfl ?_⟩
 simp [hw2]
 have hkl : k0 = L.length := by omega
 subst hkl
 refine W.exit ?_
 apply Zr; intros
 refine Zo ?_; simp
 refine WL.callP [] _ _ _ rfl rfl (by simp) (g := 291) (caps := []) (by simp) (by simp) (fn := Tryz.f291) ⟨Tryz.func291, rfl, rfl⟩ rfl (by simp) (by simp) (by simp) (headNil) (fun _ _ => rfl) (GrowS_d (lenK L L.length) hs _) rfl ?_; simp
 refine Zo ?_; simp
 exact Zx
 refine W.seq ?_
 apply Zr; intros
 iterate 3 (refine Zo ?_; simp)
 exact Zx
 refine W.block ?_
 refine W.loopk [25, 26] [] (fun k1 => [(27, .d (.lf (.int .i64 (k1 : Int)))), (6, .d (.sl true .one ((catK L k1).map (dS))))]) (fun _ => []) L.length rfl (by simp [catK_zero]) fun k1 hk1 T hT => ?_
 simp at hT; subst hT
 apply Zr; intros
 refine Zo ?_; simp
 exact Zx
 refine Zv rfl ?_ ?_ <;> intro hb2 <;> try simp at hb2
 have hx1 := ixNext hb2 (by omega)
 have hnx1 := lenK_nx hb2
 have hle1 := lenK_le L (k1 + 1)
 have hcl := catK_len L k1
 refine W.skip ?_
 refine Zb ?_
 apply Zr; intros
 refine Zo ?_ (by simp [hb2, hx1] <;> omega); simp [hb2, hx1]
 refine Zm [30] ?_ (by simp [hb2, hx1] <;> omega); simp [hb2, hx1]
 refine Zo ?_ (by simp [hb2, hx1] <;> omega); simp [hb2, hx1]
 exact Zx
 apply Zs; intros
 refine Zm [31] ?_ (by simp [hb2, hx1] <;> omega); simp [hb2, hx1]
 refine Zm [32] ?_ (by simp [hb2, hx1] <;> omega); simp [hb2, hx1]
 iterate 2 (refine Zo ?_ (by simp [hb2, hx1] <;> omega); simp [hb2, hx1])
 exact Zx
 apply Zs; intros
 iterate 2 (refine Zo ?_ (by simp [hb2, hx1] <;> omega); simp [hb2, hx1])
 exact Zx
 refine ⟨hb2, Wz.to rfl rfl rfl ?_⟩
 have hs := catK_nx hb2
 rw [← hs]
 simp
 have hkl : k1 = L.length := by omega
 subst hkl
 simp only [catK_full]
 refine W.exit ?_
 apply Zr; intros
 refine Zm [35] ?_; simp
 refine Zo ?_; simp
 exact Zx
 refine W.ret (Zq ?_)
 simp [Tryz.f283]
def rwX (l : List TSExpr) : DD := .sl false sh61 (l.map (TSExpr.dd false))
theorem rwX_eq (l : List TSExpr) : rwX l = .sl false sh61 (l.map (TSExpr.dd false)) := rfl
theorem vws_rwX (L : List (List TSExpr)) : DD.vws (L.map rwX) = L.map rwX := vws_map (fun x => by simp [rwX_eq]) L
attribute [simp] rwX_eq vws_rwX
theorem ConcatX_d (L : List (List TSExpr)) (hm : L.length ≤ 134217728) (hs : lenK L L.length ≤ 1073741824) (h : HP) : CS cx.P 173 [.d (.sl false .one (L.map rwX))] h (.d (.sl true sh61 (L.flatten.map (TSExpr.dd false)))) h := by
 refine Ze Tryz.func173 rfl 36 ?_
 apply Zr; intros
 refine Zo ?_; simp
 exact Zx
 apply Zr; intros
 refine Zo ?_; simp
 exact Zx
 refine W.seq ?_
 apply Zr; intros
 iterate 3 (refine Zo ?_; simp)
 exact Zx
 refine W.block ?_
 refine W.loopk [0, 9, 10] [] (fun k0 => [(11, .d (.lf (.int .i64 (k0 : Int)))), (3, .d (.lf (.int .i64 ((lenK L k0 : Nat) : Int))))]) (fun _ => []) L.length rfl (by simp [lenK_zero]) fun k0 hk0 T hT => ?_
 simp at hT; subst hT
 apply Zr; intros
 refine Zo ?_; simp
 exact Zx
 refine Zv rfl ?_ ?_ <;> intro hb0 <;> try simp at hb0
 have hx := ixNext hb0 (by omega)
 have hnx := lenK_nx hb0
 have hle := lenK_le L (k0 + 1)
 have hw := i64w (n := (lenK L k0 : Int) + L[k0].length) (by omega) (by omega)
 have hw2 : (lenK L (k0 + 1) : Int) = (lenK L k0 : Int) + L[k0].length := by omega
 refine W.skip ?_
 refine Zb ?_
 apply Zr; intros
 iterate 3 (refine Zo ?_ (by simp [hb0, hx, hw, hw2] <;> omega); simp [hb0, hx, hw, hw2])
 exact Zx
 apply Zr; intros
 iterate 5 (refine Zo ?_ (by simp [hb0, hx, hw, hw2] <;> omega); simp [hb0, hx, hw, hw2])
 exact Zx
 apply Zr; intros
 iterate 2 (refine Zo ?_ (by simp [hb0, hx, hw, hw2] <;> omega); simp [hb0, hx, hw, hw2])
 exact Zx
 refine Zc rfl ?_ ?_ <;> intro hb1 <;> try simp at hb1
 exfalso; omega
 refine W.skip ?_
 apply Zs; intros
 iterate 2 (refine Zo ?_ (by simp [hb0, hx, hw, hw2] <;> omega); simp [hb0, hx, hw, hw2])
 exact Zx
 refine ⟨hb0, Wz.to rfl rfl rfl ?_⟩
 simp [hw2]
 have hkl : k0 = L.length := by omega
 subst hkl
 refine W.exit ?_
 apply Zr; intros
 refine Zo ?_; simp
 refine WL.callP [] _ _ _ rfl rfl (by simp) (g := 229) (caps := []) (by simp) (by simp) (fn := Tryz.f229) ⟨Tryz.func229, rfl, rfl⟩ rfl (by simp) (by simp) (by simp) (headNil) (fun _ _ => rfl) (GrowX_d (lenK L L.length) hs _) rfl ?_; simp
 refine Zo ?_; simp
 exact Zx
 refine W.seq ?_
 apply Zr; intros
 iterate 3 (refine Zo ?_; simp)
 exact Zx
 refine W.block ?_
 refine W.loopk [25, 26] [] (fun k1 => [(27, .d (.lf (.int .i64 (k1 : Int)))), (6, .d (.sl true sh61 ((catK L k1).map (TSExpr.dd false))))]) (fun _ => []) L.length rfl (by simp [catK_zero]) fun k1 hk1 T hT => ?_
 simp at hT; subst hT
 apply Zr; intros
 refine Zo ?_; simp
 exact Zx
 refine Zv rfl ?_ ?_ <;> intro hb2 <;> try simp at hb2
 have hx1 := ixNext hb2 (by omega)
 have hnx1 := lenK_nx hb2
 have hle1 := lenK_le L (k1 + 1)
 have hcl := catK_len L k1
 refine W.skip ?_
 refine Zb ?_
 apply Zr; intros
 refine Zo ?_ (by simp [hb2, hx1] <;> omega); simp [hb2, hx1]
 refine Zm [30] ?_ (by simp [hb2, hx1] <;> omega); simp [hb2, hx1]
 refine Zo ?_ (by simp [hb2, hx1] <;> omega); simp [hb2, hx1]
 exact Zx
 apply Zs; intros
 refine Zm [31] ?_ (by simp [hb2, hx1] <;> omega); simp [hb2, hx1]
 refine Zm [32] ?_ (by simp [hb2, hx1] <;> omega); simp [hb2, hx1]
 iterate 2 (refine Zo ?_ (by simp [hb2, hx1] <;> omega); simp [hb2, hx1])
 exact Zx
 apply Zs; intros
 iterate 2 (refine Zo ?_ (by simp [hb2, hx1] <;> omega); simp [hb2, hx1])
 exact Zx
 refine ⟨hb2, Wz.to rfl rfl rfl ?_⟩
 have hs := catK_nx hb2
 rw [← hs]
 simp
 have hkl : k1 = L.length := by omega
 subst hkl
 simp only [catK_full]
 refine W.exit ?_
 apply Zr; intros
 refine Zm [35] ?_; simp
 refine Zo ?_; simp
 exact Zx
 refine W.ret (Zq ?_)
 simp [Tryz.f173]
theorem ef0T_d (l : List TType) (g : Nat) (h : HP) : CS cx.P 286 [.d (.sl false sh88 (l.map (TType.dd false))), .d (.sl false sh88 []), .fn g []] h (.d (.lf (.bool (decide (l = []))))) h := by
 refine Ze Tryz.func286 rfl 32 ?_
 apply Zr; intros
 refine Zo ?_; simp
 exact Zx
 refine W.seq ?_
 apply Zr; intros
 iterate 5 (refine Zo ?_; simp)
 exact Zx
 refine Zc rfl ?_ ?_ <;> intro hb0 <;> try simp at hb0
 have hres : ¬ l = [] := by simpa using hb0
 apply Zr; intros
 refine Zo ?_; simp
 exact Zx
 refine W.ret (Zq ?_)
 simp [Tryz.f286, hres]
 have hres : l = [] := by simpa using hb0
 refine W.skip ?_
 refine W.seq ?_
 apply Zr; intros
 iterate 3 (refine Zo ?_; simp)
 exact Zx
 refine W.block ?_
 refine W.loopk [1, 2, 15, 16] [] (fun k0 => [(17, .d (.lf (.int .i64 (k0 : Int))))]) (fun _ => []) 0 rfl (by simp) fun k0 hk0 T hT => ?_
 simp at hT; subst hT
 apply Zr; intros
 refine Zo ?_; simp
 exact Zx
 refine Zv rfl ?_ ?_ <;> intro hb1 <;> try simp at hb1
 exfalso; rw [hres] at hb1; simp at hb1
 refine W.exit ?_
 apply Zr; intros
 refine Zo ?_; simp
 exact Zx
 refine W.ret (Zq ?_)
 simp [Tryz.f286, hres]
theorem ef0X_d (l : List TExpr) (g : Nat) (h : HP) : CS cx.P 271 [.d (.sl false sh98 (l.map (TExpr.dd false))), .d (.sl false sh98 []), .fn g []] h (.d (.lf (.bool (decide (l = []))))) h := by
 refine Ze Tryz.func271 rfl 32 ?_
 apply Zr; intros
 refine Zo ?_; simp
 exact Zx
 refine W.seq ?_
 apply Zr; intros
 iterate 5 (refine Zo ?_; simp)
 exact Zx
 refine Zc rfl ?_ ?_ <;> intro hb0 <;> try simp at hb0
 have hres : ¬ l = [] := by simpa using hb0
 apply Zr; intros
 refine Zo ?_; simp
 exact Zx
 refine W.ret (Zq ?_)
 simp [Tryz.f271, hres]
 have hres : l = [] := by simpa using hb0
 refine W.skip ?_
 refine W.seq ?_
 apply Zr; intros
 iterate 3 (refine Zo ?_; simp)
 exact Zx
 refine W.block ?_
 refine W.loopk [1, 2, 15, 16] [] (fun k0 => [(17, .d (.lf (.int .i64 (k0 : Int))))]) (fun _ => []) 0 rfl (by simp) fun k0 hk0 T hT => ?_
 simp at hT; subst hT
 apply Zr; intros
 refine Zo ?_; simp
 exact Zx
 refine Zv rfl ?_ ?_ <;> intro hb1 <;> try simp at hb1
 exfalso; rw [hres] at hb1; simp at hb1
 refine W.exit ?_
 apply Zr; intros
 refine Zo ?_; simp
 exact Zx
 refine W.ret (Zq ?_)
 simp [Tryz.f271, hres]
theorem ef0A_d (l : List TArm) (g : Nat) (h : HP) : CS cx.P 272 [.d (.sl false sh198 (l.map (TArm.dd false))), .d (.sl false sh198 []), .fn g []] h (.d (.lf (.bool (decide (l = []))))) h := by
 refine Ze Tryz.func272 rfl 32 ?_
 apply Zr; intros
 refine Zo ?_; simp
 exact Zx
 refine W.seq ?_
 apply Zr; intros
 iterate 5 (refine Zo ?_; simp)
 exact Zx
 refine Zc rfl ?_ ?_ <;> intro hb0 <;> try simp at hb0
 have hres : ¬ l = [] := by simpa using hb0
 apply Zr; intros
 refine Zo ?_; simp
 exact Zx
 refine W.ret (Zq ?_)
 simp [Tryz.f272, hres]
 have hres : l = [] := by simpa using hb0
 refine W.skip ?_
 refine W.seq ?_
 apply Zr; intros
 iterate 3 (refine Zo ?_; simp)
 exact Zx
 refine W.block ?_
 refine W.loopk [1, 2, 15, 16] [] (fun k0 => [(17, .d (.lf (.int .i64 (k0 : Int))))]) (fun _ => []) 0 rfl (by simp) fun k0 hk0 T hT => ?_
 simp at hT; subst hT
 apply Zr; intros
 refine Zo ?_; simp
 exact Zx
 refine Zv rfl ?_ ?_ <;> intro hb1 <;> try simp at hb1
 exfalso; rw [hres] at hb1; simp at hb1
 refine W.exit ?_
 apply Zr; intros
 refine Zo ?_; simp
 exact Zx
 refine W.ret (Zq ?_)
 simp [Tryz.f272, hres]
theorem eqT0i_d (x : TType) (h : HP) : CS cx.P 270 [.d (x.dd false), .d (zT.dd false)] h (.d (.lf (.bool (zeroT x)))) h := by
 refine Ze Tryz.func270 rfl 24 ?_
 apply Zr; intros
 iterate 3 (refine Zo ?_ (by simp [zT] <;> omega); simp [zT])
 exact Zx
 refine W.seq ?_
 refine W.regJ0 (D := _) rfl fun _ K hD hK => ?_
 iterate 6 (refine Zo ?_ (by simp [zT] <;> omega); simp [zT])
 refine WL.split 10 _ rfl (fun g10 => ?_) fun g10 => ?_ <;> try simp at g10
 simp [zT]
 iterate 5 (refine Zg hD rfl rfl ?_ (by simp [zT] <;> omega); simp [zT])
 iterate 2 (refine Zo ?_ (by simp [zT] <;> omega); simp [zT])
 refine WL.split 17 _ rfl (fun g17 => ?_) fun g17 => ?_ <;> try simp at g17
 simp [zT]
 iterate 4 (refine Zg hD rfl rfl ?_ (by simp [zT] <;> omega); simp [zT])
 refine Zk hD rfl rfl [] rfl Tryz.func286 (ef0T_d x.fArgs 270 _) ?_ (by simp [zT]); simp [zT]
 iterate 2 (refine Zo ?_ (by simp [zT] <;> omega); simp [zT])
 refine WL.nil (hK _ ?_)
 refine W.ret (Zq ?_)
 simp [Tryz.f270, zeroT, g10, g17]
 simp [zT]
 iterate 5 (refine Zn hD rfl rfl ?_; simp [zT])
 iterate 2 (refine Zo ?_ (by simp [zT] <;> omega); simp [zT])
 refine WL.nil (hK _ ?_)
 refine W.ret (Zq ?_)
 simp [Tryz.f270, zeroT, g10, g17]
 simp [zT]
 iterate 5 (refine Zn hD rfl rfl ?_; simp [zT])
 iterate 2 (refine Zo ?_ (by simp [zT] <;> omega); simp [zT])
 iterate 5 (refine Zn hD rfl rfl ?_; simp [zT])
 iterate 2 (refine Zo ?_ (by simp [zT] <;> omega); simp [zT])
 refine WL.nil (hK _ ?_)
 refine W.ret (Zq ?_)
 simp [Tryz.f270, zeroT, g10]
theorem eqX0i_d (x : TExpr) (h : HP) : CS cx.P 253 [.d (x.dd false), .d (zX.dd false)] h (.d (.lf (.bool (isZX x)))) h := by
 refine Ze Tryz.func253 rfl 52 ?_
 apply Zr; intros
 iterate 3 (refine Zo ?_ (by simp [zX] <;> omega); simp [zX])
 exact Zx
 refine W.seq ?_
 refine W.regJ0 (D := _) rfl fun _ K hD hK => ?_
 iterate 6 (refine Zo ?_ (by simp [zX] <;> omega); simp [zX])
 refine WL.split 10 _ rfl (fun g10 => ?_) fun g10 => ?_ <;> try simp at g10
 simp [zX]
 iterate 5 (refine Zg hD rfl rfl ?_ (by simp [zX] <;> omega); simp [zX])
 iterate 2 (refine Zo ?_ (by simp [zX] <;> omega); simp [zX])
 refine WL.split 17 _ rfl (fun g17 => ?_) fun g17 => ?_ <;> try simp at g17
 simp [zX]
 iterate 5 (refine Zg hD rfl rfl ?_ (by simp [zX] <;> omega); simp [zX])
 iterate 2 (refine Zo ?_ (by simp [zX] <;> omega); simp [zX])
 refine WL.split 24 _ rfl (fun g24 => ?_) fun g24 => ?_ <;> try simp at g24
 simp [zX]
 iterate 5 (refine Zg hD rfl rfl ?_ (by simp [zX] <;> omega); simp [zX])
 iterate 2 (refine Zo ?_ (by simp [zX] <;> omega); simp [zX])
 refine WL.split 31 _ rfl (fun g31 => ?_) fun g31 => ?_ <;> try simp at g31
 simp [zX]
 iterate 4 (refine Zg hD rfl rfl ?_ (by simp [zX] <;> omega); simp [zX])
 refine Zk hD rfl rfl [] rfl Tryz.func270 (eqT0i_d x.fType _) ?_ (by simp [zX]); simp [zX]
 iterate 2 (refine Zo ?_ (by simp [zX] <;> omega); simp [zX])
 refine WL.split 38 _ rfl (fun g38 => ?_) fun g38 => ?_ <;> try simp at g38
 simp [zX]
 iterate 4 (refine Zg hD rfl rfl ?_ (by simp [zX] <;> omega); simp [zX])
 refine Zk hD rfl rfl [] rfl Tryz.func271 (ef0X_d x.fArgs 253 _) ?_ (by simp [zX]); simp [zX]
 iterate 2 (refine Zo ?_ (by simp [zX] <;> omega); simp [zX])
 refine WL.split 45 _ rfl (fun g45 => ?_) fun g45 => ?_ <;> try simp at g45
 simp [zX]
 iterate 4 (refine Zg hD rfl rfl ?_ (by simp [zX] <;> omega); simp [zX])
 refine Zk hD rfl rfl [] rfl Tryz.func272 (ef0A_d x.fArms 273 _) ?_ (by simp [zX]); simp [zX]
 iterate 2 (refine Zo ?_ (by simp [zX] <;> omega); simp [zX])
 refine WL.nil (hK _ ?_)
 refine W.ret (Zq ?_)
 simp [Tryz.f253, isZX, noS, g10, g17, g24, g31, g38, g45]
 simp [zX]
 iterate 5 (refine Zn hD rfl rfl ?_; simp [zX])
 iterate 2 (refine Zo ?_ (by simp [zX] <;> omega); simp [zX])
 refine WL.nil (hK _ ?_)
 refine W.ret (Zq ?_)
 simp [Tryz.f253, isZX, noS, g10, g17, g24, g31, g38, g45]
 simp [zX]
 iterate 5 (refine Zn hD rfl rfl ?_; simp [zX])
 iterate 2 (refine Zo ?_ (by simp [zX] <;> omega); simp [zX])
 iterate 5 (refine Zn hD rfl rfl ?_; simp [zX])
 iterate 2 (refine Zo ?_ (by simp [zX] <;> omega); simp [zX])
 refine WL.nil (hK _ ?_)
 refine W.ret (Zq ?_)
 simp [Tryz.f253, isZX, noS, g10, g17, g24, g31, g38]
 simp [zX]
 iterate 5 (refine Zn hD rfl rfl ?_; simp [zX])
 iterate 2 (refine Zo ?_ (by simp [zX] <;> omega); simp [zX])
 iterate 5 (refine Zn hD rfl rfl ?_; simp [zX])
 iterate 2 (refine Zo ?_ (by simp [zX] <;> omega); simp [zX])
 iterate 5 (refine Zn hD rfl rfl ?_; simp [zX])
 iterate 2 (refine Zo ?_ (by simp [zX] <;> omega); simp [zX])
 refine WL.nil (hK _ ?_)
 refine W.ret (Zq ?_)
 simp [Tryz.f253, isZX, noS, g10, g17, g24, g31]
 simp [zX]
 iterate 5 (refine Zn hD rfl rfl ?_; simp [zX])
 iterate 2 (refine Zo ?_ (by simp [zX] <;> omega); simp [zX])
 iterate 5 (refine Zn hD rfl rfl ?_; simp [zX])
 iterate 2 (refine Zo ?_ (by simp [zX] <;> omega); simp [zX])
 iterate 5 (refine Zn hD rfl rfl ?_; simp [zX])
 iterate 2 (refine Zo ?_ (by simp [zX] <;> omega); simp [zX])
 iterate 5 (refine Zn hD rfl rfl ?_; simp [zX])
 iterate 2 (refine Zo ?_ (by simp [zX] <;> omega); simp [zX])
 refine WL.nil (hK _ ?_)
 refine W.ret (Zq ?_)
 simp [Tryz.f253, isZX, noS, g10, g17, g24]
 simp [zX]
 iterate 5 (refine Zn hD rfl rfl ?_; simp [zX])
 iterate 2 (refine Zo ?_ (by simp [zX] <;> omega); simp [zX])
 iterate 5 (refine Zn hD rfl rfl ?_; simp [zX])
 iterate 2 (refine Zo ?_ (by simp [zX] <;> omega); simp [zX])
 iterate 5 (refine Zn hD rfl rfl ?_; simp [zX])
 iterate 2 (refine Zo ?_ (by simp [zX] <;> omega); simp [zX])
 iterate 5 (refine Zn hD rfl rfl ?_; simp [zX])
 iterate 2 (refine Zo ?_ (by simp [zX] <;> omega); simp [zX])
 iterate 5 (refine Zn hD rfl rfl ?_; simp [zX])
 iterate 2 (refine Zo ?_ (by simp [zX] <;> omega); simp [zX])
 refine WL.nil (hK _ ?_)
 refine W.ret (Zq ?_)
 simp [Tryz.f253, isZX, noS, g10, g17]
 simp [zX]
 iterate 5 (refine Zn hD rfl rfl ?_; simp [zX])
 iterate 2 (refine Zo ?_ (by simp [zX] <;> omega); simp [zX])
 iterate 5 (refine Zn hD rfl rfl ?_; simp [zX])
 iterate 2 (refine Zo ?_ (by simp [zX] <;> omega); simp [zX])
 iterate 5 (refine Zn hD rfl rfl ?_; simp [zX])
 iterate 2 (refine Zo ?_ (by simp [zX] <;> omega); simp [zX])
 iterate 5 (refine Zn hD rfl rfl ?_; simp [zX])
 iterate 2 (refine Zo ?_ (by simp [zX] <;> omega); simp [zX])
 iterate 5 (refine Zn hD rfl rfl ?_; simp [zX])
 iterate 2 (refine Zo ?_ (by simp [zX] <;> omega); simp [zX])
 iterate 5 (refine Zn hD rfl rfl ?_; simp [zX])
 iterate 2 (refine Zo ?_ (by simp [zX] <;> omega); simp [zX])
 refine WL.nil (hK _ ?_)
 refine W.ret (Zq ?_)
 simp [Tryz.f253, isZX, noS, g10]
theorem iZX_d (x : TExpr) (h : HP) : CS cx.P 216 [.d (x.dd false)] h (.d (.lf (.bool (isZX x)))) h := by
 refine Ze Tryz.func216 rfl 6 ?_
 apply Zr; intros
 iterate 2 (refine Zo ?_ (by simp [zX, zT] <;> omega); simp [zX, zT])
 exact Zx
 apply Zr; intros
 iterate 2 (refine Zo ?_ (by simp [zX, zT] <;> omega); simp [zX, zT])
 refine Zl [] rfl Tryz.func253 (eqX0i_d x _) ?_ (by simp [zX, zT]); simp [zX, zT]
 refine Zo ?_ (by simp [zX, zT] <;> omega); simp [zX, zT]
 exact Zx
 refine W.ret (Zq ?_)
 simp [Tryz.f216]
theorem iOver_d (x : TType) (v : List ByteArray) (hm : v.length ≤ 134217728) (hz : x.sz ≤ 134217728) (h : HP) : CS cx.P 164 [.d (x.dd false), .d (.sl false .one (v.map dS))] h (.d (.lf (.bool (tOver x v)))) h := by
 have hlen : (tv x).length ≤ 1 + x.sz := by have h1 := tvs_len x []; have h2 := tSize_le x; unfold tv; simp at h1; omega
 refine Ze Tryz.func164 rfl 13 ?_
 apply Zr; intros
 iterate 2 (refine Zo ?_; simp)
 exact Zx
 refine W.seq ?_
 refine W.regJ0 (D := _) rfl fun _ K hD hK => ?_
 refine Zo ?_; simp
 refine Zl [] rfl Tryz.func219 (iValidT_d x hz _) ?_; simp
 refine Zo ?_; simp
 refine WL.split 7 _ rfl (fun g7 => ?_) fun g7 => ?_ <;> try simp at g7
 simp
 refine Zg hD rfl rfl ?_; simp
 refine Zk hD rfl rfl [] rfl Tryz.func167 (iTv_d x hz _) ?_; simp
 refine Zg hD rfl rfl ?_; simp
 refine Zk hD rfl rfl [] rfl Tryz.func166 (areAmong_d (tv x) v (by omega) (by omega) _) ?_; simp
 iterate 2 (refine Zo ?_; simp)
 refine WL.nil (hK _ ?_)
 refine W.ret (Zq ?_)
 simp [Tryz.f164, tOver, g7]
 simp
 iterate 4 (refine Zn hD rfl rfl ?_; simp)
 iterate 2 (refine Zo ?_; simp)
 refine WL.nil (hK _ ?_)
 refine W.ret (Zq ?_)
 simp [Tryz.f164, tOver, g7]
theorem overClo_d (v : List ByteArray) (hm : v.length ≤ 134217728) (x : TType) (hz : x.sz ≤ 134217728) (lv k : Nat) (h : HP) (hcap : hpg h lv k = some (.d (.sl false .one (v.map dS)))) : CS cx.P 218 [.d (x.dd false), .pt lv k []] h (.d (.lf (.bool (!tOver x v)))) h := by
 have hc2 := hpgD hcap
 refine Ze Tryz.func218 rfl 8 ?_
 apply Zr; intros
 iterate 2 (refine Zo ?_ (by simp [hc2] <;> omega); simp [hc2])
 exact Zx
 apply Zr; intros
 iterate 2 (refine Zo ?_ (by simp [hc2] <;> omega); simp [hc2])
 refine Zl [] rfl Tryz.func164 (iOver_d x v hm hz _) ?_ (by simp [hc2]); simp [hc2]
 iterate 2 (refine Zo ?_ (by simp [hc2] <;> omega); simp [hc2])
 exact Zx
 refine W.ret (Zq ?_)
 simp [Tryz.f218]
theorem iOvers_d (l : List TType) (v : List ByteArray) (hm : v.length ≤ 134217728) (hl : l.length ≤ 134217728) (hs : ∀ y ∈ l, y.sz ≤ 134217728) (h : HP) : CS cx.P 163 [.d (.sl false sh88 (l.map (TType.dd false))), .d (.sl false .one (v.map dS))] h (.d (.lf (.bool (overs l v)))) h := by
 refine Ze Tryz.func163 rfl 9 ?_
 apply Zr; intros
 iterate 2 (refine Zo ?_; simp)
 exact Zx
 apply Zr; intros
 iterate 2 (refine Zo ?_; simp)
 refine Zl [] rfl Tryz.func217 (ContainsFuncTypeC_d l (by omega) 218 Tryz.f218 _ ⟨Tryz.func218, rfl, rfl⟩ (fun y => !tOver y v) 3 (.sl false .one (v.map dS)) 0 (fun y hy lv h hc => overClo_d v hm y (hs y hy) lv 3 h hc) _ (by simp)) ?_; simp
 iterate 2 (refine Zo ?_; simp)
 exact Zx
 refine W.ret (Zq ?_)
 simp [Tryz.f163, overs]
def acL (k : Int) : Int := if k = 4 ∨ k = 6 then 0 else if k = 5 then 1 else if k = 7 ∨ k = 11 ∨ k = 12 then 1 else if k = 8 ∨ k = 10 then 2 else if k = 9 then 3 else 0
def acH (k : Int) : Int := if k = 4 ∨ k = 6 then 300 else if k = 5 then 300 else if k = 7 ∨ k = 11 ∨ k = 12 then 1 else if k = 8 ∨ k = 10 then 2 else if k = 9 then 3 else 0
theorem ac_rng (k : Int) : 0 ≤ acL k ∧ acL k ≤ 3 ∧ 0 ≤ acH k ∧ acH k ≤ 300 := by
 unfold acL acH
 repeat' split
 all_goals omega
def if1 (x : TExpr) : Bool := within x.fKind 1 12 && decide (acL x.fKind ≤ x.fArgs.length) && decide ((x.fArgs.length : Int) ≤ acH x.fKind)
def ifT (x : TExpr) : Bool := if x.fKind = 5 ∨ x.fKind = 11 then isNm x.fTrait else noS x.fTrait
def ifN (x : TExpr) : Bool := if x.fKind = 3 ∨ x.fKind = 4 ∨ x.fKind = 6 ∨ x.fKind = 8 ∨ x.fKind = 5 then isNm x.fName else if x.fKind = 10 then hasS prims x.fName else noS x.fName
def ifI (x : TExpr) : Bool := if x.fKind = 1 then within x.fN (-999999) 999999 else if x.fKind = 2 then within x.fN 0 1 else decide (x.fN = 0)
def ifY (x : TExpr) : Bool := (decide (x.fKind = 12) != !zeroT x.fType) || (decide (x.fKind = 12) && !tValid x.fType)
def iF0 (x : TExpr) : Bool := if1 x && !ifY x && ifT x && ifN x && ifI x && (decide (x.fKind = 7) == decide (0 < x.fArms.length))
mutual
def iF : TExpr → Bool
 | ⟨k, t, n, i, y, al, rl⟩ => iF0 ⟨k, t, n, i, y, al, rl⟩ && iFs al && iFr rl
def iFs : List TExpr → Bool
 | [] => true
 | x :: l => iF x && iFs l
def iFa : TArm → Bool
 | ⟨c, vs, b⟩ => isNm c && (dst vs && nms vs) && iF b
def iFr : List TArm → Bool
 | [] => true
 | x :: l => iFa x && iFr l
end
theorem iFs_any : ∀ l : List TExpr, iFs l = !(l.any fun y => !iF y)
 | [] => rfl
 | x :: l => by simp only [iFs, iFs_any l, List.any_cons]; cases iF x <;> simp
theorem iFr_any : ∀ l : List TArm, iFr l = !(l.any fun y => !iFa y)
 | [] => rfl
 | x :: l => by simp only [iFr, iFr_any l, List.any_cons]; cases iFa x <;> simp
theorem iF_eq (x : TExpr) : iF x = (iF0 x && !(x.fArgs.any fun y => !iF y) && !(x.fArms.any fun y => !iFa y)) := by cases x; simp only [iF, iFs_any, iFr_any]
theorem iFa_eq (x : TArm) : iFa x = (isNm x.fConstructor && (dst x.fVars && nms x.fVars) && iF x.fBody) := by cases x; simp only [iFa]
theorem argc_d (n : Int) (h : HP) : CS cx.P 287 [.d (.lf (.int .i64 (n)))] h (.tp [.d (.lf (.int .i64 (acL n))), .d (.lf (.int .i64 (acH n)))]) h := by
 refine Ze Tryz.func287 rfl 19 ?_
 apply Zr; intros
 iterate 2 (refine Zo ?_; simp)
 exact Zx
 refine W.seq ?_
 apply Zr; intros
 refine Zo ?_; simp
 exact Zx
 refine W.block ?_
 refine W.seq ?_
 apply Zr; intros
 iterate 2 (refine Zo ?_; simp)
 exact Zx
 refine Zc rfl ?_ ?_ <;> intro hb0 <;> try simp at hb0
 refine W.skip ?_
 refine W.condT (by simp [hb0]) trivial ?_
 apply Zr; intros
 iterate 2 (refine Zo ?_; simp)
 exact Zx
 refine W.ret (Zq ?_)
 simp [Tryz.f287, acL, acH, hb0]
 apply Zs; intros
 iterate 2 (refine Zo ?_; simp)
 exact Zx
 refine Zc rfl ?_ ?_ <;> intro hb1 <;> try simp at hb1
 apply Zr; intros
 iterate 2 (refine Zo ?_; simp)
 exact Zx
 refine W.ret (Zq ?_)
 simp [Tryz.f287, acL, acH, hb0, hb1]
 apply Zr; intros
 iterate 2 (refine Zo ?_; simp)
 exact Zx
 refine Zc rfl ?_ ?_ <;> intro hb2 <;> try simp at hb2
 apply Zr; intros
 iterate 2 (refine Zo ?_; simp)
 exact Zx
 refine W.ret (Zq ?_)
 simp [Tryz.f287, acL, acH, hb0, hb1, hb2]
 refine W.seq ?_
 apply Zr; intros
 iterate 2 (refine Zo ?_; simp)
 exact Zx
 refine Zc rfl ?_ ?_ <;> intro hb3 <;> try simp at hb3
 refine W.skip ?_
 refine W.condT (by simp [hb3]) trivial ?_
 apply Zr; intros
 iterate 2 (refine Zo ?_; simp)
 exact Zx
 refine W.ret (Zq ?_)
 simp [Tryz.f287, acL, acH, hb0, hb1, hb2, hb3]
 apply Zr; intros
 iterate 2 (refine Zo ?_; simp)
 exact Zx
 refine Zc rfl ?_ ?_ <;> intro hb4 <;> try simp at hb4
 refine W.skip ?_
 refine W.condT (by simp [hb4]) trivial ?_
 apply Zr; intros
 iterate 2 (refine Zo ?_; simp)
 exact Zx
 refine W.ret (Zq ?_)
 simp [Tryz.f287, acL, acH, hb0, hb1, hb2, hb3, hb4]
 apply Zs; intros
 iterate 2 (refine Zo ?_; simp)
 exact Zx
 refine Zc rfl ?_ ?_ <;> intro hb5 <;> try simp at hb5
 apply Zr; intros
 iterate 2 (refine Zo ?_; simp)
 exact Zx
 refine W.ret (Zq ?_)
 simp [Tryz.f287, acL, acH, hb0, hb1, hb2, hb3, hb4, hb5]
 refine W.seq ?_
 apply Zr; intros
 iterate 2 (refine Zo ?_; simp)
 exact Zx
 refine Zc rfl ?_ ?_ <;> intro hb6 <;> try simp at hb6
 refine W.skip ?_
 refine W.condT (by simp [hb6]) trivial ?_
 apply Zr; intros
 iterate 2 (refine Zo ?_; simp)
 exact Zx
 refine W.ret (Zq ?_)
 simp [Tryz.f287, acL, acH, hb0, hb1, hb2, hb3, hb4, hb5, hb6]
 apply Zs; intros
 iterate 2 (refine Zo ?_; simp)
 exact Zx
 refine Zc rfl ?_ ?_ <;> intro hb7 <;> try simp at hb7
 apply Zr; intros
 iterate 2 (refine Zo ?_; simp)
 exact Zx
 refine W.ret (Zq ?_)
 simp [Tryz.f287, acL, acH, hb0, hb1, hb2, hb3, hb4, hb5, hb6, hb7]
 apply Zr; intros
 iterate 2 (refine Zo ?_; simp)
 exact Zx
 refine Zc rfl ?_ ?_ <;> intro hb8 <;> try simp at hb8
 apply Zr; intros
 iterate 2 (refine Zo ?_; simp)
 exact Zx
 refine W.ret (Zq ?_)
 simp [Tryz.f287, acL, acH, hb0, hb1, hb2, hb3, hb4, hb5, hb6, hb7, hb8]
 refine W.skip ?_
 apply Zr; intros
 iterate 2 (refine Zo ?_; simp)
 exact Zx
 refine W.ret (Zq ?_)
 simp [Tryz.f287, acL, acH, hb0, hb1, hb2, hb3, hb4, hb5, hb6, hb7, hb8]
theorem bndClo_d (v : List ByteArray) (hm : v.length ≤ 134217728) (x : TBound) (hz : x.sz ≤ 134217728) (lv k : Nat) (h : HP) (hcap : hpg h lv k = some (.d (.sl false .one (v.map dS)))) : CS cx.P 225 [.d (x.dd false), .pt lv k []] h (.d (.lf (.bool (bndBad x v)))) h := by
 have hc2 := hpgD hcap
 have hz2 := x.sz_eq
 have hlen : (tv x.fType).length ≤ 1 + x.fType.sz := by have h1 := tvs_len x.fType []; have h2 := tSize_le x.fType; unfold tv; simp at h1; omega
 refine Ze Tryz.func225 rfl 20 ?_
 apply Zr; intros
 iterate 2 (refine Zo ?_ (by simp [hc2] <;> omega); simp [hc2])
 exact Zx
 refine W.seq ?_
 refine W.regDJ0 (D := _) rfl rfl fun K hD hK => ?_
 refine Yo ?_ (by simp [hc2] <;> omega); simp [hc2]
 refine Yl [] rfl Tryz.func226 (iValidB_d x (by omega)) ?_ (by simp [hc2]); simp [hc2]
 iterate 2 (refine Yo ?_ (by simp [hc2] <;> omega); simp [hc2])
 refine DL.split 7 _ rfl (fun g7 => ?_) fun g7 => ?_ <;> try simp at g7
 simp [hc2]
 iterate 3 (refine Yn hD rfl rfl ?_; simp [hc2])
 iterate 2 (refine Yo ?_ (by simp [hc2] <;> omega); simp [hc2])
 iterate 6 (refine Yn hD rfl rfl ?_; simp [hc2])
 iterate 2 (refine Yo ?_ (by simp [hc2] <;> omega); simp [hc2])
 refine DL.nil rfl (hK _ ?_)
 refine W.ret (Zq ?_)
 simp [Tryz.f225, bndBad, tOver, g7] <;> grind
 simp [hc2]
 iterate 2 (refine Yg hD rfl rfl ?_ (by simp [hc2] <;> omega); simp [hc2])
 refine Yk hD rfl rfl [] rfl Tryz.func165 (iPj_d x.fType (by omega)) ?_ (by simp [hc2]); simp [hc2]
 iterate 2 (refine Yo ?_ (by simp [hc2] <;> omega); simp [hc2])
 refine DL.split 12 _ rfl (fun g12 => ?_) fun g12 => ?_ <;> try simp at g12
 simp [hc2]
 iterate 6 (refine Yn hD rfl rfl ?_; simp [hc2])
 iterate 2 (refine Yo ?_ (by simp [hc2] <;> omega); simp [hc2])
 refine DL.nil rfl (hK _ ?_)
 refine W.ret (Zq ?_)
 simp [Tryz.f225, bndBad, tOver, g7, g12] <;> grind
 simp [hc2]
 iterate 2 (refine Yg hD rfl rfl ?_ (by simp [hc2] <;> omega); simp [hc2])
 refine Yk hD rfl rfl [] rfl Tryz.func167 (iTv_d x.fType (by omega)) ?_ (by simp [hc2]); simp [hc2]
 refine DL.opGs [] hD 8 12 false rfl rfl (by simp) (by simp [hc2] <;> omega) rfl _ (sk_ldU hc2 rfl rfl rfl rfl) ?_; simp [hc2]
 refine Yk hD rfl rfl [] rfl Tryz.func166 (areAmong_d (tv x.fType) v (by omega) (by omega)) ?_ (by simp [hc2]); simp [hc2]
 refine Yg hD rfl rfl ?_ (by simp [hc2] <;> omega); simp [hc2]
 iterate 2 (refine Yo ?_ (by simp [hc2] <;> omega); simp [hc2])
 refine DL.nil rfl (hK _ ?_)
 refine W.ret (Zq ?_)
 simp [Tryz.f225, bndBad, tOver, g7, g12] <;> grind
theorem iWher_d (l : List TBound) (v : List ByteArray) (hm : v.length ≤ 134217728) (hl : l.length ≤ 134217728) (hs : ∀ y ∈ l, y.sz ≤ 134217728) (h : HP) : CS cx.P 168 [.d (.sl false sh206 (l.map (TBound.dd false))), .d (.sl false .one (v.map dS))] h (.d (.lf (.bool (wher l v)))) h := by
 refine Ze Tryz.func168 rfl 14 ?_
 apply Zr; intros
 iterate 2 (refine Zo ?_; simp)
 exact Zx
 refine W.seq ?_
 refine W.regJ0 (D := _) rfl fun _ K hD hK => ?_
 iterate 4 (refine Zo ?_; simp)
 refine WL.split 8 _ rfl (fun g8 => ?_) fun g8 => ?_ <;> try simp at g8
 simp
 iterate 2 (refine Zg hD rfl rfl ?_; simp)
 refine Zk hD rfl rfl [] rfl Tryz.func224 (ContainsFuncBoundC_d l (by omega) 225 Tryz.f225 _ ⟨Tryz.func225, rfl, rfl⟩ (fun y => bndBad y v) 3 (.sl false .one (v.map dS)) 0 (fun y hy lv h hc => bndClo_d v hm y (hs y hy) lv 3 h hc) _ (by simp)) ?_; simp
 refine Zg hD rfl rfl ?_; simp
 iterate 2 (refine Zo ?_; simp)
 refine WL.nil (hK _ ?_)
 refine W.ret (Zq ?_)
 simp [Tryz.f168, wher, g8] <;> first | omega | grind
 simp
 iterate 4 (refine Zn hD rfl rfl ?_; simp)
 iterate 2 (refine Zo ?_; simp)
 refine WL.nil (hK _ ?_)
 refine W.ret (Zq ?_)
 simp [Tryz.f168, wher, g8] <;> first | omega | grind
end Go.Proofs.YtkadbimpaplnmaaGreatDoor
