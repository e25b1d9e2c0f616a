/- Walks by the Den rules. No condition but sizes. -/
import Derived.Test.YtkadbimpaplnmaaGreatDoorM16
import Derived.Test.YtkadbimpaplnmaaGreatDoorM25
namespace Go.Proofs.YtkadbimpaplnmaaGreatDoor
open Go.RowKit
set_option maxRecDepth 10000
set_option linter.unusedSimpArgs false
set_option maxHeartbeats 4000000
theorem sInst_d (x : TInstance) (hz : x.sz ≤ 134217728) (h : HP) : CS cx.P 89 [.d (x.dd false)] h (.d (.lf (.bool (instOk x)))) h := by
 have hz2 := x.sz_eq; unfold szs at hz2
 have hns : ∀ k, ∀ s ∈ nmsK x.fMethods TMethod.fName k, s.size ≤ 134217728 := fun k s hs => by obtain ⟨y, hy, rfl⟩ := nmsK_mem hs; have := szL_le TMethod.sz hy; have := y.sz_eq; omega
 have hbs : ∀ y ∈ x.fWhere, y.sz ≤ 134217728 := fun y hy => by have := szL_le TBound.sz hy; omega
 refine Ze Tryz.func89 rfl 119 ?_
 apply Zr; intros
 iterate 2 (refine Zo ?_; simp)
 exact Zx
 refine W.seq ?_
 refine W.seq ?_
 refine W.regJ (D := _) [1] [1] [(43, .d (.lf (.bool (!inst1 x))))] [] rfl (fun _ K hD hK => ?_) fun T hT => ?_
 iterate 2 (refine Zo ?_; simp)
 refine Zl [] rfl Tryz.func78 (sName_d x.fTrait (by omega) _) ?_; simp
 iterate 2 (refine Zo ?_; simp)
 refine WL.split 11 _ rfl (fun g11 => ?_) fun g11 => ?_ <;> try simp at g11
 simp
 iterate 4 (refine Zn hD rfl rfl ?_; simp)
 iterate 2 (refine Zo ?_; simp)
 iterate 6 (refine Zn hD rfl rfl ?_; simp)
 iterate 2 (refine Zo ?_; simp)
 iterate 3 (refine Zn hD rfl rfl ?_; simp)
 iterate 2 (refine Zo ?_; simp)
 iterate 4 (refine Zn hD rfl rfl ?_; simp)
 iterate 2 (refine Zo ?_; simp)
 iterate 6 (refine Zn hD rfl rfl ?_; simp)
 refine Zo ?_; simp
 refine WL.nil (hK _ (Wz.to rfl rfl rfl ?_))
 simp [inst1, g11]
 simp
 iterate 2 (refine Zg hD rfl rfl ?_; simp)
 refine Zk hD rfl rfl [] rfl Tryz.func79 (l13Words_d x.fVars 3 (fun s hs => by have := szL_le ByteArray.size hs; omega) (by omega) _) ?_; simp
 refine Zg hD rfl rfl ?_; simp
 iterate 2 (refine Zo ?_; simp)
 refine WL.split 17 _ rfl (fun g17 => ?_) fun g17 => ?_ <;> try simp at g17
 simp
 iterate 6 (refine Zn hD rfl rfl ?_; simp)
 iterate 2 (refine Zo ?_; simp)
 iterate 3 (refine Zn hD rfl rfl ?_; simp)
 iterate 2 (refine Zo ?_; simp)
 iterate 4 (refine Zn hD rfl rfl ?_; simp)
 iterate 2 (refine Zo ?_; simp)
 iterate 6 (refine Zn hD rfl rfl ?_; simp)
 refine Zo ?_; simp
 refine WL.nil (hK _ (Wz.to rfl rfl rfl ?_))
 simp [inst1, g11, g17]
 simp
 iterate 4 (refine Zg hD rfl rfl ?_; simp)
 refine Zk hD rfl rfl [] rfl Tryz.func135 (l13Vars_d x.fHead x.fVars (by omega) (by omega) _) ?_; simp
 refine Zg hD rfl rfl ?_; simp
 iterate 2 (refine Zo ?_; simp)
 refine WL.split 25 _ rfl (fun g25 => ?_) fun g25 => ?_ <;> try simp at g25
 simp
 iterate 3 (refine Zn hD rfl rfl ?_; simp)
 iterate 2 (refine Zo ?_; simp)
 iterate 4 (refine Zn hD rfl rfl ?_; simp)
 iterate 2 (refine Zo ?_; simp)
 iterate 6 (refine Zn hD rfl rfl ?_; simp)
 refine Zo ?_; simp
 refine WL.nil (hK _ (Wz.to rfl rfl rfl ?_))
 simp [inst1, g11, g17, g25]
 simp
 iterate 2 (refine Zg hD rfl rfl ?_; simp)
 refine Zk hD rfl rfl [] rfl Tryz.func136 (sPj_d x.fHead (by omega) _) ?_; simp
 iterate 2 (refine Zo ?_; simp)
 refine WL.split 30 _ rfl (fun g30 => ?_) fun g30 => ?_ <;> try simp at g30
 simp
 iterate 4 (refine Zn hD rfl rfl ?_; simp)
 iterate 2 (refine Zo ?_; simp)
 iterate 6 (refine Zn hD rfl rfl ?_; simp)
 refine Zo ?_; simp
 refine WL.nil (hK _ (Wz.to rfl rfl rfl ?_))
 simp [inst1, g11, g17, g25, g30]
 simp
 iterate 4 (refine Zg hD rfl rfl ?_; simp)
 iterate 2 (refine Zo ?_; simp)
 refine WL.split 36 _ rfl (fun g36 => ?_) fun g36 => ?_ <;> try simp at g36
 simp
 iterate 6 (refine Zn hD rfl rfl ?_; simp)
 refine Zo ?_; simp
 refine WL.nil (hK _ (Wz.to rfl rfl rfl ?_))
 simp [inst1, g11, g17, g25, g30, g36]
 simp
 iterate 4 (refine Zg hD rfl rfl ?_; simp)
 refine Zk hD rfl rfl [] rfl Tryz.func137 (l13Where_d x.fWhere x.fVars (by omega) (by omega) hbs _) ?_; simp
 refine Zg hD rfl rfl ?_; simp
 refine Zo ?_; simp
 refine WL.nil (hK _ (Wz.to rfl rfl rfl ?_))
 simp [inst1, g11, g17, g25, g30, g36]
 simp at hT; subst hT
 refine Zc rfl ?_ ?_ <;> intro hb0 <;> try simp at hb0
 have hres : instOk x = false := by unfold instOk; rw [show inst1 x = false by simpa using hb0]; simp
 apply Zr; intros
 refine Zo ?_; simp
 exact Zx
 refine W.ret (Zq ?_)
 simp [Tryz.f89, hres]
 have h1 : inst1 x = true := by simpa using hb0
 refine W.skip ?_
 refine W.seq ?_
 apply Zr; intros
 refine Zo ?_; simp
 exact Zx
 refine W.block ?_
 refine W.loopI [1] [1] (fun k0 => [(3, .d (.lf (.int .i64 (k0 : Int))))]) (fun _ => []) x.fVars.length (fun k0 => ∀ j, j < k0 → ∀ y, x.fVars[j]? = some y → (fun v => !decide (0 < occ v x.fHead)) y = false) rfl (by simp) (by simp) fun k0 hk0 hi0 T hT => ?_
 simp at hT; subst hT
 refine W.seq ?_
 apply Zr; intros
 iterate 5 (refine Zo ?_; simp)
 exact Zx
 refine Zc rfl ?_ ?_ <;> intro hb1 <;> try simp at hb1
 have hx := ixNext hb1 (by omega)
 refine W.skip ?_
 refine Zb ?_
 apply Yr rfl; intro K hK
 iterate 7 (refine Yo ?_ (by simp [hb1, hx] <;> omega); simp [hb1, hx])
 refine Yl [] rfl Tryz.func138 (sOccurs_d x.fVars[k0] x.fHead (by omega)) ?_ (by simp [hb1, hx]); simp [hb1, hx]
 refine Yo ?_ (by simp [hb1, hx] <;> omega); simp [hb1, hx]
 exact DL.nil rfl hK
 refine Zc rfl ?_ ?_ <;> intro hb2 <;> try simp at hb2
 have hres : instOk x = false := by unfold instOk; rw [anyP_yes (p := fun v => !decide (0 < occ v x.fHead)) hb1 (by simpa using hb2)]; simp
 apply Zr; intros
 refine Zo ?_ (by simp [hb1, hx] <;> omega); simp [hb1, hx]
 exact Zx
 refine W.ret (Zq ?_)
 simp [Tryz.f89, hres]
 refine W.skip ?_
 apply Zs; intros
 iterate 3 (refine Zo ?_ (by simp [hb1, hx] <;> omega); simp [hb1, hx])
 exact Zx
 refine ⟨hb1, noP_step (p := fun v => !decide (0 < occ v x.fHead)) hi0 hb1 (by simpa using hb2), Wz.to rfl rfl rfl ?_⟩
 simp
 have hkl : k0 = x.fVars.length := by omega
 subst hkl
 have hV := anyP_no (p := fun v => !decide (0 < occ v x.fHead)) hi0
 refine W.exit ?_
 refine W.seq ?_
 refine W.seq ?_
 refine W.regJ (D := _) [1] [1] [(80, .d (.lf (.bool (!inst2 x))))] [] rfl (fun _ K hD hK => ?_) fun T hT => ?_
 iterate 3 (refine Zo ?_; simp)
 refine WL.split 62 _ rfl (fun g62 => ?_) fun g62 => ?_ <;> try simp at g62
 simp
 iterate 4 (refine Zg hD rfl rfl ?_; simp)
 refine Zk hD rfl rfl [] rfl Tryz.func135 (l13Vars_d x.fAssoc x.fVars (by omega) (by omega) _) ?_; simp
 refine Zg hD rfl rfl ?_; simp
 iterate 2 (refine Zo ?_; simp)
 refine WL.split 70 _ rfl (fun g70 => ?_) fun g70 => ?_ <;> try simp at g70
 simp
 iterate 9 (refine Zn hD rfl rfl ?_; simp)
 refine Zo ?_; simp
 refine WL.nil (hK _ (Wz.to rfl rfl rfl ?_))
 simp [inst2, g62, g70] <;> grind
 simp
 iterate 4 (refine Zg hD rfl rfl ?_; simp)
 refine WL.split 74 _ rfl (fun g74 => ?_) fun g74 => ?_ <;> try simp at g74
 simp
 iterate 2 (refine Zg hD rfl rfl ?_; simp)
 refine Zk hD rfl rfl [] rfl Tryz.func139 (l11Zero_d x.fAssoc _) ?_; simp
 iterate 2 (refine Zg hD rfl rfl ?_; simp)
 refine Zo ?_; simp
 refine WL.nil (hK _ (Wz.to rfl rfl rfl ?_))
 simp [inst2, g62, g70, g74] <;> grind
 simp
 iterate 4 (refine Zn hD rfl rfl ?_; simp)
 refine Zg hD rfl rfl ?_; simp
 refine Zo ?_; simp
 refine WL.nil (hK _ (Wz.to rfl rfl rfl ?_))
 simp [inst2, g62, g70, g74] <;> grind
 simp
 iterate 6 (refine Zn hD rfl rfl ?_; simp)
 iterate 2 (refine Zo ?_; simp)
 iterate 4 (refine Zg hD rfl rfl ?_; simp)
 refine WL.split 74 _ rfl (fun g74 => ?_) fun g74 => ?_ <;> try simp at g74
 simp
 iterate 2 (refine Zg hD rfl rfl ?_; simp)
 refine Zk hD rfl rfl [] rfl Tryz.func139 (l11Zero_d x.fAssoc _) ?_; simp
 iterate 2 (refine Zg hD rfl rfl ?_; simp)
 refine Zo ?_; simp
 refine WL.nil (hK _ (Wz.to rfl rfl rfl ?_))
 simp [inst2, g62, g74] <;> grind
 simp
 iterate 4 (refine Zn hD rfl rfl ?_; simp)
 refine Zg hD rfl rfl ?_; simp
 refine Zo ?_; simp
 refine WL.nil (hK _ (Wz.to rfl rfl rfl ?_))
 simp [inst2, g62, g74] <;> grind
 simp at hT; subst hT
 refine Zc rfl ?_ ?_ <;> intro hb3 <;> try simp at hb3
 have hres : instOk x = false := by unfold instOk; rw [show inst2 x = false by simpa using hb3]; simp
 apply Zr; intros
 refine Zo ?_; simp
 exact Zx
 refine W.ret (Zq ?_)
 simp [Tryz.f89, hres]
 have h2 : inst2 x = true := by simpa using hb3
 refine W.skip ?_
 apply Zr; intros
 iterate 2 (refine Zo ?_; simp)
 exact Zx
 refine W.seq ?_
 apply Zr; intros
 refine Zo ?_; simp
 exact Zx
 refine W.block ?_
 refine W.loopI [1] [1] (fun k1 => [(5, .d (.lf (.int .i64 (k1 : Int)))), (4, .d (.sl true .one ((nmsK x.fMethods TMethod.fName k1).map dS)))]) (fun _ => []) x.fMethods.length (fun k1 => ∀ j, j < k1 → ∀ y, x.fMethods[j]? = some y → (mthBad) y = false) rfl (by simp [nmsK_zero]) (by simp) fun k1 hk1 hi1 T hT => ?_
 simp at hT; subst hT
 have hl1 := nmsK_len TMethod.fName hk1
 refine W.seq ?_
 apply Zr; intros
 iterate 5 (refine Zo ?_ (by simp [hl1] <;> omega); simp [hl1])
 exact Zx
 refine Zc rfl ?_ ?_ <;> intro hb4 <;> try simp at hb4
 have hx := ixNext hb4 (by omega)
 have hy := szL_le TMethod.sz (gm hb4)
 have hy2 := x.fMethods[k1].sz_eq; unfold szs at hy2
 refine W.skip ?_
 refine Zb ?_
 apply Zr; intros
 iterate 4 (refine Zo ?_ (by simp [hl1, hb4, hx] <;> omega); simp [hl1, hb4, hx])
 refine Zm [93] ?_ (by simp [hl1, hb4, hx] <;> omega); simp [hl1, hb4, hx]
 iterate 2 (refine Zo ?_ (by simp [hl1, hb4, hx] <;> omega); simp [hl1, hb4, hx])
 exact Zx
 refine W.seq ?_
 refine W.seq ?_
 refine W.regJ (D := _) [1, 4, 5, 6] [1, 6] [(111, .d (.lf (.bool (mthBad x.fMethods[k1]))))] [] rfl (fun _ K hD hK => ?_) fun T hT => ?_
 iterate 5 (refine Zo ?_ (by simp [hl1, hb4, hx] <;> omega); simp [hl1, hb4, hx])
 refine WL.split 98 _ rfl (fun g98 => ?_) fun g98 => ?_ <;> try simp at g98
 simp [hl1, hb4, hx]
 iterate 4 (refine Zn hD rfl rfl ?_; simp [hl1, hb4, hx])
 iterate 2 (refine Zo ?_ (by simp [hl1, hb4, hx] <;> omega); simp [hl1, hb4, hx])
 iterate 6 (refine Zn hD rfl rfl ?_; simp [hl1, hb4, hx])
 refine Zo ?_ (by simp [hl1, hb4, hx] <;> omega); simp [hl1, hb4, hx]
 refine WL.nil (hK _ (Wz.to rfl rfl rfl ?_))
 simp [mthBad, g98] <;> grind
 simp [hl1, hb4, hx]
 iterate 2 (refine Zg hD rfl rfl ?_ (by simp [hl1, hb4, hx] <;> omega); simp [hl1, hb4, hx])
 refine Zk hD rfl rfl [] rfl Tryz.func79 (l13Words_d x.fMethods[k1].fVars 5 (fun s hs => by have := szL_le ByteArray.size hs; omega) (by omega) _) ?_ (by simp [hl1, hb4, hx]); simp [hl1, hb4, hx]
 refine Zg hD rfl rfl ?_ (by simp [hl1, hb4, hx] <;> omega); simp [hl1, hb4, hx]
 iterate 2 (refine Zo ?_ (by simp [hl1, hb4, hx] <;> omega); simp [hl1, hb4, hx])
 refine WL.split 104 _ rfl (fun g104 => ?_) fun g104 => ?_ <;> try simp at g104
 simp [hl1, hb4, hx]
 iterate 6 (refine Zn hD rfl rfl ?_; simp [hl1, hb4, hx])
 refine Zo ?_ (by simp [hl1, hb4, hx] <;> omega); simp [hl1, hb4, hx]
 refine WL.nil (hK _ (Wz.to rfl rfl rfl ?_))
 simp [mthBad, g98, g104] <;> grind
 simp [hl1, hb4, hx]
 iterate 4 (refine Zg hD rfl rfl ?_ (by simp [hl1, hb4, hx] <;> omega); simp [hl1, hb4, hx])
 refine Zk hD rfl rfl [] rfl Tryz.func140 (l13Body_d x.fMethods[k1].fBody x.fMethods[k1].fVars (by omega) (by omega) _) ?_ (by simp [hl1, hb4, hx]); simp [hl1, hb4, hx]
 refine Zg hD rfl rfl ?_ (by simp [hl1, hb4, hx] <;> omega); simp [hl1, hb4, hx]
 refine Zo ?_ (by simp [hl1, hb4, hx] <;> omega); simp [hl1, hb4, hx]
 refine WL.nil (hK _ (Wz.to rfl rfl rfl ?_))
 simp [mthBad, g98, g104] <;> grind
 simp at hT; subst hT
 refine Zc rfl ?_ ?_ <;> intro hb5 <;> try simp at hb5
 have hres : instOk x = false := by unfold instOk; rw [anyP_yes (p := mthBad) hb4 (by simpa using hb5)]; simp
 apply Zr; intros
 refine Zo ?_ (by simp [hl1, hb4, hx] <;> omega); simp [hl1, hb4, hx]
 exact Zx
 refine W.ret (Zq ?_)
 simp [Tryz.f89, hres]
 refine W.skip ?_
 apply Zs; intros
 refine Zm [112] ?_ (by simp [hl1, hb4, hx] <;> omega); simp [hl1, hb4, hx]
 iterate 5 (refine Zo ?_ (by simp [hl1, hb4, hx] <;> omega); simp [hl1, hb4, hx])
 exact Zx
 apply Zs; intros
 iterate 3 (refine Zo ?_ (by simp [hl1, hb4, hx] <;> omega); simp [hl1, hb4, hx])
 exact Zx
 refine ⟨hb4, noP_step (p := mthBad) hi1 hb4 (by simpa using hb5), Wz.to rfl rfl rfl ?_⟩
 have hs := nmsK_snoc TMethod.fName hb4
 simp [hs]
 have hkl : k1 = x.fMethods.length := by omega
 subst hkl
 have hA := anyP_no (p := mthBad) hi1
 have hres : instOk x = words (nmsK x.fMethods TMethod.fName x.fMethods.length) 6 := by unfold instOk; rw [h1, hV, h2, hA, nmsK_full]; simp
 refine W.exit ?_
 apply Zr; intros
 refine Zo ?_ (by simp [hl1] <;> omega); simp [hl1]
 refine Zl [] rfl Tryz.func79 (l13Words_d (nmsK x.fMethods TMethod.fName x.fMethods.length) 6 (hns _) (by omega) _) ?_ (by simp [hl1]); simp [hl1]
 refine Zo ?_ (by simp [hl1] <;> omega); simp [hl1]
 exact Zx
 refine W.ret (Zq ?_)
 simp [Tryz.f89, hres]
theorem sFn_d (x : TFunction) (hz : x.sz ≤ 134217728) (h : HP) : CS cx.P 91 [.d (x.dd false)] h (.d (.lf (.bool (fnOk x)))) h := by
 have hz2 := x.sz_eq; unfold szs at hz2
 have hns : ∀ k, ∀ s ∈ nmsK x.fParams TParam.fName k, s.size ≤ 134217728 := fun k s hs => by obtain ⟨y, hy, rfl⟩ := nmsK_mem hs; have := szL_le TParam.sz hy; have := y.sz_eq; omega
 have hbs : ∀ y ∈ x.fWhere, y.sz ≤ 134217728 := fun y hy => by have := szL_le TBound.sz hy; omega
 refine Ze Tryz.func91 rfl 64 ?_
 apply Zr; intros
 iterate 2 (refine Zo ?_; simp)
 exact Zx
 apply Zr; intros
 iterate 2 (refine Zo ?_; simp)
 exact Zx
 refine W.seq ?_
 apply Zr; intros
 refine Zo ?_; simp
 exact Zx
 refine W.block ?_
 refine W.loopI [1] [1] (fun k0 => [(4, .d (.lf (.int .i64 (k0 : Int)))), (3, .d (.sl true .one ((nmsK x.fParams TParam.fName k0).map dS)))]) (fun _ => []) x.fParams.length (fun k0 => ∀ j, j < k0 → ∀ y, x.fParams[j]? = some y → (fun p : TParam => !tOver p.fType x.fVars) y = false) rfl (by simp [nmsK_zero]) (by simp) fun k0 hk0 hi0 T hT => ?_
 simp at hT; subst hT
 have hl0 := nmsK_len TParam.fName hk0
 refine W.seq ?_
 apply Zr; intros
 iterate 5 (refine Zo ?_ (by simp [hl0] <;> omega); simp [hl0])
 exact Zx
 refine Zc rfl ?_ ?_ <;> intro hb0 <;> try simp at hb0
 have hx := ixNext hb0 (by omega)
 have hy := szL_le TParam.sz (gm hb0)
 have hy2 := x.fParams[k0].sz_eq; unfold szs at hy2
 refine W.skip ?_
 refine Zb ?_
 refine W.seq ?_
 apply Yr rfl; intro K hK
 iterate 8 (refine Yo ?_ (by simp [hl0, hb0, hx] <;> omega); simp [hl0, hb0, hx])
 refine Yl [] rfl Tryz.func135 (l13Vars_d x.fParams[k0].fType x.fVars (by omega) (by omega)) ?_ (by simp [hl0, hb0, hx]); simp [hl0, hb0, hx]
 refine Yo ?_ (by simp [hl0, hb0, hx] <;> omega); simp [hl0, hb0, hx]
 exact DL.nil rfl hK
 refine Zc rfl ?_ ?_ <;> intro hb1 <;> try simp at hb1
 have hres : fnOk x = false := by unfold fnOk; rw [anyP_yes (p := fun p : TParam => !tOver p.fType x.fVars) hb0 (by simpa using hb1)]; simp
 apply Zr; intros
 refine Zo ?_ (by simp [hl0, hb0, hx] <;> omega); simp [hl0, hb0, hx]
 exact Zx
 refine W.ret (Zq ?_)
 simp [Tryz.f91, hres]
 refine W.skip ?_
 apply Zs; intros
 refine Zm [23] ?_ (by simp [hl0, hb0, hx] <;> omega); simp [hl0, hb0, hx]
 iterate 9 (refine Zo ?_ (by simp [hl0, hb0, hx] <;> omega); simp [hl0, hb0, hx])
 exact Zx
 apply Zs; intros
 iterate 3 (refine Zo ?_ (by simp [hl0, hb0, hx] <;> omega); simp [hl0, hb0, hx])
 exact Zx
 refine ⟨hb0, noP_step (p := fun p : TParam => !tOver p.fType x.fVars) hi0 hb0 (by simpa using hb1), Wz.to rfl rfl rfl ?_⟩
 have hs := nmsK_snoc TParam.fName hb0
 simp [hs]
 have hkl : k0 = x.fParams.length := by omega
 subst hkl
 have hA := anyP_no (p := fun p : TParam => !tOver p.fType x.fVars) hi0
 have hres : fnOk x = (isNm x.fName && words x.fVars 3 && wher x.fWhere x.fVars && words (nmsK x.fParams TParam.fName x.fParams.length) 5 && tOver x.fResult x.fVars && body x.fBody (nmsK x.fParams TParam.fName x.fParams.length)) := by unfold fnOk; rw [hA, nmsK_full]; simp
 refine W.exit ?_
 refine W.seq ?_
 refine W.regJ0 (D := _) rfl fun _ K hD hK => ?_
 iterate 2 (refine Zo ?_ (by simp [hl0] <;> omega); simp [hl0])
 refine Zl [] rfl Tryz.func78 (sName_d x.fName (by omega) _) ?_ (by simp [hl0]); simp [hl0]
 refine Zo ?_ (by simp [hl0] <;> omega); simp [hl0]
 refine WL.split 35 _ rfl (fun g35 => ?_) fun g35 => ?_ <;> try simp at g35
 simp [hl0]
 iterate 2 (refine Zg hD rfl rfl ?_ (by simp [hl0] <;> omega); simp [hl0])
 refine Zk hD rfl rfl [] rfl Tryz.func79 (l13Words_d x.fVars 3 (fun s hs => by have := szL_le ByteArray.size hs; omega) (by omega) _) ?_ (by simp [hl0]); simp [hl0]
 iterate 2 (refine Zo ?_ (by simp [hl0] <;> omega); simp [hl0])
 refine WL.split 40 _ rfl (fun g40 => ?_) fun g40 => ?_ <;> try simp at g40
 simp [hl0]
 iterate 4 (refine Zg hD rfl rfl ?_ (by simp [hl0] <;> omega); simp [hl0])
 refine Zk hD rfl rfl [] rfl Tryz.func137 (l13Where_d x.fWhere x.fVars (by omega) (by omega) hbs _) ?_ (by simp [hl0]); simp [hl0]
 iterate 2 (refine Zo ?_ (by simp [hl0] <;> omega); simp [hl0])
 refine WL.split 47 _ rfl (fun g47 => ?_) fun g47 => ?_ <;> try simp at g47
 simp [hl0]
 refine Zg hD rfl rfl ?_ (by simp [hl0] <;> omega); simp [hl0]
 refine Zk hD rfl rfl [] rfl Tryz.func79 (l13Words_d (nmsK x.fParams TParam.fName x.fParams.length) 5 (hns _) (by omega) _) ?_ (by simp [hl0]); simp [hl0]
 iterate 2 (refine Zo ?_ (by simp [hl0] <;> omega); simp [hl0])
 refine WL.split 51 _ rfl (fun g51 => ?_) fun g51 => ?_ <;> try simp at g51
 simp [hl0]
 iterate 4 (refine Zg hD rfl rfl ?_ (by simp [hl0] <;> omega); simp [hl0])
 refine Zk hD rfl rfl [] rfl Tryz.func135 (l13Vars_d x.fResult x.fVars (by omega) (by omega) _) ?_ (by simp [hl0]); simp [hl0]
 iterate 2 (refine Zo ?_ (by simp [hl0] <;> omega); simp [hl0])
 refine WL.split 58 _ rfl (fun g58 => ?_) fun g58 => ?_ <;> try simp at g58
 simp [hl0]
 iterate 3 (refine Zg hD rfl rfl ?_ (by simp [hl0] <;> omega); simp [hl0])
 refine Zk hD rfl rfl [] rfl Tryz.func140 (l13Body_d x.fBody (nmsK x.fParams TParam.fName x.fParams.length) (by omega) (by omega) _) ?_ (by simp [hl0]); simp [hl0]
 iterate 2 (refine Zo ?_ (by simp [hl0] <;> omega); simp [hl0])
 refine WL.nil (hK _ ?_)
 refine W.ret (Zq ?_)
 simp [Tryz.f91, hres, g35, g40, g47, g51, g58]
 simp [hl0]
 iterate 4 (refine Zn hD rfl rfl ?_; simp [hl0])
 iterate 2 (refine Zo ?_ (by simp [hl0] <;> omega); simp [hl0])
 refine WL.nil (hK _ ?_)
 refine W.ret (Zq ?_)
 simp [Tryz.f91, hres, g35, g40, g47, g51, g58]
 simp [hl0]
 iterate 5 (refine Zn hD rfl rfl ?_; simp [hl0])
 iterate 2 (refine Zo ?_ (by simp [hl0] <;> omega); simp [hl0])
 iterate 4 (refine Zn hD rfl rfl ?_; simp [hl0])
 iterate 2 (refine Zo ?_ (by simp [hl0] <;> omega); simp [hl0])
 refine WL.nil (hK _ ?_)
 refine W.ret (Zq ?_)
 simp [Tryz.f91, hres, g35, g40, g47, g51]
 simp [hl0]
 iterate 2 (refine Zn hD rfl rfl ?_; simp [hl0])
 iterate 2 (refine Zo ?_ (by simp [hl0] <;> omega); simp [hl0])
 iterate 5 (refine Zn hD rfl rfl ?_; simp [hl0])
 iterate 2 (refine Zo ?_ (by simp [hl0] <;> omega); simp [hl0])
 iterate 4 (refine Zn hD rfl rfl ?_; simp [hl0])
 iterate 2 (refine Zo ?_ (by simp [hl0] <;> omega); simp [hl0])
 refine WL.nil (hK _ ?_)
 refine W.ret (Zq ?_)
 simp [Tryz.f91, hres, g35, g40, g47]
 simp [hl0]
 iterate 5 (refine Zn hD rfl rfl ?_; simp [hl0])
 iterate 2 (refine Zo ?_ (by simp [hl0] <;> omega); simp [hl0])
 iterate 2 (refine Zn hD rfl rfl ?_; simp [hl0])
 iterate 2 (refine Zo ?_ (by simp [hl0] <;> omega); simp [hl0])
 iterate 5 (refine Zn hD rfl rfl ?_; simp [hl0])
 iterate 2 (refine Zo ?_ (by simp [hl0] <;> omega); simp [hl0])
 iterate 4 (refine Zn hD rfl rfl ?_; simp [hl0])
 iterate 2 (refine Zo ?_ (by simp [hl0] <;> omega); simp [hl0])
 refine WL.nil (hK _ ?_)
 refine W.ret (Zq ?_)
 simp [Tryz.f91, hres, g35, g40]
 simp [hl0]
 iterate 3 (refine Zn hD rfl rfl ?_; simp [hl0])
 iterate 2 (refine Zo ?_ (by simp [hl0] <;> omega); simp [hl0])
 iterate 5 (refine Zn hD rfl rfl ?_; simp [hl0])
 iterate 2 (refine Zo ?_ (by simp [hl0] <;> omega); simp [hl0])
 iterate 2 (refine Zn hD rfl rfl ?_; simp [hl0])
 iterate 2 (refine Zo ?_ (by simp [hl0] <;> omega); simp [hl0])
 iterate 5 (refine Zn hD rfl rfl ?_; simp [hl0])
 iterate 2 (refine Zo ?_ (by simp [hl0] <;> omega); simp [hl0])
 iterate 4 (refine Zn hD rfl rfl ?_; simp [hl0])
 iterate 2 (refine Zo ?_ (by simp [hl0] <;> omega); simp [hl0])
 refine WL.nil (hK _ ?_)
 refine W.ret (Zq ?_)
 simp [Tryz.f91, hres, g35]
end Go.Proofs.YtkadbimpaplnmaaGreatDoor
