/- Walks by the Den rules. No condition but sizes. -/
import Derived.Test.YtkadbimpaplnmaaGreatDoorM16
import Derived.Test.YtkadbimpaplnmaaGreatDoorM24
namespace Go.Proofs.YtkadbimpaplnmaaGreatDoor
open Go.RowKit
set_option maxRecDepth 10000
set_option linter.unusedSimpArgs false
set_option maxHeartbeats 4000000
def occ0 (v : ByteArray) (k : Int) (n : ByteArray) : Nat := if k = 1 ∧ n = v then 1 else 0
def occK (v : ByteArray) (x : TType) (k : Nat) : Nat := occ0 v x.fKind x.fName + occs v (x.fArgs.take k)
theorem occs_app (v : ByteArray) : ∀ a b : List TType, occs v (a ++ b) = occs v a + occs v b
 | [], b => by simp [occs]
 | x :: a, b => by simp only [List.cons_append, occs, occs_app v a b]; omega
mutual
theorem occ_le (v : ByteArray) : ∀ x : TType, occ v x ≤ tSize x
 | ⟨k, n, l⟩ => by
  have := occs_le v l
  simp only [occ, tSize]; split <;> omega
theorem occs_le (v : ByteArray) : ∀ l : List TType, occs v l ≤ tSizes l
 | [] => by simp [occs, tSizes]
 | x :: l => by simp only [occs, tSizes]; have := occ_le v x; have := occs_le v l; omega
end
theorem occK_zero (v : ByteArray) (x : TType) : occK v x 0 = occ0 v x.fKind x.fName := by simp [occK, occs]
theorem occK_full (v : ByteArray) (x : TType) : occK v x x.fArgs.length = occ v x := by cases x; simp [occK, occ, occ0]
theorem occK_nx {v : ByteArray} {x : TType} {k : Nat} (h : k < x.fArgs.length) : occK v x (k + 1) = occK v x k + occ v x.fArgs[k] := by
 unfold occK
 rw [List.take_succ_eq_append_getElem h, occs_app]; simp [occs]; omega
theorem occK_le (v : ByteArray) (x : TType) (k : Nat) : occK v x k ≤ tSzk x.fArgs k := by
 have := occs_le v (x.fArgs.take k)
 unfold occK occ0 tSzk; split <;> omega
theorem sOcc_a (x : TType) (v : ByteArray) (hz : x.sz ≤ 134217728) (hc : ∀ y ∈ x.fArgs, ∀ h, CS cx.P 197 [.d (y.dd false), .d (.lf (.string v))] h (.d (.lf (.int .i64 ((occ v y : Nat) : Int)))) h) (h : HP) : CS cx.P 197 [.d (x.dd false), .d (.lf (.string v))] h (.d (.lf (.int .i64 ((occ v x : Nat) : Int)))) h := by
 have hz2 := x.sz_eq; unfold szs at hz2
 have hts := tSize_le x
 refine Ze Tryz.func197 rfl 33 ?_
 apply Zr; intros
 iterate 2 (refine Zo ?_; simp)
 exact Zx
 apply Zr; intros
 refine Zo ?_; simp
 exact Zx
 refine W.seq ?_
 refine W.seq ?_
 refine W.regJ (D := _) [1, 2, 5] [2] [(15, .d (.lf (.bool (decide (x.fKind = 1) && decide (x.fName = v)))))] [] rfl (fun _ K hD hK => ?_) fun T hT => ?_
 iterate 4 (refine Zo ?_; simp)
 refine WL.split 10 _ rfl (fun g10 => ?_) fun g10 => ?_ <;> try simp at g10
 simp
 iterate 4 (refine Zg hD rfl rfl ?_; simp)
 refine Zo ?_; simp
 refine WL.nil (hK _ (Wz.to rfl rfl rfl ?_))
 simp [g10]
 simp
 iterate 4 (refine Zn hD rfl rfl ?_; simp)
 refine Zo ?_; simp
 refine WL.nil (hK _ (Wz.to rfl rfl rfl ?_))
 simp [g10]
 simp at hT; subst hT
 refine W.join [1, 2] [2] [(5, .d (.lf (.int .i64 ((occ0 v x.fKind x.fName : Nat) : Int))))] [] ?_ fun T hT => ?_
 refine Zc rfl ?_ ?_ <;> intro hb0 <;> try simp at hb0
 have ht : occ0 v x.fKind x.fName = 1 := by unfold occ0; exact if_pos hb0
 apply Zs; intros
 refine Zo ?_; simp
 exact Zx
 refine Wz.to rfl rfl rfl ?_
 simp [ht]
 have ht : occ0 v x.fKind x.fName = 0 := by unfold occ0; exact if_neg (by simpa using hb0)
 refine W.skip ?_
 refine Wz.to rfl rfl rfl ?_
 simp [ht]
 simp at hT; subst hT
 refine W.seq ?_
 apply Zr; intros
 refine Zo ?_; simp
 exact Zx
 refine W.block ?_
 refine W.loopk [1, 2] [2] (fun k0 => [(6, .d (.lf (.int .i64 (k0 : Int)))), (5, .d (.lf (.int .i64 ((occK v x k0 : Nat) : Int))))]) (fun _ => []) x.fArgs.length rfl (by simp [occK_zero]) fun k0 hk0 T hT => ?_
 simp at hT; subst hT
 refine W.seq ?_
 apply Zr; intros
 iterate 5 (refine Zo ?_; simp)
 exact Zx
 refine Zc rfl ?_ ?_ <;> intro hb1 <;> try simp at hb1
 have hx := ixNext hb1 (by omega)
 have hw : IntKind.i64.wrap ((occK v x k0 : Int) + (occ v x.fArgs[k0] : Int)) = (occK v x (k0 + 1) : Int) := by have h1 := occK_nx (v := v) hb1; have h2 := occK_le v x (k0 + 1); have h3 := tSzk_le x (k0 + 1); rw [i64w (by omega) (by omega)]; omega
 refine W.skip ?_
 refine Zb ?_
 apply Zs; intros
 iterate 7 (refine Zo ?_ (by simp [hb1, hx, hw] <;> omega); simp [hb1, hx, hw])
 refine Zl [] rfl Tryz.func197 (hc x.fArgs[k0] (gm hb1) _) ?_ (by simp [hb1, hx, hw]); simp [hb1, hx, hw]
 iterate 2 (refine Zo ?_ (by simp [hb1, hx, hw] <;> omega); simp [hb1, hx, hw])
 exact Zx
 apply Zs; intros
 iterate 3 (refine Zo ?_ (by simp [hb1, hx, hw] <;> omega); simp [hb1, hx, hw])
 exact Zx
 refine ⟨hb1, Wz.to rfl rfl rfl ?_⟩
 simp
 have hkl : k0 = x.fArgs.length := by omega
 subst hkl
 have hres := occK_full v x
 refine W.exit ?_
 apply Zr; intros
 iterate 2 (refine Zo ?_; simp)
 exact Zx
 refine W.ret (Zq ?_)
 simp [Tryz.f197, hres]
theorem sOcc_d (x : TType) (v : ByteArray) (hz : x.sz ≤ 134217728) (h : HP) : CS cx.P 197 [.d (x.dd false), .d (.lf (.string v))] h (.d (.lf (.int .i64 ((occ v x : Nat) : Int)))) h := sOcc_a x v hz (fun y hy h => sOcc_d y v (by have h1 := szL_le TType.sz hy; have h2 := x.sz_eq; unfold szs at h2; omega) h) h
termination_by SizeOf.sizeOf x
decreasing_by have := List.sizeOf_lt_of_mem hy; have := x.lt_fArgs; omega
theorem sOccurs_d (v : ByteArray) (x : TType) (hz : x.sz ≤ 134217728) (h : HP) : CS cx.P 138 [.d (.lf (.string v)), .d (x.dd false)] h (.d (.lf (.bool (decide (0 < occ v x))))) h := by
 refine Ze Tryz.func138 rfl 9 ?_
 apply Zr; intros
 iterate 2 (refine Zo ?_; simp)
 exact Zx
 apply Zr; intros
 iterate 2 (refine Zo ?_; simp)
 refine Zl [] rfl Tryz.func197 (sOcc_d x v hz _) ?_; simp
 iterate 2 (refine Zo ?_; simp)
 exact Zx
 refine W.ret (Zq ?_)
 simp [Tryz.f138]
theorem sTrait_d (x : TTrait) (hz : x.sz ≤ 134217728) (h : HP) : CS cx.P 84 [.d (x.dd false)] h (.d (.lf (.bool (traitOk x)))) h := by
 have hz2 := x.sz_eq; unfold szs at hz2
 have hns : ∀ k, ∀ s ∈ nmsK x.fSignatures TSignature.fName k, s.size ≤ 134217728 := fun k s hs => by obtain ⟨y, hy, rfl⟩ := nmsK_mem hs; have := szL_le TSignature.sz hy; have := y.sz_eq; omega
 refine Ze Tryz.func84 rfl 59 ?_
 apply Zr; intros
 iterate 2 (refine Zo ?_; simp)
 exact Zx
 apply Zr; intros
 iterate 2 (refine Zo ?_; simp)
 exact Zx
 refine W.seq ?_
 apply Zr; intros
 refine Zo ?_; simp
 exact Zx
 refine W.block ?_
 refine W.loopI [1] [1] (fun k0 => [(4, .d (.lf (.int .i64 (k0 : Int)))), (3, .d (.sl true .one ((nmsK x.fSignatures TSignature.fName k0).map dS)))]) (fun _ => []) x.fSignatures.length (fun k0 => ∀ j, j < k0 → ∀ y, x.fSignatures[j]? = some y → (fun g => !sigOk g) y = false) rfl (by simp [nmsK_zero]) (by simp) fun k0 hk0 hi0 T hT => ?_
 simp at hT; subst hT
 have hl0 := nmsK_len TSignature.fName hk0
 refine W.seq ?_
 apply Zr; intros
 iterate 5 (refine Zo ?_ (by simp [hl0] <;> omega); simp [hl0])
 exact Zx
 refine Zc rfl ?_ ?_ <;> intro hb0 <;> try simp at hb0
 have hx := ixNext hb0 (by omega)
 have hy := szL_le TSignature.sz (gm hb0)
 have hy2 := x.fSignatures[k0].sz_eq; unfold szs at hy2
 refine W.skip ?_
 refine Zb ?_
 refine W.seq ?_
 apply Zr; intros
 iterate 5 (refine Zo ?_ (by simp [hl0, hb0, hx] <;> omega); simp [hl0, hb0, hx])
 refine Zl [] rfl Tryz.func132 (l13Sig_d x.fSignatures[k0] (by omega) _) ?_ (by simp [hl0, hb0, hx]); simp [hl0, hb0, hx]
 refine Zo ?_ (by simp [hl0, hb0, hx] <;> omega); simp [hl0, hb0, hx]
 exact Zx
 refine Zc rfl ?_ ?_ <;> intro hb1 <;> try simp at hb1
 have hres : traitOk x = false := by unfold traitOk; rw [anyP_yes (p := fun g => !sigOk g) hb0 (by simpa using hb1)]; simp
 apply Zr; intros
 refine Zo ?_ (by simp [hl0, hb0, hx] <;> omega); simp [hl0, hb0, hx]
 exact Zx
 refine W.ret (Zq ?_)
 simp [Tryz.f84, hres] <;> grind
 refine W.skip ?_
 apply Zs; intros
 refine Zm [20] ?_ (by simp [hl0, hb0, hx] <;> omega); simp [hl0, hb0, hx]
 iterate 9 (refine Zo ?_ (by simp [hl0, hb0, hx] <;> omega); simp [hl0, hb0, hx])
 exact Zx
 apply Zs; intros
 iterate 3 (refine Zo ?_ (by simp [hl0, hb0, hx] <;> omega); simp [hl0, hb0, hx])
 exact Zx
 refine ⟨hb0, noP_step (p := fun g => !sigOk g) hi0 hb0 (by simpa using hb1), Wz.to rfl rfl rfl ?_⟩
 have hs := nmsK_snoc TSignature.fName hb0
 simp [hs]
 have hkl : k0 = x.fSignatures.length := by omega
 subst hkl
 have hA := anyP_no (p := fun g => !sigOk g) hi0
 refine W.exit ?_
 refine W.seq ?_
 refine W.seq ?_
 refine W.regJ (D := _) [1, 3] [1] [(46, .d (.lf (.bool (x.fAuto && (x.fAssoc || !decide (x.fSignatures = []) || !decide (x.fSupertraits = []))))))] [] rfl (fun _ K hD hK => ?_) fun T hT => ?_
 iterate 3 (refine Zo ?_ (by simp [hl0] <;> omega); simp [hl0])
 refine WL.split 31 _ rfl (fun g31 => ?_) fun g31 => ?_ <;> try simp at g31
 simp [hl0]
 iterate 3 (refine Zg hD rfl rfl ?_ (by simp [hl0] <;> omega); simp [hl0])
 refine WL.split 34 _ rfl (fun g34 => ?_) fun g34 => ?_ <;> try simp at g34
 simp [hl0]
 iterate 4 (refine Zn hD rfl rfl ?_; simp [hl0])
 iterate 2 (refine Zg hD rfl rfl ?_ (by simp [hl0] <;> omega); simp [hl0])
 iterate 4 (refine Zn hD rfl rfl ?_; simp [hl0])
 refine Zg hD rfl rfl ?_ (by simp [hl0] <;> omega); simp [hl0]
 refine Zo ?_ (by simp [hl0] <;> omega); simp [hl0]
 refine WL.nil (hK _ (Wz.to rfl rfl rfl ?_))
 simp [g31, g34] <;> grind
 simp [hl0]
 iterate 6 (refine Zg hD rfl rfl ?_ (by simp [hl0] <;> omega); simp [hl0])
 refine WL.split 40 _ rfl (fun g40 => ?_) fun g40 => ?_ <;> try simp at g40
 simp [hl0]
 iterate 4 (refine Zn hD rfl rfl ?_; simp [hl0])
 refine Zg hD rfl rfl ?_ (by simp [hl0] <;> omega); simp [hl0]
 refine Zo ?_ (by simp [hl0] <;> omega); simp [hl0]
 refine WL.nil (hK _ (Wz.to rfl rfl rfl ?_))
 simp [g31, g34, g40] <;> grind
 simp [hl0]
 iterate 5 (refine Zg hD rfl rfl ?_ (by simp [hl0] <;> omega); simp [hl0])
 refine Zo ?_ (by simp [hl0] <;> omega); simp [hl0]
 refine WL.nil (hK _ (Wz.to rfl rfl rfl ?_))
 simp [g31, g34, g40] <;> grind
 simp [hl0]
 iterate 14 (refine Zn hD rfl rfl ?_; simp [hl0])
 refine Zo ?_ (by simp [hl0] <;> omega); simp [hl0]
 refine WL.nil (hK _ (Wz.to rfl rfl rfl ?_))
 simp [g31] <;> grind
 simp at hT; subst hT
 refine Zc rfl ?_ ?_ <;> intro hb2 <;> try simp at hb2
 have hq : (x.fAuto && (x.fAssoc || !decide (x.fSignatures = []) || !decide (x.fSupertraits = []))) = true := by simpa using hb2
 have hres : traitOk x = false := by unfold traitOk; rw [hq]; simp
 apply Zr; intros
 refine Zo ?_ (by simp [hl0] <;> omega); simp [hl0]
 exact Zx
 refine W.ret (Zq ?_)
 simp [Tryz.f84, hres] <;> grind
 have hq : (x.fAuto && (x.fAssoc || !decide (x.fSignatures = []) || !decide (x.fSupertraits = []))) = false := by simpa using hb2
 have hres : traitOk x = (isNm x.fName && words x.fSupertraits 4 && words (nmsK x.fSignatures TSignature.fName x.fSignatures.length) 6) := by unfold traitOk; rw [hA, hq, nmsK_full]; simp
 refine W.skip ?_
 refine W.seq ?_
 refine W.regJ0 (D := _) rfl fun _ K hD hK => ?_
 iterate 2 (refine Zo ?_ (by simp [hl0] <;> omega); simp [hl0])
 refine Zl [] rfl Tryz.func78 (sName_d x.fName (by omega) _) ?_ (by simp [hl0]); simp [hl0]
 refine Zo ?_ (by simp [hl0] <;> omega); simp [hl0]
 refine WL.split 50 _ rfl (fun g50 => ?_) fun g50 => ?_ <;> try simp at g50
 simp [hl0]
 iterate 2 (refine Zg hD rfl rfl ?_ (by simp [hl0] <;> omega); simp [hl0])
 refine Zk hD rfl rfl [] rfl Tryz.func79 (l13Words_d x.fSupertraits 4 (fun s hs => by have := szL_le ByteArray.size hs; omega) (by omega) _) ?_ (by simp [hl0]); simp [hl0]
 iterate 2 (refine Zo ?_ (by simp [hl0] <;> omega); simp [hl0])
 refine WL.split 55 _ rfl (fun g55 => ?_) fun g55 => ?_ <;> try simp at g55
 simp [hl0]
 refine Zg hD rfl rfl ?_ (by simp [hl0] <;> omega); simp [hl0]
 refine Zk hD rfl rfl [] rfl Tryz.func79 (l13Words_d (nmsK x.fSignatures TSignature.fName x.fSignatures.length) 6 (hns _) (by omega) _) ?_ (by simp [hl0]); simp [hl0]
 iterate 2 (refine Zo ?_ (by simp [hl0] <;> omega); simp [hl0])
 refine WL.nil (hK _ ?_)
 refine W.ret (Zq ?_)
 simp [Tryz.f84, hres, g50, g55] <;> grind
 simp [hl0]
 iterate 2 (refine Zn hD rfl rfl ?_; simp [hl0])
 iterate 2 (refine Zo ?_ (by simp [hl0] <;> omega); simp [hl0])
 refine WL.nil (hK _ ?_)
 refine W.ret (Zq ?_)
 simp [Tryz.f84, hres, g50, g55] <;> grind
 simp [hl0]
 iterate 3 (refine Zn hD rfl rfl ?_; simp [hl0])
 iterate 2 (refine Zo ?_ (by simp [hl0] <;> omega); simp [hl0])
 iterate 2 (refine Zn hD rfl rfl ?_; simp [hl0])
 iterate 2 (refine Zo ?_ (by simp [hl0] <;> omega); simp [hl0])
 refine WL.nil (hK _ ?_)
 refine W.ret (Zq ?_)
 simp [Tryz.f84, hres, g50] <;> grind
theorem sData_d (x : TDataType) (hz : x.sz ≤ 134217728) (h : HP) : CS cx.P 88 [.d (x.dd false)] h (.d (.lf (.bool (dataOk x)))) h := by
 have hz2 := x.sz_eq; unfold szs at hz2
 have hns : ∀ k, ∀ s ∈ nmsK x.fConstructors TConstructor.fName k, s.size ≤ 134217728 := fun k s hs => by obtain ⟨y, hy, rfl⟩ := nmsK_mem hs; have := szL_le TConstructor.sz hy; have := y.sz_eq; omega
 refine Ze Tryz.func88 rfl 59 ?_
 apply Zr; intros
 iterate 2 (refine Zo ?_; simp)
 exact Zx
 apply Zr; intros
 iterate 2 (refine Zo ?_; simp)
 exact Zx
 refine W.seq ?_
 apply Zr; intros
 refine Zo ?_; simp
 exact Zx
 refine W.block ?_
 refine W.loopI [1] [1] (fun k0 => [(4, .d (.lf (.int .i64 (k0 : Int)))), (3, .d (.sl true .one ((nmsK x.fConstructors TConstructor.fName k0).map dS)))]) (fun _ => []) x.fConstructors.length (fun k0 => ∀ j, j < k0 → ∀ y, x.fConstructors[j]? = some y → (fun c => ctBad c x.fVars) y = false) rfl (by simp [nmsK_zero]) (by simp) fun k0 hk0 hi0 T hT => ?_
 simp at hT; subst hT
 have hl0 := nmsK_len TConstructor.fName hk0
 refine W.seq ?_
 apply Zr; intros
 iterate 5 (refine Zo ?_ (by simp [hl0] <;> omega); simp [hl0])
 exact Zx
 refine Zc rfl ?_ ?_ <;> intro hb0 <;> try simp at hb0
 have hx := ixNext hb0 (by omega)
 have hy := szL_le TConstructor.sz (gm hb0)
 have hy2 := x.fConstructors[k0].sz_eq; unfold szs at hy2
 have hfs : ∀ y ∈ x.fConstructors[k0].fFields, y.sz ≤ 134217728 := fun y hy => by have := szL_le TType.sz hy; omega
 refine W.skip ?_
 refine Zb ?_
 refine W.seq ?_
 refine W.seq ?_
 refine W.regDJ (D := _) rfl [1, 3, 4] [1] [(32, .d (.lf (.bool (ctBad x.fConstructors[k0] x.fVars))))] [] rfl (fun K hD hK => ?_) fun T hT => ?_
 iterate 9 (refine Yo ?_ (by simp [hl0, hb0, hx] <;> omega); simp [hl0, hb0, hx])
 refine DL.split 21 _ rfl (fun g21 => ?_) fun g21 => ?_ <;> try simp at g21
 simp [hl0, hb0, hx]
 iterate 10 (refine Yn hD rfl rfl ?_; simp [hl0, hb0, hx])
 refine Yo ?_ (by simp [hl0, hb0, hx] <;> omega); simp [hl0, hb0, hx]
 refine DL.nil rfl (hK _ (Wz.to rfl rfl rfl ?_))
 simp [ctBad, g21] <;> first | omega | grind
 simp [hl0, hb0, hx]
 iterate 8 (refine Yg hD rfl rfl ?_ (by simp [hl0, hb0, hx] <;> omega); simp [hl0, hb0, hx])
 refine Yk hD rfl rfl [] rfl Tryz.func134 (l13All_d x.fConstructors[k0].fFields x.fVars (by omega) (by omega) hfs) ?_ (by simp [hl0, hb0, hx]); simp [hl0, hb0, hx]
 refine Yg hD rfl rfl ?_ (by simp [hl0, hb0, hx] <;> omega); simp [hl0, hb0, hx]
 refine Yo ?_ (by simp [hl0, hb0, hx] <;> omega); simp [hl0, hb0, hx]
 refine DL.nil rfl (hK _ (Wz.to rfl rfl rfl ?_))
 simp [ctBad, g21] <;> first | omega | grind
 simp at hT; subst hT
 refine Zc rfl ?_ ?_ <;> intro hb1 <;> try simp at hb1
 have hres : dataOk x = false := by unfold dataOk; rw [anyP_yes (p := fun c => ctBad c x.fVars) hb0 (by simpa using hb1)]; simp
 apply Zr; intros
 refine Zo ?_ (by simp [hl0, hb0, hx] <;> omega); simp [hl0, hb0, hx]
 exact Zx
 refine W.ret (Zq ?_)
 simp [Tryz.f88, hres] <;> grind
 refine W.skip ?_
 apply Zs; intros
 refine Zm [33] ?_ (by simp [hl0, hb0, hx] <;> omega); simp [hl0, hb0, hx]
 iterate 9 (refine Zo ?_ (by simp [hl0, hb0, hx] <;> omega); simp [hl0, hb0, hx])
 exact Zx
 apply Zs; intros
 iterate 3 (refine Zo ?_ (by simp [hl0, hb0, hx] <;> omega); simp [hl0, hb0, hx])
 exact Zx
 refine ⟨hb0, noP_step (p := fun c => ctBad c x.fVars) hi0 hb0 (by simpa using hb1), Wz.to rfl rfl rfl ?_⟩
 have hs := nmsK_snoc TConstructor.fName hb0
 simp [hs]
 have hkl : k0 = x.fConstructors.length := by omega
 subst hkl
 have hA := anyP_no (p := fun c => ctBad c x.fVars) hi0
 have hres : dataOk x = (isNm x.fName && words x.fVars 3 && decide (0 < x.fConstructors.length) && words (nmsK x.fConstructors TConstructor.fName x.fConstructors.length) 5) := by unfold dataOk; rw [hA, nmsK_full]; simp
 refine W.exit ?_
 refine W.seq ?_
 refine W.regJ0 (D := _) rfl fun _ K hD hK => ?_
 iterate 2 (refine Zo ?_ (by simp [hl0] <;> omega); simp [hl0])
 refine Zl [] rfl Tryz.func78 (sName_d x.fName (by omega) _) ?_ (by simp [hl0]); simp [hl0]
 refine Zo ?_ (by simp [hl0] <;> omega); simp [hl0]
 refine WL.split 45 _ rfl (fun g45 => ?_) fun g45 => ?_ <;> try simp at g45
 simp [hl0]
 iterate 2 (refine Zg hD rfl rfl ?_ (by simp [hl0] <;> omega); simp [hl0])
 refine Zk hD rfl rfl [] rfl Tryz.func79 (l13Words_d x.fVars 3 (fun s hs => by have := szL_le ByteArray.size hs; omega) (by omega) _) ?_ (by simp [hl0]); simp [hl0]
 iterate 2 (refine Zo ?_ (by simp [hl0] <;> omega); simp [hl0])
 refine WL.split 50 _ rfl (fun g50 => ?_) fun g50 => ?_ <;> try simp at g50
 simp [hl0]
 iterate 3 (refine Zg hD rfl rfl ?_ (by simp [hl0] <;> omega); simp [hl0])
 iterate 2 (refine Zo ?_ (by simp [hl0] <;> omega); simp [hl0])
 refine WL.split 55 _ rfl (fun g55 => ?_) fun g55 => ?_ <;> try simp at g55
 simp [hl0]
 refine Zg hD rfl rfl ?_ (by simp [hl0] <;> omega); simp [hl0]
 refine Zk hD rfl rfl [] rfl Tryz.func79 (l13Words_d (nmsK x.fConstructors TConstructor.fName x.fConstructors.length) 5 (hns _) (by omega) _) ?_ (by simp [hl0]); simp [hl0]
 iterate 2 (refine Zo ?_ (by simp [hl0] <;> omega); simp [hl0])
 refine WL.nil (hK _ ?_)
 refine W.ret (Zq ?_)
 simp [Tryz.f88, hres, g45, g50, g55] <;> grind
 simp [hl0]
 iterate 2 (refine Zn hD rfl rfl ?_; simp [hl0])
 iterate 2 (refine Zo ?_ (by simp [hl0] <;> omega); simp [hl0])
 refine WL.nil (hK _ ?_)
 refine W.ret (Zq ?_)
 simp [Tryz.f88, hres, g45, g50, g55] <;> grind
 simp [hl0]
 iterate 3 (refine Zn hD rfl rfl ?_; simp [hl0])
 iterate 2 (refine Zo ?_ (by simp [hl0] <;> omega); simp [hl0])
 iterate 2 (refine Zn hD rfl rfl ?_; simp [hl0])
 iterate 2 (refine Zo ?_ (by simp [hl0] <;> omega); simp [hl0])
 refine WL.nil (hK _ ?_)
 refine W.ret (Zq ?_)
 simp [Tryz.f88, hres, g45, g50] <;> grind
 simp [hl0]
 iterate 3 (refine Zn hD rfl rfl ?_; simp [hl0])
 iterate 2 (refine Zo ?_ (by simp [hl0] <;> omega); simp [hl0])
 iterate 3 (refine Zn hD rfl rfl ?_; simp [hl0])
 iterate 2 (refine Zo ?_ (by simp [hl0] <;> omega); simp [hl0])
 iterate 2 (refine Zn hD rfl rfl ?_; simp [hl0])
 iterate 2 (refine Zo ?_ (by simp [hl0] <;> omega); simp [hl0])
 refine WL.nil (hK _ ?_)
 refine W.ret (Zq ?_)
 simp [Tryz.f88, hres, g45] <;> grind
end Go.Proofs.YtkadbimpaplnmaaGreatDoor
