/- Walks by the Den rules. No condition but sizes. -/
import Derived.Test.YtkadbimpaplnmaaGreatDoorM16
import Derived.Test.YtkadbimpaplnmaaGreatDoorM26
namespace Go.Proofs.YtkadbimpaplnmaaGreatDoor
open Go.RowKit
set_option maxRecDepth 10000
set_option linter.unusedSimpArgs false
set_option maxHeartbeats 4000000
def ctK (x : TPackage) (k : Nat) : List ByteArray := (x.fDataTypes.take k).flatMap fun d => d.fConstructors.map TConstructor.fName
def ctD (x : TPackage) (k : Nat) (d : TDataType) (j : Nat) : List ByteArray := ctK x k ++ nmsK d.fConstructors TConstructor.fName j
theorem ctK_zero (x : TPackage) : ctK x 0 = [] := rfl
theorem ctD_zero (x : TPackage) (k : Nat) (d : TDataType) : ctD x k d 0 = ctK x k := by unfold ctD; rw [nmsK_zero, List.append_nil]
theorem ctD_snoc {x : TPackage} {k : Nat} {d : TDataType} {j : Nat} (h : j < d.fConstructors.length) : (ctD x k d j).map dS ++ [.lf (.string d.fConstructors[j].fName)] = (ctD x k d (j + 1)).map dS := by
 unfold ctD; rw [List.map_append, List.append_assoc, nmsK_snoc TConstructor.fName h, List.map_append]
theorem ctD_full {x : TPackage} {k : Nat} (h : k < x.fDataTypes.length) : ctD x k x.fDataTypes[k] x.fDataTypes[k].fConstructors.length = ctK x (k + 1) := by
 unfold ctD ctK; rw [List.take_succ_eq_append_getElem h, List.flatMap_append, nmsK_full]; simp
theorem ctL_len : ∀ l : List TDataType, (l.flatMap fun d => d.fConstructors.map TConstructor.fName).length ≤ szL TDataType.sz l
 | [] => by simp
 | d :: l => by
  have h1 := ctL_len l
  have h2 := d.sz_eq
  unfold szs at h2
  simp only [List.flatMap_cons, List.length_append, List.length_map, szL]; omega
theorem ctD_len {x : TPackage} {k : Nat} (h : k < x.fDataTypes.length) {j : Nat} (hj : j ≤ x.fDataTypes[k].fConstructors.length) : (ctD x k x.fDataTypes[k] j).length ≤ szL TDataType.sz x.fDataTypes := by
 have h1 := ctL_len (x.fDataTypes.take (k + 1))
 have h2 := szL_take TDataType.sz x.fDataTypes (k + 1)
 rw [List.take_succ_eq_append_getElem h, List.flatMap_append] at h1
 rw [List.take_succ_eq_append_getElem h] at h2
 simp only [List.length_append, List.flatMap_cons, List.flatMap_nil, List.append_nil, List.length_map] at h1
 unfold ctD ctK
 rw [List.length_append, nmsK_len _ hj]; omega
theorem ctK_len (x : TPackage) (k : Nat) : (ctK x k).length ≤ szL TDataType.sz x.fDataTypes := Nat.le_trans (ctL_len _) (szL_take TDataType.sz x.fDataTypes k)
def ctAll (x : TPackage) : List ByteArray := x.fDataTypes.flatMap fun d => d.fConstructors.map TConstructor.fName
theorem ctK_full (x : TPackage) : ctK x x.fDataTypes.length = ctAll x := by unfold ctK ctAll; rw [List.take_length]
def rightOk (x : TPackage) : Bool := !(x.fTraits.any fun t => !traitOk t) && !(x.fDataTypes.any fun d => !dataOk d) && !(x.fInstances.any fun i => !instOk i) && !(x.fFunctions.any fun g => !fnOk g)
def pk1 (x : TPackage) : Bool := isNm x.fName && words x.fDeps 5 && !hasS x.fDeps x.fName && decide (x.fTraits.length + x.fDataTypes.length + x.fInstances.length + x.fFunctions.length ≤ 24)
def pk2 (x : TPackage) : Bool := dst (x.fTraits.map TTrait.fName) && dst (x.fDataTypes.map TDataType.fName) && dst (ctAll x) && dst (x.fFunctions.map TFunction.fName)
def pkgOk (x : TPackage) : Bool := pk1 x && pk2 x && rightOk x
theorem l15Names_d (x : TPackage) (hz : x.sz ≤ 134217728) (h : HP) : CS cx.P 77 [.d (x.dd false)] h (.tp [.d (.sl true .one ((nmsK x.fTraits TTrait.fName x.fTraits.length).map dS)), .d (.sl true .one ((nmsK x.fDataTypes TDataType.fName x.fDataTypes.length).map dS)), .d (.sl true .one ((ctK x x.fDataTypes.length).map dS)), .d (.sl true .one ((nmsK x.fFunctions TFunction.fName x.fFunctions.length).map dS))]) h := by
 have hz2 := x.sz_eq; unfold szs at hz2
 refine Ze Tryz.func77 rfl 94 ?_
 apply Zr; intros
 iterate 5 (refine Zo ?_; simp)
 exact Zx
 apply Zr; intros
 iterate 2 (refine Zo ?_; simp)
 exact Zx
 apply Zr; intros
 iterate 2 (refine Zo ?_; simp)
 exact Zx
 apply Zr; intros
 iterate 2 (refine Zo ?_; simp)
 exact Zx
 apply Zr; intros
 iterate 2 (refine Zo ?_; simp)
 exact Zx
 refine W.seq ?_
 apply Zr; intros
 refine Zo ?_; simp
 exact Zx
 refine W.block ?_
 refine W.loopk [1, 7, 8, 9] [1] (fun k0 => [(10, .d (.lf (.int .i64 (k0 : Int)))), (6, .d (.sl true .one ((nmsK x.fTraits TTrait.fName k0).map dS)))]) (fun _ => []) x.fTraits.length rfl (by simp [nmsK_zero]) fun k0 hk0 T hT => ?_
 simp at hT; subst hT
 have hl0 := nmsK_len TTrait.fName hk0
 refine W.seq ?_
 apply Zr; intros
 iterate 5 (refine Zo ?_ (by simp [hl0] <;> omega); simp [hl0])
 exact Zx
 refine Zc rfl ?_ ?_ <;> intro hb0 <;> try simp at hb0
 have hx := ixNext hb0 (by omega)
 refine W.skip ?_
 refine Zb ?_
 apply Zs; intros
 refine Zm [25] ?_ (by simp [hl0, hb0, hx] <;> omega); simp [hl0, hb0, hx]
 iterate 9 (refine Zo ?_ (by simp [hl0, hb0, hx] <;> omega); simp [hl0, hb0, hx])
 exact Zx
 apply Zs; intros
 iterate 3 (refine Zo ?_ (by simp [hl0, hb0, hx] <;> omega); simp [hl0, hb0, hx])
 exact Zx
 refine ⟨hb0, Wz.to rfl rfl rfl ?_⟩
 have hs := nmsK_snoc TTrait.fName hb0
 simp [hs]
 have hkl : k0 = x.fTraits.length := by omega
 subst hkl
 refine W.exit ?_
 refine W.seq ?_
 apply Zr; intros
 refine Zo ?_ (by simp [hl0] <;> omega); simp [hl0]
 exact Zx
 refine W.block ?_
 refine W.loopk [1, 6, 9] [1] (fun k1 => [(11, .d (.lf (.int .i64 (k1 : Int)))), (7, .d (.sl true .one ((nmsK x.fDataTypes TDataType.fName k1).map dS))), (8, .d (.sl true .one ((ctK x k1).map dS)))]) (fun _ => []) x.fDataTypes.length rfl (by simp [nmsK_zero, ctK_zero]) fun k1 hk1 T hT => ?_
 simp at hT; subst hT
 have hl1 := nmsK_len TDataType.fName hk1
 refine W.seq ?_
 apply Zr; intros
 iterate 5 (refine Zo ?_ (by simp [hl0, hl1] <;> omega); simp [hl0, hl1])
 exact Zx
 refine Zc rfl ?_ ?_ <;> intro hb1 <;> try simp at hb1
 have hx := ixNext hb1 (by omega)
 have hy := szL_le TDataType.sz (gm hb1)
 have hy2 := x.fDataTypes[k1].sz_eq; unfold szs at hy2
 refine W.skip ?_
 refine Zb ?_
 apply Zr; intros
 refine Zm [41] ?_ (by simp [hl0, hl1, hb1, hx] <;> omega); simp [hl0, hl1, hb1, hx]
 iterate 9 (refine Zo ?_ (by simp [hl0, hl1, hb1, hx] <;> omega); simp [hl0, hl1, hb1, hx])
 exact Zx
 apply Zr; intros
 refine Zo ?_ (by simp [hl0, hl1, hb1, hx] <;> omega); simp [hl0, hl1, hb1, hx]
 exact Zx
 refine W.block ?_
 refine W.loopk [1, 6, 7, 9, 11] [1] (fun k2 => [(12, .d (.lf (.int .i64 (k2 : Int)))), (8, .d (.sl true .one ((ctD x k1 x.fDataTypes[k1] k2).map dS)))]) (fun _ => []) x.fDataTypes[k1].fConstructors.length rfl (by simp [ctD_zero]) fun k2 hk2 T hT => ?_
 simp at hT; subst hT
 have hl2 := ctD_len hb1 hk2
 refine W.seq ?_
 apply Zr; intros
 iterate 9 (refine Zo ?_ (by simp [hl0, hl1, hb1, hx] <;> omega); simp [hl0, hl1, hb1, hx])
 exact Zx
 refine Zc rfl ?_ ?_ <;> intro hb2 <;> try simp at hb2
 have hx2 := ixNext hb2 (by omega)
 refine W.skip ?_
 refine Zb ?_
 apply Zs; intros
 refine Zm [61] ?_ (by simp [hl0, hl1, hb1, hx, hb2, hx2] <;> omega); simp [hl0, hl1, hb1, hx, hb2, hx2]
 iterate 13 (refine Zo ?_ (by simp [hl0, hl1, hb1, hx, hb2, hx2] <;> omega); simp [hl0, hl1, hb1, hx, hb2, hx2])
 exact Zx
 apply Zs; intros
 iterate 3 (refine Zo ?_ (by simp [hl0, hl1, hb1, hx, hb2, hx2] <;> omega); simp [hl0, hl1, hb1, hx, hb2, hx2])
 exact Zx
 refine ⟨hb2, Wz.to rfl rfl rfl ?_⟩
 have hs := ctD_snoc (x := x) (k := k1) hb2
 simp [hs]
 have hkl : k2 = x.fDataTypes[k1].fConstructors.length := by omega
 subst hkl
 refine W.exit ?_
 apply Zs; intros
 iterate 3 (refine Zo ?_ (by simp [hl0, hl1, hb1, hx] <;> omega); simp [hl0, hl1, hb1, hx])
 exact Zx
 refine ⟨hb1, Wz.to rfl rfl rfl ?_⟩
 have hs := nmsK_snoc TDataType.fName hb1
 have hs2 := ctD_full hb1
 simp [hs, hs2]
 have hkl : k1 = x.fDataTypes.length := by omega
 subst hkl
 refine W.exit ?_
 refine W.seq ?_
 apply Zr; intros
 refine Zo ?_ (by simp [hl0, hl1] <;> omega); simp [hl0, hl1]
 exact Zx
 refine W.block ?_
 refine W.loopk [1, 6, 7, 8] [1] (fun k3 => [(13, .d (.lf (.int .i64 (k3 : Int)))), (9, .d (.sl true .one ((nmsK x.fFunctions TFunction.fName k3).map dS)))]) (fun _ => []) x.fFunctions.length rfl (by simp [nmsK_zero]) fun k3 hk3 T hT => ?_
 simp at hT; subst hT
 have hl3 := nmsK_len TFunction.fName hk3
 refine W.seq ?_
 apply Zr; intros
 iterate 5 (refine Zo ?_ (by simp [hl0, hl1, hl3] <;> omega); simp [hl0, hl1, hl3])
 exact Zx
 refine Zc rfl ?_ ?_ <;> intro hb3 <;> try simp at hb3
 have hx := ixNext hb3 (by omega)
 refine W.skip ?_
 refine Zb ?_
 apply Zs; intros
 refine Zm [81] ?_ (by simp [hl0, hl1, hl3, hb3, hx] <;> omega); simp [hl0, hl1, hl3, hb3, hx]
 iterate 9 (refine Zo ?_ (by simp [hl0, hl1, hl3, hb3, hx] <;> omega); simp [hl0, hl1, hl3, hb3, hx])
 exact Zx
 apply Zs; intros
 iterate 3 (refine Zo ?_ (by simp [hl0, hl1, hl3, hb3, hx] <;> omega); simp [hl0, hl1, hl3, hb3, hx])
 exact Zx
 refine ⟨hb3, Wz.to rfl rfl rfl ?_⟩
 have hs := nmsK_snoc TFunction.fName hb3
 simp [hs]
 have hkl : k3 = x.fFunctions.length := by omega
 subst hkl
 refine W.exit ?_
 apply Zr; intros
 refine Zm [90] ?_ (by simp [hl0, hl1, hl3] <;> omega); simp [hl0, hl1, hl3]
 refine Zm [91] ?_ (by simp [hl0, hl1, hl3] <;> omega); simp [hl0, hl1, hl3]
 refine Zm [92] ?_ (by simp [hl0, hl1, hl3] <;> omega); simp [hl0, hl1, hl3]
 refine Zm [93] ?_ (by simp [hl0, hl1, hl3] <;> omega); simp [hl0, hl1, hl3]
 iterate 4 (refine Zo ?_ (by simp [hl0, hl1, hl3] <;> omega); simp [hl0, hl1, hl3])
 exact Zx
 refine W.ret (Zq ?_)
 simp [Tryz.f77]
theorem l15Right_d (x : TPackage) (hz : x.sz ≤ 134217728) (h : HP) : CS cx.P 82 [.d (x.dd false)] h (.d (.lf (.bool (rightOk x)))) h := by
 have hz2 := x.sz_eq; unfold szs at hz2
 refine Ze Tryz.func82 rfl 63 ?_
 apply Zr; intros
 iterate 2 (refine Zo ?_; simp)
 exact Zx
 refine W.seq ?_
 apply Zr; intros
 refine Zo ?_; simp
 exact Zx
 refine W.block ?_
 refine W.loopI [1] [1] (fun k0 => [(3, .d (.lf (.int .i64 (k0 : Int))))]) (fun _ => []) x.fTraits.length (fun k0 => ∀ j, j < k0 → ∀ y, x.fTraits[j]? = some y → (fun t => !traitOk t) y = false) rfl (by simp) (by simp) fun k0 hk0 hi0 T hT => ?_
 simp at hT; subst hT
 refine W.seq ?_
 apply Zr; intros
 iterate 5 (refine Zo ?_; simp)
 exact Zx
 refine Zc rfl ?_ ?_ <;> intro hb0 <;> try simp at hb0
 have hx := ixNext hb0 (by omega)
 have hy := szL_le TTrait.sz (gm hb0)
 refine W.skip ?_
 refine Zb ?_
 apply Zr; intros
 iterate 5 (refine Zo ?_ (by simp [hb0, hx] <;> omega); simp [hb0, hx])
 refine Zl [] rfl Tryz.func84 (sTrait_d x.fTraits[k0] (by omega) _) ?_ (by simp [hb0, hx]); simp [hb0, hx]
 refine Zo ?_ (by simp [hb0, hx] <;> omega); simp [hb0, hx]
 exact Zx
 refine Zc rfl ?_ ?_ <;> intro hb1 <;> try simp at hb1
 have hres : rightOk x = false := by unfold rightOk; rw [anyP_yes (p := fun t => !traitOk t) hb0 (by simpa using hb1)]; simp
 apply Zr; intros
 refine Zo ?_ (by simp [hb0, hx] <;> omega); simp [hb0, hx]
 exact Zx
 refine W.ret (Zq ?_)
 simp [Tryz.f82, hres]
 refine W.skip ?_
 apply Zs; intros
 iterate 3 (refine Zo ?_ (by simp [hb0, hx] <;> omega); simp [hb0, hx])
 exact Zx
 refine ⟨hb0, noP_step (p := fun t => !traitOk t) hi0 hb0 (by simpa using hb1), Wz.to rfl rfl rfl ?_⟩
 simp
 have hkl : k0 = x.fTraits.length := by omega
 subst hkl
 have hA0 := anyP_no (p := fun t => !traitOk t) hi0
 refine W.exit ?_
 refine W.seq ?_
 apply Zr; intros
 refine Zo ?_; simp
 exact Zx
 refine W.block ?_
 refine W.loopI [1] [1] (fun k1 => [(4, .d (.lf (.int .i64 (k1 : Int))))]) (fun _ => []) x.fDataTypes.length (fun k1 => ∀ j, j < k1 → ∀ y, x.fDataTypes[j]? = some y → (fun d => !dataOk d) y = false) rfl (by simp) (by simp) fun k1 hk1 hi1 T hT => ?_
 simp at hT; subst hT
 refine W.seq ?_
 apply Zr; intros
 iterate 5 (refine Zo ?_; simp)
 exact Zx
 refine Zc rfl ?_ ?_ <;> intro hb2 <;> try simp at hb2
 have hx := ixNext hb2 (by omega)
 have hy := szL_le TDataType.sz (gm hb2)
 refine W.skip ?_
 refine Zb ?_
 apply Zr; intros
 iterate 5 (refine Zo ?_ (by simp [hb2, hx] <;> omega); simp [hb2, hx])
 refine Zl [] rfl Tryz.func88 (sData_d x.fDataTypes[k1] (by omega) _) ?_ (by simp [hb2, hx]); simp [hb2, hx]
 refine Zo ?_ (by simp [hb2, hx] <;> omega); simp [hb2, hx]
 exact Zx
 refine Zc rfl ?_ ?_ <;> intro hb3 <;> try simp at hb3
 have hres : rightOk x = false := by unfold rightOk; rw [anyP_yes (p := fun d => !dataOk d) hb2 (by simpa using hb3)]; simp
 apply Zr; intros
 refine Zo ?_ (by simp [hb2, hx] <;> omega); simp [hb2, hx]
 exact Zx
 refine W.ret (Zq ?_)
 simp [Tryz.f82, hres]
 refine W.skip ?_
 apply Zs; intros
 iterate 3 (refine Zo ?_ (by simp [hb2, hx] <;> omega); simp [hb2, hx])
 exact Zx
 refine ⟨hb2, noP_step (p := fun d => !dataOk d) hi1 hb2 (by simpa using hb3), Wz.to rfl rfl rfl ?_⟩
 simp
 have hkl : k1 = x.fDataTypes.length := by omega
 subst hkl
 have hA1 := anyP_no (p := fun d => !dataOk d) hi1
 refine W.exit ?_
 refine W.seq ?_
 apply Zr; intros
 refine Zo ?_; simp
 exact Zx
 refine W.block ?_
 refine W.loopI [1] [1] (fun k2 => [(5, .d (.lf (.int .i64 (k2 : Int))))]) (fun _ => []) x.fInstances.length (fun k2 => ∀ j, j < k2 → ∀ y, x.fInstances[j]? = some y → (fun i => !instOk i) y = false) rfl (by simp) (by simp) fun k2 hk2 hi2 T hT => ?_
 simp at hT; subst hT
 refine W.seq ?_
 apply Zr; intros
 iterate 5 (refine Zo ?_; simp)
 exact Zx
 refine Zc rfl ?_ ?_ <;> intro hb4 <;> try simp at hb4
 have hx := ixNext hb4 (by omega)
 have hy := szL_le TInstance.sz (gm hb4)
 refine W.skip ?_
 refine Zb ?_
 apply Zr; intros
 iterate 5 (refine Zo ?_ (by simp [hb4, hx] <;> omega); simp [hb4, hx])
 refine Zl [] rfl Tryz.func89 (sInst_d x.fInstances[k2] (by omega) _) ?_ (by simp [hb4, hx]); simp [hb4, hx]
 refine Zo ?_ (by simp [hb4, hx] <;> omega); simp [hb4, hx]
 exact Zx
 refine Zc rfl ?_ ?_ <;> intro hb5 <;> try simp at hb5
 have hres : rightOk x = false := by unfold rightOk; rw [anyP_yes (p := fun i => !instOk i) hb4 (by simpa using hb5)]; simp
 apply Zr; intros
 refine Zo ?_ (by simp [hb4, hx] <;> omega); simp [hb4, hx]
 exact Zx
 refine W.ret (Zq ?_)
 simp [Tryz.f82, hres]
 refine W.skip ?_
 apply Zs; intros
 iterate 3 (refine Zo ?_ (by simp [hb4, hx] <;> omega); simp [hb4, hx])
 exact Zx
 refine ⟨hb4, noP_step (p := fun i => !instOk i) hi2 hb4 (by simpa using hb5), Wz.to rfl rfl rfl ?_⟩
 simp
 have hkl : k2 = x.fInstances.length := by omega
 subst hkl
 have hA2 := anyP_no (p := fun i => !instOk i) hi2
 refine W.exit ?_
 refine W.seq ?_
 apply Zr; intros
 refine Zo ?_; simp
 exact Zx
 refine W.block ?_
 refine W.loopI [1] [1] (fun k3 => [(6, .d (.lf (.int .i64 (k3 : Int))))]) (fun _ => []) x.fFunctions.length (fun k3 => ∀ j, j < k3 → ∀ y, x.fFunctions[j]? = some y → (fun g => !fnOk g) y = false) rfl (by simp) (by simp) fun k3 hk3 hi3 T hT => ?_
 simp at hT; subst hT
 refine W.seq ?_
 apply Zr; intros
 iterate 5 (refine Zo ?_; simp)
 exact Zx
 refine Zc rfl ?_ ?_ <;> intro hb6 <;> try simp at hb6
 have hx := ixNext hb6 (by omega)
 have hy := szL_le TFunction.sz (gm hb6)
 refine W.skip ?_
 refine Zb ?_
 apply Zr; intros
 iterate 5 (refine Zo ?_ (by simp [hb6, hx] <;> omega); simp [hb6, hx])
 refine Zl [] rfl Tryz.func91 (sFn_d x.fFunctions[k3] (by omega) _) ?_ (by simp [hb6, hx]); simp [hb6, hx]
 refine Zo ?_ (by simp [hb6, hx] <;> omega); simp [hb6, hx]
 exact Zx
 refine Zc rfl ?_ ?_ <;> intro hb7 <;> try simp at hb7
 have hres : rightOk x = false := by unfold rightOk; rw [anyP_yes (p := fun g => !fnOk g) hb6 (by simpa using hb7)]; simp
 apply Zr; intros
 refine Zo ?_ (by simp [hb6, hx] <;> omega); simp [hb6, hx]
 exact Zx
 refine W.ret (Zq ?_)
 simp [Tryz.f82, hres]
 refine W.skip ?_
 apply Zs; intros
 iterate 3 (refine Zo ?_ (by simp [hb6, hx] <;> omega); simp [hb6, hx])
 exact Zx
 refine ⟨hb6, noP_step (p := fun g => !fnOk g) hi3 hb6 (by simpa using hb7), Wz.to rfl rfl rfl ?_⟩
 simp
 have hkl : k3 = x.fFunctions.length := by omega
 subst hkl
 have hA3 := anyP_no (p := fun g => !fnOk g) hi3
 have hres : rightOk x = true := by unfold rightOk; rw [hA0, hA1, hA2, hA3]; rfl
 refine W.exit ?_
 apply Zr; intros
 refine Zo ?_; simp
 exact Zx
 refine W.ret (Zq ?_)
 simp [Tryz.f82, hres]
theorem sPkg_d (x : TPackage) (hz : x.sz ≤ 134217728) (h : HP) : CS cx.P 36 [.d (x.dd false)] h (.d (.lf (.bool (pkgOk x)))) h := by
 have hz2 := x.sz_eq; unfold szs at hz2
 have hw1 := i64w (n := (x.fTraits.length : Int) + x.fDataTypes.length) (by omega) (by omega)
 have hw2 := i64w (n := (x.fTraits.length : Int) + x.fDataTypes.length + x.fInstances.length) (by omega) (by omega)
 have hw3 := i64w (n := (x.fTraits.length : Int) + x.fDataTypes.length + x.fInstances.length + x.fFunctions.length) (by omega) (by omega)
 have hl1 := nmsK_len (l := x.fTraits) TTrait.fName (Nat.le_refl _)
 have hl2 := nmsK_len (l := x.fDataTypes) TDataType.fName (Nat.le_refl _)
 have hl3 := ctK_len x x.fDataTypes.length
 have hl4 := nmsK_len (l := x.fFunctions) TFunction.fName (Nat.le_refl _)
 refine Ze Tryz.func36 rfl 67 ?_
 apply Zr; intros
 iterate 2 (refine Zo ?_ (by simp [hw1, hw2, hw3] <;> omega); simp [hw1, hw2, hw3])
 exact Zx
 apply Zr; intros
 refine Zo ?_ (by simp [hw1, hw2, hw3] <;> omega); simp [hw1, hw2, hw3]
 refine Zl [] rfl Tryz.func77 (l15Names_d x hz _) ?_ (by simp [hw1, hw2, hw3]); simp [hw1, hw2, hw3]
 iterate 9 (refine Zo ?_ (by simp [hw1, hw2, hw3] <;> omega); simp [hw1, hw2, hw3])
 exact Zx
 refine W.seq ?_
 refine W.seq ?_
 refine W.regJ (D := _) [1, 3, 4, 5, 6] [1] [(48, .d (.lf (.bool (!pk1 x))))] [] rfl (fun _ K hD hK => ?_) fun T hT => ?_
 iterate 2 (refine Zo ?_ (by simp [hw1, hw2, hw3] <;> omega); simp [hw1, hw2, hw3])
 refine Zl [] rfl Tryz.func78 (sName_d x.fName (by omega) _) ?_ (by simp [hw1, hw2, hw3]); simp [hw1, hw2, hw3]
 iterate 2 (refine Zo ?_ (by simp [hw1, hw2, hw3] <;> omega); simp [hw1, hw2, hw3])
 refine WL.split 18 _ rfl (fun g18 => ?_) fun g18 => ?_ <;> try simp at g18
 simp [hw1, hw2, hw3]
 iterate 4 (refine Zn hD rfl rfl ?_; simp [hw1, hw2, hw3])
 iterate 2 (refine Zo ?_ (by simp [hw1, hw2, hw3] <;> omega); simp [hw1, hw2, hw3])
 iterate 5 (refine Zn hD rfl rfl ?_; simp [hw1, hw2, hw3])
 iterate 2 (refine Zo ?_ (by simp [hw1, hw2, hw3] <;> omega); simp [hw1, hw2, hw3])
 iterate 16 (refine Zn hD rfl rfl ?_; simp [hw1, hw2, hw3])
 refine Zo ?_ (by simp [hw1, hw2, hw3] <;> omega); simp [hw1, hw2, hw3]
 refine WL.nil (hK _ (Wz.to rfl rfl rfl ?_))
 simp [pk1, g18] <;> first | grind | omega
 simp [hw1, hw2, hw3]
 iterate 2 (refine Zg hD rfl rfl ?_ (by simp [hw1, hw2, hw3] <;> omega); simp [hw1, hw2, hw3])
 refine Zk hD rfl rfl [] rfl Tryz.func79 (l13Words_d x.fDeps 5 (fun s hs => by have := szL_le ByteArray.size hs; omega) (by omega) _) ?_ (by simp [hw1, hw2, hw3]); simp [hw1, hw2, hw3]
 refine Zg hD rfl rfl ?_ (by simp [hw1, hw2, hw3] <;> omega); simp [hw1, hw2, hw3]
 iterate 2 (refine Zo ?_ (by simp [hw1, hw2, hw3] <;> omega); simp [hw1, hw2, hw3])
 refine WL.split 24 _ rfl (fun g24 => ?_) fun g24 => ?_ <;> try simp at g24
 simp [hw1, hw2, hw3]
 iterate 5 (refine Zn hD rfl rfl ?_; simp [hw1, hw2, hw3])
 iterate 2 (refine Zo ?_ (by simp [hw1, hw2, hw3] <;> omega); simp [hw1, hw2, hw3])
 iterate 16 (refine Zn hD rfl rfl ?_; simp [hw1, hw2, hw3])
 refine Zo ?_ (by simp [hw1, hw2, hw3] <;> omega); simp [hw1, hw2, hw3]
 refine WL.nil (hK _ (Wz.to rfl rfl rfl ?_))
 simp [pk1, g18, g24] <;> first | grind | omega
 simp [hw1, hw2, hw3]
 iterate 4 (refine Zg hD rfl rfl ?_ (by simp [hw1, hw2, hw3] <;> omega); simp [hw1, hw2, hw3])
 refine Zk hD rfl rfl [] rfl Tryz.func80 (l1Has_d x.fDeps x.fName (by omega) _) ?_ (by simp [hw1, hw2, hw3]); simp [hw1, hw2, hw3]
 iterate 2 (refine Zo ?_ (by simp [hw1, hw2, hw3] <;> omega); simp [hw1, hw2, hw3])
 refine WL.split 31 _ rfl (fun g31 => ?_) fun g31 => ?_ <;> try simp at g31
 simp [hw1, hw2, hw3]
 iterate 16 (refine Zn hD rfl rfl ?_; simp [hw1, hw2, hw3])
 refine Zo ?_ (by simp [hw1, hw2, hw3] <;> omega); simp [hw1, hw2, hw3]
 refine WL.nil (hK _ (Wz.to rfl rfl rfl ?_))
 simp [pk1, g18, g24, g31] <;> first | grind | omega
 simp [hw1, hw2, hw3]
 iterate 16 (refine Zg hD rfl rfl ?_ (by simp [hw1, hw2, hw3] <;> omega); simp [hw1, hw2, hw3])
 refine Zo ?_ (by simp [hw1, hw2, hw3] <;> omega); simp [hw1, hw2, hw3]
 refine WL.nil (hK _ (Wz.to rfl rfl rfl ?_))
 simp [pk1, g18, g24, g31] <;> first | grind | omega
 simp at hT; subst hT
 refine Zc rfl ?_ ?_ <;> intro hb0 <;> try simp at hb0
 have hres : pkgOk x = false := by unfold pkgOk; rw [show pk1 x = false by simpa using hb0]; rfl
 apply Zr; intros
 refine Zo ?_ (by simp [hw1, hw2, hw3] <;> omega); simp [hw1, hw2, hw3]
 exact Zx
 refine W.ret (Zq ?_)
 simp [Tryz.f36, hres] <;> grind
 have h1 : pk1 x = true := by simpa using hb0
 have hres : pkgOk x = (dst (nmsK x.fTraits TTrait.fName x.fTraits.length) && dst (nmsK x.fDataTypes TDataType.fName x.fDataTypes.length) && dst (ctK x x.fDataTypes.length) && dst (nmsK x.fFunctions TFunction.fName x.fFunctions.length) && rightOk x) := by unfold pkgOk pk2; rw [h1, nmsK_full, nmsK_full, ctK_full, nmsK_full]; simp
 refine W.skip ?_
 refine W.seq ?_
 refine W.regJ0 (D := _) rfl fun _ K hD hK => ?_
 refine Zo ?_ (by simp [hw1, hw2, hw3] <;> omega); simp [hw1, hw2, hw3]
 refine Zl [] rfl Tryz.func81 (sDst_d (nmsK x.fTraits TTrait.fName x.fTraits.length) (by omega) _) ?_ (by simp [hw1, hw2, hw3]); simp [hw1, hw2, hw3]
 refine Zo ?_ (by simp [hw1, hw2, hw3] <;> omega); simp [hw1, hw2, hw3]
 refine WL.split 51 _ rfl (fun g51 => ?_) fun g51 => ?_ <;> try simp at g51
 simp [hw1, hw2, hw3]
 refine Zg hD rfl rfl ?_ (by simp [hw1, hw2, hw3] <;> omega); simp [hw1, hw2, hw3]
 refine Zk hD rfl rfl [] rfl Tryz.func81 (sDst_d (nmsK x.fDataTypes TDataType.fName x.fDataTypes.length) (by omega) _) ?_ (by simp [hw1, hw2, hw3]); simp [hw1, hw2, hw3]
 iterate 2 (refine Zo ?_ (by simp [hw1, hw2, hw3] <;> omega); simp [hw1, hw2, hw3])
 refine WL.split 55 _ rfl (fun g55 => ?_) fun g55 => ?_ <;> try simp at g55
 simp [hw1, hw2, hw3]
 refine Zg hD rfl rfl ?_ (by simp [hw1, hw2, hw3] <;> omega); simp [hw1, hw2, hw3]
 refine Zk hD rfl rfl [] rfl Tryz.func81 (sDst_d (ctK x x.fDataTypes.length) (by omega) _) ?_ (by simp [hw1, hw2, hw3]); simp [hw1, hw2, hw3]
 iterate 2 (refine Zo ?_ (by simp [hw1, hw2, hw3] <;> omega); simp [hw1, hw2, hw3])
 refine WL.split 59 _ rfl (fun g59 => ?_) fun g59 => ?_ <;> try simp at g59
 simp [hw1, hw2, hw3]
 refine Zg hD rfl rfl ?_ (by simp [hw1, hw2, hw3] <;> omega); simp [hw1, hw2, hw3]
 refine Zk hD rfl rfl [] rfl Tryz.func81 (sDst_d (nmsK x.fFunctions TFunction.fName x.fFunctions.length) (by omega) _) ?_ (by simp [hw1, hw2, hw3]); simp [hw1, hw2, hw3]
 iterate 2 (refine Zo ?_ (by simp [hw1, hw2, hw3] <;> omega); simp [hw1, hw2, hw3])
 refine WL.split 63 _ rfl (fun g63 => ?_) fun g63 => ?_ <;> try simp at g63
 simp [hw1, hw2, hw3]
 refine Zg hD rfl rfl ?_ (by simp [hw1, hw2, hw3] <;> omega); simp [hw1, hw2, hw3]
 refine Zk hD rfl rfl [] rfl Tryz.func82 (l15Right_d x hz _) ?_ (by simp [hw1, hw2, hw3]); simp [hw1, hw2, hw3]
 iterate 2 (refine Zo ?_ (by simp [hw1, hw2, hw3] <;> omega); simp [hw1, hw2, hw3])
 refine WL.nil (hK _ ?_)
 refine W.ret (Zq ?_)
 simp [Tryz.f36, hres, g51, g55, g59, g63] <;> grind
 simp [hw1, hw2, hw3]
 iterate 2 (refine Zn hD rfl rfl ?_; simp [hw1, hw2, hw3])
 iterate 2 (refine Zo ?_ (by simp [hw1, hw2, hw3] <;> omega); simp [hw1, hw2, hw3])
 refine WL.nil (hK _ ?_)
 refine W.ret (Zq ?_)
 simp [Tryz.f36, hres, g51, g55, g59, g63] <;> grind
 simp [hw1, hw2, hw3]
 iterate 2 (refine Zn hD rfl rfl ?_; simp [hw1, hw2, hw3])
 iterate 2 (refine Zo ?_ (by simp [hw1, hw2, hw3] <;> omega); simp [hw1, hw2, hw3])
 iterate 2 (refine Zn hD rfl rfl ?_; simp [hw1, hw2, hw3])
 iterate 2 (refine Zo ?_ (by simp [hw1, hw2, hw3] <;> omega); simp [hw1, hw2, hw3])
 refine WL.nil (hK _ ?_)
 refine W.ret (Zq ?_)
 simp [Tryz.f36, hres, g51, g55, g59] <;> grind
 simp [hw1, hw2, hw3]
 iterate 2 (refine Zn hD rfl rfl ?_; simp [hw1, hw2, hw3])
 iterate 2 (refine Zo ?_ (by simp [hw1, hw2, hw3] <;> omega); simp [hw1, hw2, hw3])
 iterate 2 (refine Zn hD rfl rfl ?_; simp [hw1, hw2, hw3])
 iterate 2 (refine Zo ?_ (by simp [hw1, hw2, hw3] <;> omega); simp [hw1, hw2, hw3])
 iterate 2 (refine Zn hD rfl rfl ?_; simp [hw1, hw2, hw3])
 iterate 2 (refine Zo ?_ (by simp [hw1, hw2, hw3] <;> omega); simp [hw1, hw2, hw3])
 refine WL.nil (hK _ ?_)
 refine W.ret (Zq ?_)
 simp [Tryz.f36, hres, g51, g55] <;> grind
 simp [hw1, hw2, hw3]
 iterate 2 (refine Zn hD rfl rfl ?_; simp [hw1, hw2, hw3])
 iterate 2 (refine Zo ?_ (by simp [hw1, hw2, hw3] <;> omega); simp [hw1, hw2, hw3])
 iterate 2 (refine Zn hD rfl rfl ?_; simp [hw1, hw2, hw3])
 iterate 2 (refine Zo ?_ (by simp [hw1, hw2, hw3] <;> omega); simp [hw1, hw2, hw3])
 iterate 2 (refine Zn hD rfl rfl ?_; simp [hw1, hw2, hw3])
 iterate 2 (refine Zo ?_ (by simp [hw1, hw2, hw3] <;> omega); simp [hw1, hw2, hw3])
 iterate 2 (refine Zn hD rfl rfl ?_; simp [hw1, hw2, hw3])
 iterate 2 (refine Zo ?_ (by simp [hw1, hw2, hw3] <;> omega); simp [hw1, hw2, hw3])
 refine WL.nil (hK _ ?_)
 refine W.ret (Zq ?_)
 simp [Tryz.f36, hres, g51] <;> grind
end Go.Proofs.YtkadbimpaplnmaaGreatDoor
