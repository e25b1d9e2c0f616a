/- Walks by the Den rules. No condition but sizes. -/
import Derived.Test.YtkadbimpaplnmaaGreatDoorM16
import Derived.Test.YtkadbimpaplnmaaGreatDoorM39
import Derived.Test.YtkadbimpaplnmaaGreatDoorM40
import Derived.Test.YtkadbimpaplnmaaGreatDoorM42
import Derived.Test.YtkadbimpaplnmaaGreatDoorM43
namespace Go.Proofs.YtkadbimpaplnmaaGreatDoor
open Go.RowKit
set_option maxRecDepth 10000
set_option linter.unusedSimpArgs false
set_option maxHeartbeats 4000000
def fnK {α : Type} (b : Bool) (p : α → Bool) (l : List α) (k : Nat) : Bool := b && (l.take k).all p
theorem fnK_zero {α : Type} (b : Bool) (p : α → Bool) (l : List α) : fnK b p l 0 = b := by simp [fnK]
theorem fnK_nx {α : Type} {b : Bool} {p : α → Bool} {l : List α} {k : Nat} (h : k < l.length) : fnK b p l (k + 1) = (fnK b p l k && p l[k]) := by
 unfold fnK; rw [List.take_succ_eq_append_getElem h, List.all_append]; simp [Bool.and_assoc]
theorem fnK_full {α : Type} (b : Bool) (p : α → Bool) (l : List α) : fnK b p l l.length = (b && !(l.any fun y => !p y)) := by
 unfold fnK; rw [List.take_length]; congr 1; induction l with
 | nil => rfl
 | cons x l ih => simp only [List.all_cons, List.any_cons, ih]; cases p x <;> simp
theorem idxOf_d (l : List ByteArray) (s : ByteArray) (hm : l.length ≤ 4294967296) (h : HP) : CS cx.P 103 [.d (.sl false .one (l.map dS)), .d (.lf (.string s))] h (.d (.lf (.int .i64 (idxS l s)))) h := by
 refine Ze Tryz.func103 rfl 8 ?_
 apply Zr; intros
 refine Zo ?_; simp
 exact Zx
 apply Zr; intros
 iterate 2 (refine Zo ?_; simp)
 refine Zl [] rfl Tryz.func160 (Index_d l s hm _) ?_; simp
 refine Zo ?_; simp
 exact Zx
 refine W.ret (Zq ?_)
 simp [Tryz.f103]
theorem iPkg_d (x : TPackage) (hz : x.sz ≤ 134217728) (h : HP) : CS cx.P 55 [.d ((x).dd false)] h (.d (.lf (.bool (pkgOk x)))) h := by
 have hz2 := x.sz_eq; unfold szs at hz2
 have hvs : ∀ s ∈ x.fDeps, s.size ≤ 134217728 := fun s hs => by have := szL_le ByteArray.size hs; omega
 have hw1 := i64w (n := (x.fTraits.length : Int) + x.fDataTypes.length) (by omega) (by omega)
 have hw2 := i64w (n := (x.fTraits.length : Int) + x.fDataTypes.length + x.fInstances.length) (by omega) (by omega)
 have hw3 := i64w (n := (x.fTraits.length : Int) + x.fDataTypes.length + x.fInstances.length + x.fFunctions.length) (by omega) (by omega)
 refine Ze Tryz.func55 rfl 108 ?_
 apply Zr; intros
 iterate 2 (refine Zo ?_ (by simp [hw1, hw2, hw3] <;> omega); simp [hw1, hw2, hw3])
 exact Zx
 refine W.seq ?_
 refine W.seq ?_
 refine W.regJ (D := _) [1] [1] [(35, .d (.lf (.bool (!(isNm x.fName && words x.fDeps 5 && !hasS x.fDeps x.fName)))))] [] rfl (fun _ K hD hK => ?_) fun T hT => ?_
 iterate 2 (refine Zo ?_ (by simp [hw1, hw2, hw3] <;> omega); simp [hw1, hw2, hw3])
 refine Zl [] rfl Tryz.func101 (iName_d x.fName (by omega) _) ?_ (by simp [hw1, hw2, hw3]); simp [hw1, hw2, hw3]
 iterate 2 (refine Zo ?_ (by simp [hw1, hw2, hw3] <;> omega); simp [hw1, hw2, hw3])
 refine WL.split 16 _ rfl (fun g16 => ?_) fun g16 => ?_ <;> try simp at g16
 simp [hw1, hw2, hw3]
 iterate 4 (refine Zn hD rfl rfl ?_; simp [hw1, hw2, hw3])
 iterate 2 (refine Zo ?_ (by simp [hw1, hw2, hw3] <;> omega); simp [hw1, hw2, hw3])
 iterate 4 (refine Zn hD rfl rfl ?_; simp [hw1, hw2, hw3])
 iterate 2 (refine Zo ?_ (by simp [hw1, hw2, hw3] <;> omega); simp [hw1, hw2, hw3])
 iterate 6 (refine Zn hD rfl rfl ?_; simp [hw1, hw2, hw3])
 refine Zo ?_ (by simp [hw1, hw2, hw3] <;> omega); simp [hw1, hw2, hw3]
 refine WL.nil (hK _ (Wz.to rfl rfl rfl ?_))
 simp [words, ← idxS_has, g16] <;> first | omega | grind
 simp [hw1, hw2, hw3]
 iterate 4 (refine Zg hD rfl rfl ?_ (by simp [hw1, hw2, hw3] <;> omega); simp [hw1, hw2, hw3])
 iterate 2 (refine Zo ?_ (by simp [hw1, hw2, hw3] <;> omega); simp [hw1, hw2, hw3])
 refine WL.split 22 _ rfl (fun g22 => ?_) fun g22 => ?_ <;> try simp at g22
 simp [hw1, hw2, hw3]
 iterate 4 (refine Zn hD rfl rfl ?_; simp [hw1, hw2, hw3])
 iterate 2 (refine Zo ?_ (by simp [hw1, hw2, hw3] <;> omega); simp [hw1, hw2, hw3])
 iterate 6 (refine Zn hD rfl rfl ?_; simp [hw1, hw2, hw3])
 refine Zo ?_ (by simp [hw1, hw2, hw3] <;> omega); simp [hw1, hw2, hw3]
 refine WL.nil (hK _ (Wz.to rfl rfl rfl ?_))
 simp [words, ← idxS_has, g16, g22] <;> first | omega | grind
 simp [hw1, hw2, hw3]
 iterate 2 (refine Zg hD rfl rfl ?_ (by simp [hw1, hw2, hw3] <;> omega); simp [hw1, hw2, hw3])
 refine Zk hD rfl rfl [] rfl Tryz.func102 (areNames_d x.fDeps hvs (by omega) _) ?_ (by simp [hw1, hw2, hw3]); simp [hw1, hw2, hw3]
 refine Zg hD rfl rfl ?_ (by simp [hw1, hw2, hw3] <;> omega); simp [hw1, hw2, hw3]
 iterate 2 (refine Zo ?_ (by simp [hw1, hw2, hw3] <;> omega); simp [hw1, hw2, hw3])
 refine WL.split 28 _ rfl (fun g28 => ?_) fun g28 => ?_ <;> try simp at g28
 simp [hw1, hw2, hw3]
 iterate 6 (refine Zn hD rfl rfl ?_; simp [hw1, hw2, hw3])
 refine Zo ?_ (by simp [hw1, hw2, hw3] <;> omega); simp [hw1, hw2, hw3]
 refine WL.nil (hK _ (Wz.to rfl rfl rfl ?_))
 simp [words, ← idxS_has, g16, g22, g28] <;> first | omega | grind
 simp [hw1, hw2, hw3]
 iterate 4 (refine Zg hD rfl rfl ?_ (by simp [hw1, hw2, hw3] <;> omega); simp [hw1, hw2, hw3])
 refine Zk hD rfl rfl [] rfl Tryz.func103 (idxOf_d x.fDeps x.fName (by omega) _) ?_ (by simp [hw1, hw2, hw3]); simp [hw1, hw2, hw3]
 refine Zg hD rfl rfl ?_ (by simp [hw1, hw2, hw3] <;> omega); simp [hw1, hw2, hw3]
 refine Zo ?_ (by simp [hw1, hw2, hw3] <;> omega); simp [hw1, hw2, hw3]
 refine WL.nil (hK _ (Wz.to rfl rfl rfl ?_))
 simp [words, ← idxS_has, g16, g22, g28] <;> first | omega | grind
 simp at hT; subst hT
 refine Zc rfl ?_ ?_ <;> intro hb0 <;> try simp at hb0
 have hres : pkgOk x = false := by have q := hb0; simp [pkgOk, pk1] at q ⊢; grind
 apply Zr; intros
 refine Zo ?_ (by simp [hw1, hw2, hw3] <;> omega); simp [hw1, hw2, hw3]
 exact Zx
 refine W.ret (Zq ?_)
 simp [Tryz.f55, hres]
 have h1 : (isNm x.fName && words x.fDeps 5 && !hasS x.fDeps x.fName) = true := by simpa using hb0
 refine W.skip ?_
 refine W.seq ?_
 apply Zr; intros
 iterate 16 (refine Zo ?_ (by simp [hw1, hw2, hw3] <;> omega); simp [hw1, hw2, hw3])
 exact Zx
 refine Zc rfl ?_ ?_ <;> intro hb1 <;> try simp at hb1
 have hres : pkgOk x = false := by have q := hb1; simp only [pkgOk, pk1]; have q2 : decide (x.fTraits.length + x.fDataTypes.length + x.fInstances.length + x.fFunctions.length ≤ 24) = false := decide_eq_false (by omega); rw [q2]; simp
 apply Zr; intros
 refine Zo ?_ (by simp [hw1, hw2, hw3] <;> omega); simp [hw1, hw2, hw3]
 exact Zx
 refine W.ret (Zq ?_)
 simp [Tryz.f55, hres]
 have h24 : x.fTraits.length + x.fDataTypes.length + x.fInstances.length + x.fFunctions.length ≤ 24 := by omega
 refine W.skip ?_
 apply Zr; intros
 refine Zm [52] ?_ (by simp [hw1, hw2, hw3] <;> omega); simp [hw1, hw2, hw3]
 refine Zo ?_ (by simp [hw1, hw2, hw3] <;> omega); simp [hw1, hw2, hw3]
 refine Zl [] rfl Tryz.func104 (uq_d [x] (by simp) (by simp [szL]; omega) _) ?_ (by simp [hw1, hw2, hw3]); simp [hw1, hw2, hw3]
 refine Zo ?_ (by simp [hw1, hw2, hw3] <;> omega); simp [hw1, hw2, hw3]
 exact Zx
 refine W.seq ?_
 apply Zr; intros
 iterate 4 (refine Zo ?_ (by simp [hw1, hw2, hw3] <;> omega); simp [hw1, hw2, hw3])
 exact Zx
 refine W.block ?_
 refine W.loopk [1, 56, 57] [1] (fun k0 => [(58, .d (.lf (.int .i64 (k0 : Int)))), (3, .d (.lf (.bool (fnK (uq [x]) traitOk x.fTraits k0))))]) (fun _ => []) x.fTraits.length rfl (by simp [fnK_zero]) fun k0 hk0 T hT => ?_
 simp at hT; subst hT
 apply Zr; intros
 refine Zo ?_ (by simp [hw1, hw2, hw3] <;> omega); simp [hw1, hw2, hw3]
 exact Zx
 refine Zv rfl ?_ ?_ <;> intro hb2 <;> try simp at hb2
 have hx := ixNext hb2 (by omega)
 have hy := szL_le TTrait.sz (gm hb2)
 have hnx := fnK_nx (b := (uq [x])) (p := traitOk) hb2
 refine W.skip ?_
 refine Zb ?_
 apply Zr; intros
 refine Zo ?_ (by simp [hw1, hw2, hw3, hb2, hx] <;> omega); simp [hw1, hw2, hw3, hb2, hx]
 refine Zm [61] ?_ (by simp [hw1, hw2, hw3, hb2, hx] <;> omega); simp [hw1, hw2, hw3, hb2, hx]
 iterate 2 (refine Zo ?_ (by simp [hw1, hw2, hw3, hb2, hx] <;> omega); simp [hw1, hw2, hw3, hb2, hx])
 exact Zx
 refine W.regJ (D := _) [1, 56, 57, 58] [1] [(3, .d (.lf (.bool (fnK (uq [x]) traitOk x.fTraits (k0 + 1)))))] [] rfl (fun _ K hD hK => ?_) fun T hT => ?_
 iterate 2 (refine Zo ?_ (by simp [hw1, hw2, hw3, hb2, hx] <;> omega); simp [hw1, hw2, hw3, hb2, hx])
 refine WL.split 63 _ rfl (fun g63 => ?_) fun g63 => ?_ <;> try simp at g63
 simp [hw1, hw2, hw3, hb2, hx]
 refine Zg hD rfl rfl ?_ (by simp [hw1, hw2, hw3, hb2, hx] <;> omega); simp [hw1, hw2, hw3, hb2, hx]
 refine Zk hD rfl rfl [] rfl Tryz.func105 (iTrait_d x.fTraits[k0] (by omega) _) ?_ (by simp [hw1, hw2, hw3, hb2, hx]); simp [hw1, hw2, hw3, hb2, hx]
 iterate 2 (refine Zo ?_ (by simp [hw1, hw2, hw3, hb2, hx] <;> omega); simp [hw1, hw2, hw3, hb2, hx])
 refine WL.nil (hK _ (Wz.to rfl rfl rfl ?_))
 simp [hnx, g63]
 simp [hw1, hw2, hw3, hb2, hx]
 iterate 2 (refine Zn hD rfl rfl ?_; simp [hw1, hw2, hw3, hb2, hx])
 iterate 2 (refine Zo ?_ (by simp [hw1, hw2, hw3, hb2, hx] <;> omega); simp [hw1, hw2, hw3, hb2, hx])
 refine WL.nil (hK _ (Wz.to rfl rfl rfl ?_))
 simp [hnx, g63]
 simp at hT; subst hT
 apply Zs; intros
 iterate 2 (refine Zo ?_ (by simp [hw1, hw2, hw3, hb2, hx] <;> omega); simp [hw1, hw2, hw3, hb2, hx])
 exact Zx
 refine ⟨hb2, Wz.to rfl rfl rfl ?_⟩
 simp
 have hkl : k0 = x.fTraits.length := by omega
 subst hkl
 refine W.exit ?_
 refine W.seq ?_
 apply Zr; intros
 iterate 4 (refine Zo ?_ (by simp [hw1, hw2, hw3] <;> omega); simp [hw1, hw2, hw3])
 exact Zx
 refine W.block ?_
 refine W.loopk [1, 69, 70] [1] (fun k1 => [(71, .d (.lf (.int .i64 (k1 : Int)))), (3, .d (.lf (.bool (fnK (fnK (uq [x]) traitOk x.fTraits x.fTraits.length) dataOk x.fDataTypes k1))))]) (fun _ => []) x.fDataTypes.length rfl (by simp [fnK_zero]) fun k1 hk1 T hT => ?_
 simp at hT; subst hT
 apply Zr; intros
 refine Zo ?_ (by simp [hw1, hw2, hw3] <;> omega); simp [hw1, hw2, hw3]
 exact Zx
 refine Zv rfl ?_ ?_ <;> intro hb3 <;> try simp at hb3
 have hx := ixNext hb3 (by omega)
 have hy := szL_le TDataType.sz (gm hb3)
 have hnx := fnK_nx (b := (fnK (uq [x]) traitOk x.fTraits x.fTraits.length)) (p := dataOk) hb3
 refine W.skip ?_
 refine Zb ?_
 apply Zr; intros
 refine Zo ?_ (by simp [hw1, hw2, hw3, hb3, hx] <;> omega); simp [hw1, hw2, hw3, hb3, hx]
 refine Zm [74] ?_ (by simp [hw1, hw2, hw3, hb3, hx] <;> omega); simp [hw1, hw2, hw3, hb3, hx]
 iterate 2 (refine Zo ?_ (by simp [hw1, hw2, hw3, hb3, hx] <;> omega); simp [hw1, hw2, hw3, hb3, hx])
 exact Zx
 refine W.regJ (D := _) [1, 69, 70, 71] [1] [(3, .d (.lf (.bool (fnK (fnK (uq [x]) traitOk x.fTraits x.fTraits.length) dataOk x.fDataTypes (k1 + 1)))))] [] rfl (fun _ K hD hK => ?_) fun T hT => ?_
 iterate 2 (refine Zo ?_ (by simp [hw1, hw2, hw3, hb3, hx] <;> omega); simp [hw1, hw2, hw3, hb3, hx])
 refine WL.split 76 _ rfl (fun g76 => ?_) fun g76 => ?_ <;> try simp at g76
 simp [hw1, hw2, hw3, hb3, hx]
 refine Zg hD rfl rfl ?_ (by simp [hw1, hw2, hw3, hb3, hx] <;> omega); simp [hw1, hw2, hw3, hb3, hx]
 refine Zk hD rfl rfl [] rfl Tryz.func106 (iData_d x.fDataTypes[k1] (by omega) _) ?_ (by simp [hw1, hw2, hw3, hb3, hx]); simp [hw1, hw2, hw3, hb3, hx]
 iterate 2 (refine Zo ?_ (by simp [hw1, hw2, hw3, hb3, hx] <;> omega); simp [hw1, hw2, hw3, hb3, hx])
 refine WL.nil (hK _ (Wz.to rfl rfl rfl ?_))
 simp [hnx, g76]
 simp [hw1, hw2, hw3, hb3, hx]
 iterate 2 (refine Zn hD rfl rfl ?_; simp [hw1, hw2, hw3, hb3, hx])
 iterate 2 (refine Zo ?_ (by simp [hw1, hw2, hw3, hb3, hx] <;> omega); simp [hw1, hw2, hw3, hb3, hx])
 refine WL.nil (hK _ (Wz.to rfl rfl rfl ?_))
 simp [hnx, g76]
 simp at hT; subst hT
 apply Zs; intros
 iterate 2 (refine Zo ?_ (by simp [hw1, hw2, hw3, hb3, hx] <;> omega); simp [hw1, hw2, hw3, hb3, hx])
 exact Zx
 refine ⟨hb3, Wz.to rfl rfl rfl ?_⟩
 simp
 have hkl : k1 = x.fDataTypes.length := by omega
 subst hkl
 refine W.exit ?_
 refine W.seq ?_
 apply Zr; intros
 iterate 4 (refine Zo ?_ (by simp [hw1, hw2, hw3] <;> omega); simp [hw1, hw2, hw3])
 exact Zx
 refine W.block ?_
 refine W.loopk [1, 82, 83] [1] (fun k2 => [(84, .d (.lf (.int .i64 (k2 : Int)))), (3, .d (.lf (.bool (fnK (fnK (fnK (uq [x]) traitOk x.fTraits x.fTraits.length) dataOk x.fDataTypes x.fDataTypes.length) instOk x.fInstances k2))))]) (fun _ => []) x.fInstances.length rfl (by simp [fnK_zero]) fun k2 hk2 T hT => ?_
 simp at hT; subst hT
 apply Zr; intros
 refine Zo ?_ (by simp [hw1, hw2, hw3] <;> omega); simp [hw1, hw2, hw3]
 exact Zx
 refine Zv rfl ?_ ?_ <;> intro hb4 <;> try simp at hb4
 have hx := ixNext hb4 (by omega)
 have hy := szL_le TInstance.sz (gm hb4)
 have hnx := fnK_nx (b := (fnK (fnK (uq [x]) traitOk x.fTraits x.fTraits.length) dataOk x.fDataTypes x.fDataTypes.length)) (p := instOk) hb4
 refine W.skip ?_
 refine Zb ?_
 apply Zr; intros
 refine Zo ?_ (by simp [hw1, hw2, hw3, hb4, hx] <;> omega); simp [hw1, hw2, hw3, hb4, hx]
 refine Zm [87] ?_ (by simp [hw1, hw2, hw3, hb4, hx] <;> omega); simp [hw1, hw2, hw3, hb4, hx]
 iterate 2 (refine Zo ?_ (by simp [hw1, hw2, hw3, hb4, hx] <;> omega); simp [hw1, hw2, hw3, hb4, hx])
 exact Zx
 refine W.regJ (D := _) [1, 82, 83, 84] [1] [(3, .d (.lf (.bool (fnK (fnK (fnK (uq [x]) traitOk x.fTraits x.fTraits.length) dataOk x.fDataTypes x.fDataTypes.length) instOk x.fInstances (k2 + 1)))))] [] rfl (fun _ K hD hK => ?_) fun T hT => ?_
 iterate 2 (refine Zo ?_ (by simp [hw1, hw2, hw3, hb4, hx] <;> omega); simp [hw1, hw2, hw3, hb4, hx])
 refine WL.split 89 _ rfl (fun g89 => ?_) fun g89 => ?_ <;> try simp at g89
 simp [hw1, hw2, hw3, hb4, hx]
 refine Zg hD rfl rfl ?_ (by simp [hw1, hw2, hw3, hb4, hx] <;> omega); simp [hw1, hw2, hw3, hb4, hx]
 refine Zk hD rfl rfl [] rfl Tryz.func107 (iInst_d x.fInstances[k2] (by omega) _) ?_ (by simp [hw1, hw2, hw3, hb4, hx]); simp [hw1, hw2, hw3, hb4, hx]
 iterate 2 (refine Zo ?_ (by simp [hw1, hw2, hw3, hb4, hx] <;> omega); simp [hw1, hw2, hw3, hb4, hx])
 refine WL.nil (hK _ (Wz.to rfl rfl rfl ?_))
 simp [hnx, g89]
 simp [hw1, hw2, hw3, hb4, hx]
 iterate 2 (refine Zn hD rfl rfl ?_; simp [hw1, hw2, hw3, hb4, hx])
 iterate 2 (refine Zo ?_ (by simp [hw1, hw2, hw3, hb4, hx] <;> omega); simp [hw1, hw2, hw3, hb4, hx])
 refine WL.nil (hK _ (Wz.to rfl rfl rfl ?_))
 simp [hnx, g89]
 simp at hT; subst hT
 apply Zs; intros
 iterate 2 (refine Zo ?_ (by simp [hw1, hw2, hw3, hb4, hx] <;> omega); simp [hw1, hw2, hw3, hb4, hx])
 exact Zx
 refine ⟨hb4, Wz.to rfl rfl rfl ?_⟩
 simp
 have hkl : k2 = x.fInstances.length := by omega
 subst hkl
 refine W.exit ?_
 refine W.seq ?_
 apply Zr; intros
 iterate 4 (refine Zo ?_ (by simp [hw1, hw2, hw3] <;> omega); simp [hw1, hw2, hw3])
 exact Zx
 refine W.block ?_
 refine W.loopk [95, 96] [] (fun k3 => [(97, .d (.lf (.int .i64 (k3 : Int)))), (3, .d (.lf (.bool (fnK (fnK (fnK (fnK (uq [x]) traitOk x.fTraits x.fTraits.length) dataOk x.fDataTypes x.fDataTypes.length) instOk x.fInstances x.fInstances.length) fnOk x.fFunctions k3))))]) (fun _ => []) x.fFunctions.length rfl (by simp [fnK_zero]) fun k3 hk3 T hT => ?_
 simp at hT; subst hT
 apply Zr; intros
 refine Zo ?_ (by simp [hw1, hw2, hw3] <;> omega); simp [hw1, hw2, hw3]
 exact Zx
 refine Zv rfl ?_ ?_ <;> intro hb5 <;> try simp at hb5
 have hx := ixNext hb5 (by omega)
 have hy := szL_le TFunction.sz (gm hb5)
 have hnx := fnK_nx (b := (fnK (fnK (fnK (uq [x]) traitOk x.fTraits x.fTraits.length) dataOk x.fDataTypes x.fDataTypes.length) instOk x.fInstances x.fInstances.length)) (p := fnOk) hb5
 refine W.skip ?_
 refine Zb ?_
 apply Zr; intros
 refine Zo ?_ (by simp [hw1, hw2, hw3, hb5, hx] <;> omega); simp [hw1, hw2, hw3, hb5, hx]
 refine Zm [100] ?_ (by simp [hw1, hw2, hw3, hb5, hx] <;> omega); simp [hw1, hw2, hw3, hb5, hx]
 iterate 2 (refine Zo ?_ (by simp [hw1, hw2, hw3, hb5, hx] <;> omega); simp [hw1, hw2, hw3, hb5, hx])
 exact Zx
 refine W.regJ (D := _) [95, 96, 97] [] [(3, .d (.lf (.bool (fnK (fnK (fnK (fnK (uq [x]) traitOk x.fTraits x.fTraits.length) dataOk x.fDataTypes x.fDataTypes.length) instOk x.fInstances x.fInstances.length) fnOk x.fFunctions (k3 + 1)))))] [] rfl (fun _ K hD hK => ?_) fun T hT => ?_
 iterate 2 (refine Zo ?_ (by simp [hw1, hw2, hw3, hb5, hx] <;> omega); simp [hw1, hw2, hw3, hb5, hx])
 refine WL.split 102 _ rfl (fun g102 => ?_) fun g102 => ?_ <;> try simp at g102
 simp [hw1, hw2, hw3, hb5, hx]
 refine Zg hD rfl rfl ?_ (by simp [hw1, hw2, hw3, hb5, hx] <;> omega); simp [hw1, hw2, hw3, hb5, hx]
 refine Zk hD rfl rfl [] rfl Tryz.func108 (iFn_d x.fFunctions[k3] (by omega) _) ?_ (by simp [hw1, hw2, hw3, hb5, hx]); simp [hw1, hw2, hw3, hb5, hx]
 iterate 2 (refine Zo ?_ (by simp [hw1, hw2, hw3, hb5, hx] <;> omega); simp [hw1, hw2, hw3, hb5, hx])
 refine WL.nil (hK _ (Wz.to rfl rfl rfl ?_))
 simp [hnx, g102]
 simp [hw1, hw2, hw3, hb5, hx]
 iterate 2 (refine Zn hD rfl rfl ?_; simp [hw1, hw2, hw3, hb5, hx])
 iterate 2 (refine Zo ?_ (by simp [hw1, hw2, hw3, hb5, hx] <;> omega); simp [hw1, hw2, hw3, hb5, hx])
 refine WL.nil (hK _ (Wz.to rfl rfl rfl ?_))
 simp [hnx, g102]
 simp at hT; subst hT
 apply Zs; intros
 iterate 2 (refine Zo ?_ (by simp [hw1, hw2, hw3, hb5, hx] <;> omega); simp [hw1, hw2, hw3, hb5, hx])
 exact Zx
 refine ⟨hb5, Wz.to rfl rfl rfl ?_⟩
 simp
 have hkl : k3 = x.fFunctions.length := by omega
 subst hkl
 have hres : pkgOk x = (fnK (fnK (fnK (fnK (uq [x]) traitOk x.fTraits x.fTraits.length) dataOk x.fDataTypes x.fDataTypes.length) instOk x.fInstances x.fInstances.length) fnOk x.fFunctions x.fFunctions.length) := by simp only [fnK_full, uq_one, pkgOk, pk1, rightOk, h1, decide_eq_true h24]; simp [Bool.and_assoc]
 refine W.exit ?_
 apply Zr; intros
 iterate 2 (refine Zo ?_ (by simp [hw1, hw2, hw3] <;> omega); simp [hw1, hw2, hw3])
 exact Zx
 refine W.ret (Zq ?_)
 simp [Tryz.f55, hres]
theorem iPkX_d (x : TPackage) (hz : x.sz ≤ 1048576) (h : HP) : CS cx.P 27 [.d ((x).dd false)] h (.d (mxE (pkE x))) h := by
 have hz2 := x.sz_eq; unfold szs at hz2
 refine Ze Tryz.func27 rfl 93 ?_
 apply Zr; intros
 iterate 2 (refine Zo ?_; simp)
 exact Zx
 refine W.seq ?_
 apply Zr; intros
 refine Zo ?_; simp
 refine Zl [] rfl Tryz.func55 (iPkg_d x (by omega) _) ?_; simp
 refine Zo ?_; simp
 exact Zx
 refine Zc rfl ?_ ?_ <;> intro hb0 <;> try simp at hb0
 have hres : pkE x = emE := by unfold pkE; exact if_neg (by simp [hb0])
 apply Zr; intros
 iterate 2 (refine Zo ?_; simp)
 exact Zx
 refine W.ret (Zq ?_)
 simp [Tryz.f27, hres]
 have hok : pkgOk x = true := by simpa using hb0
 have hpo := pk_ok hok
 have hps := pk_sz hok
 have hrz := rwP_sz hok
 refine W.skip ?_
 apply Yr rfl; intro K hK
 refine Yl [] rfl Tryz.func56 (iAt_v ⟨#[112, 97, 99, 107, 97, 103, 101]⟩) ?_; simp
 iterate 2 (refine Yo ?_; simp)
 refine Yl [] rfl Tryz.func56 (iAt_v x.fName) ?_; simp
 iterate 2 (refine Yo ?_; simp)
 refine Yl [] rfl Tryz.func57 (nList_v x.fDeps (by omega)) ?_; simp
 iterate 2 (refine Yo ?_; simp)
 exact DL.nil rfl hK
 refine W.seq ?_
 apply Zr; intros
 iterate 4 (refine Zo ?_; simp)
 exact Zx
 refine W.block ?_
 refine W.loopk [1, 2, 27, 28] [1, 2] (fun k0 => [(29, .d (.lf (.int .i64 (k0 : Int)))), (3, .d (.sl true sh61 ((eK ([(⟨⟨#[112, 97, 99, 107, 97, 103, 101]⟩, []⟩ : TSExpr), (⟨x.fName, []⟩ : TSExpr), woE x.fDeps]) trE x.fTraits k0).map (TSExpr.dd false))))]) (fun _ => []) x.fTraits.length rfl (by simp [eK_zero]) fun k0 hk0 T hT => ?_
 simp at hT; subst hT
 apply Zr; intros
 refine Zo ?_; simp
 exact Zx
 refine Zv rfl ?_ ?_ <;> intro hb1 <;> try simp at hb1
 have hx0 := ixNext hb1 (by omega)
 have hy := szL_le TTrait.sz (gm hb1)
 refine W.skip ?_
 refine Zb ?_
 apply Zr; intros
 refine Zo ?_ (by simp [hb1, hx0] <;> omega); simp [hb1, hx0]
 refine Zm [32] ?_ (by simp [hb1, hx0] <;> omega); simp [hb1, hx0]
 iterate 2 (refine Zo ?_ (by simp [hb1, hx0] <;> omega); simp [hb1, hx0])
 exact Zx
 apply Zs; intros
 refine Zm [33] ?_ (by simp [hb1, hx0] <;> omega); simp [hb1, hx0]
 refine Zo ?_ (by simp [hb1, hx0] <;> omega); simp [hb1, hx0]
 refine Zl [] rfl Tryz.func58 (encTr_v x.fTraits[k0] (by omega) (fun g hg => sig_ok (trait_ok (hpo.1 _ (gm hb1)) g hg)) _) ?_ (by simp [hb1, hx0]); simp [hb1, hx0]
 iterate 3 (refine Zo ?_ (by simp [hb1, hx0] <;> omega); simp [hb1, hx0])
 exact Zx
 apply Zs; intros
 iterate 2 (refine Zo ?_ (by simp [hb1, hx0] <;> omega); simp [hb1, hx0])
 exact Zx
 refine ⟨hb1, Wz.to rfl rfl rfl ?_⟩
 have hs := eKF_snoc (P := ([(⟨⟨#[112, 97, 99, 107, 97, 103, 101]⟩, []⟩ : TSExpr), (⟨x.fName, []⟩ : TSExpr), woE x.fDeps])) (e := trE) hb1
 simp at hs
 simp [hs]
 have hkl : k0 = x.fTraits.length := by omega
 subst hkl
 simp only [eK_full]
 refine W.exit ?_
 refine W.seq ?_
 apply Zr; intros
 iterate 4 (refine Zo ?_; simp)
 exact Zx
 refine W.block ?_
 refine W.loopk [1, 2, 40, 41] [1, 2] (fun k1 => [(42, .d (.lf (.int .i64 (k1 : Int)))), (3, .d (.sl true sh61 ((eK (eA ([(⟨⟨#[112, 97, 99, 107, 97, 103, 101]⟩, []⟩ : TSExpr), (⟨x.fName, []⟩ : TSExpr), woE x.fDeps]) trE x.fTraits) daE x.fDataTypes k1).map (TSExpr.dd false))))]) (fun _ => []) x.fDataTypes.length rfl (by simp [eK_zero]) fun k1 hk1 T hT => ?_
 simp at hT; subst hT
 apply Zr; intros
 refine Zo ?_; simp
 exact Zx
 refine Zv rfl ?_ ?_ <;> intro hb2 <;> try simp at hb2
 have hx1 := ixNext hb2 (by omega)
 have hy := szL_le TDataType.sz (gm hb2)
 refine W.skip ?_
 refine Zb ?_
 apply Zr; intros
 refine Zo ?_ (by simp [hb2, hx1] <;> omega); simp [hb2, hx1]
 refine Zm [45] ?_ (by simp [hb2, hx1] <;> omega); simp [hb2, hx1]
 iterate 2 (refine Zo ?_ (by simp [hb2, hx1] <;> omega); simp [hb2, hx1])
 exact Zx
 apply Zs; intros
 refine Zm [46] ?_ (by simp [hb2, hx1] <;> omega); simp [hb2, hx1]
 refine Zo ?_ (by simp [hb2, hx1] <;> omega); simp [hb2, hx1]
 refine Zl [] rfl Tryz.func59 (encDa_v x.fDataTypes[k1] (by omega) (data_ok (hpo.2.1 _ (gm hb2))) _) ?_ (by simp [hb2, hx1]); simp [hb2, hx1]
 iterate 3 (refine Zo ?_ (by simp [hb2, hx1] <;> omega); simp [hb2, hx1])
 exact Zx
 apply Zs; intros
 iterate 2 (refine Zo ?_ (by simp [hb2, hx1] <;> omega); simp [hb2, hx1])
 exact Zx
 refine ⟨hb2, Wz.to rfl rfl rfl ?_⟩
 have hs := eKF_snoc (P := (eA ([(⟨⟨#[112, 97, 99, 107, 97, 103, 101]⟩, []⟩ : TSExpr), (⟨x.fName, []⟩ : TSExpr), woE x.fDeps]) trE x.fTraits)) (e := daE) hb2
 simp at hs
 simp [hs]
 have hkl : k1 = x.fDataTypes.length := by omega
 subst hkl
 simp only [eK_full]
 refine W.exit ?_
 refine W.seq ?_
 apply Zr; intros
 iterate 4 (refine Zo ?_; simp)
 exact Zx
 refine W.block ?_
 refine W.loopk [1, 2, 53, 54] [1, 2] (fun k2 => [(55, .d (.lf (.int .i64 (k2 : Int)))), (3, .d (.sl true sh61 ((eK (eA (eA ([(⟨⟨#[112, 97, 99, 107, 97, 103, 101]⟩, []⟩ : TSExpr), (⟨x.fName, []⟩ : TSExpr), woE x.fDeps]) trE x.fTraits) daE x.fDataTypes) inE x.fInstances k2).map (TSExpr.dd false))))]) (fun _ => []) x.fInstances.length rfl (by simp [eK_zero]) fun k2 hk2 T hT => ?_
 simp at hT; subst hT
 apply Zr; intros
 refine Zo ?_; simp
 exact Zx
 refine Zv rfl ?_ ?_ <;> intro hb3 <;> try simp at hb3
 have hx2 := ixNext hb3 (by omega)
 have hy := szL_le TInstance.sz (gm hb3)
 refine W.skip ?_
 refine Zb ?_
 apply Zr; intros
 refine Zo ?_ (by simp [hb3, hx2] <;> omega); simp [hb3, hx2]
 refine Zm [58] ?_ (by simp [hb3, hx2] <;> omega); simp [hb3, hx2]
 iterate 2 (refine Zo ?_ (by simp [hb3, hx2] <;> omega); simp [hb3, hx2])
 exact Zx
 apply Zs; intros
 refine Zm [59] ?_ (by simp [hb3, hx2] <;> omega); simp [hb3, hx2]
 refine Zo ?_ (by simp [hb3, hx2] <;> omega); simp [hb3, hx2]
 refine Zl [] rfl Tryz.func60 (encIn_v x.fInstances[k2] (by omega) (inst_ok (hpo.2.2.1 _ (gm hb3))) _) ?_ (by simp [hb3, hx2]); simp [hb3, hx2]
 iterate 3 (refine Zo ?_ (by simp [hb3, hx2] <;> omega); simp [hb3, hx2])
 exact Zx
 apply Zs; intros
 iterate 2 (refine Zo ?_ (by simp [hb3, hx2] <;> omega); simp [hb3, hx2])
 exact Zx
 refine ⟨hb3, Wz.to rfl rfl rfl ?_⟩
 have hs := eKF_snoc (P := (eA (eA ([(⟨⟨#[112, 97, 99, 107, 97, 103, 101]⟩, []⟩ : TSExpr), (⟨x.fName, []⟩ : TSExpr), woE x.fDeps]) trE x.fTraits) daE x.fDataTypes)) (e := inE) hb3
 simp at hs
 simp [hs]
 have hkl : k2 = x.fInstances.length := by omega
 subst hkl
 simp only [eK_full]
 refine W.exit ?_
 refine W.seq ?_
 apply Zr; intros
 iterate 4 (refine Zo ?_; simp)
 exact Zx
 refine W.block ?_
 refine W.loopk [2, 66, 67] [2] (fun k3 => [(68, .d (.lf (.int .i64 (k3 : Int)))), (3, .d (.sl true sh61 ((eK (eA (eA (eA ([(⟨⟨#[112, 97, 99, 107, 97, 103, 101]⟩, []⟩ : TSExpr), (⟨x.fName, []⟩ : TSExpr), woE x.fDeps]) trE x.fTraits) daE x.fDataTypes) inE x.fInstances) fnE x.fFunctions k3).map (TSExpr.dd false))))]) (fun _ => []) x.fFunctions.length rfl (by simp [eK_zero]) fun k3 hk3 T hT => ?_
 simp at hT; subst hT
 apply Zr; intros
 refine Zo ?_; simp
 exact Zx
 refine Zv rfl ?_ ?_ <;> intro hb4 <;> try simp at hb4
 have hx3 := ixNext hb4 (by omega)
 have hy := szL_le TFunction.sz (gm hb4)
 refine W.skip ?_
 refine Zb ?_
 apply Zr; intros
 refine Zo ?_ (by simp [hb4, hx3] <;> omega); simp [hb4, hx3]
 refine Zm [71] ?_ (by simp [hb4, hx3] <;> omega); simp [hb4, hx3]
 iterate 2 (refine Zo ?_ (by simp [hb4, hx3] <;> omega); simp [hb4, hx3])
 exact Zx
 apply Zs; intros
 refine Zm [72] ?_ (by simp [hb4, hx3] <;> omega); simp [hb4, hx3]
 refine Zo ?_ (by simp [hb4, hx3] <;> omega); simp [hb4, hx3]
 refine Zl [] rfl Tryz.func61 (encFn_v x.fFunctions[k3] (by omega) (fn_ok (hpo.2.2.2 _ (gm hb4))) _) ?_ (by simp [hb4, hx3]); simp [hb4, hx3]
 iterate 3 (refine Zo ?_ (by simp [hb4, hx3] <;> omega); simp [hb4, hx3])
 exact Zx
 apply Zs; intros
 iterate 2 (refine Zo ?_ (by simp [hb4, hx3] <;> omega); simp [hb4, hx3])
 exact Zx
 refine ⟨hb4, Wz.to rfl rfl rfl ?_⟩
 have hs := eKF_snoc (P := (eA (eA (eA ([(⟨⟨#[112, 97, 99, 107, 97, 103, 101]⟩, []⟩ : TSExpr), (⟨x.fName, []⟩ : TSExpr), woE x.fDeps]) trE x.fTraits) daE x.fDataTypes) inE x.fInstances)) (e := fnE) hb4
 simp at hs
 simp [hs]
 have hkl : k3 = x.fFunctions.length := by omega
 subst hkl
 simp only [eK_full]
 have hrw : (eA (eA (eA (eA [] trE x.fTraits) daE x.fDataTypes) inE x.fInstances) fnE x.fFunctions) = rwP x := rfl
 have hrl := rwP_len x
 refine W.exit ?_
 refine W.seq ?_
 apply Zr; intros
 refine Zo ?_ (by simp [hrw] <;> omega); simp [hrw]
 refine WL.op [] rfl (ok_sliceSl (es := ([(⟨⟨#[112, 97, 99, 107, 97, 103, 101]⟩, []⟩ : TSExpr), (⟨x.fName, []⟩ : TSExpr), woE x.fDeps] ++ rwP x).map (TSExpr.dd false)) rfl (by simp) (by simp [cls]) (by simp [okO]) (by simp [okX, okO]) (by simp [okX, okO]) rfl rfl (by simp [hrw]; rfl) rfl 3 (([(⟨⟨#[112, 97, 99, 107, 97, 103, 101]⟩, []⟩ : TSExpr), (⟨x.fName, []⟩ : TSExpr), woE x.fDeps] ++ rwP x).map (TSExpr.dd false)).length .i64 (by simp [loV, evT, cst]) (.inl ⟨rfl, rfl⟩) (by first | omega | (simp <;> omega)) (by simp <;> omega)) rfl ?_; simp [hrw]
 iterate 2 (refine Zo ?_ (by simp [hrw] <;> omega); simp [hrw])
 exact Zx
 refine W.block ?_
 refine W.loopI [2, 3, 79, 80] [2] (fun k4 => [(81, .d (.lf (.int .i64 (k4 : Int))))]) (fun _ => []) (rwP x).length (fun k4 => ∀ j, j < k4 → ∀ y, (rwP x)[j]? = some y → (fun e => !eValid e) y = false) rfl (by simp) (by simp) fun k4 hk4 hi4 T hT => ?_
 simp at hT; subst hT
 apply Zr; intros
 refine Zo ?_ (by simp [hrw] <;> omega); simp [hrw]
 exact Zx
 refine Zv rfl ?_ ?_ <;> intro hb5 <;> try simp at hb5
 have hl5 : k4 < (rwP x).length := by omega
 have hge := List.getElem?_eq_getElem hl5
 have hx4 := ixNext hl5 (by omega)
 have hez := hrz _ (gm hl5)
 refine W.skip ?_
 refine Zb ?_
 apply Zr; intros
 refine Zo ?_ (by simp [hrw, hl5, hge, hx4] <;> omega); simp [hrw, hl5, hge, hx4]
 refine Zm [84] ?_ (by simp [hrw, hl5, hge, hx4] <;> omega); simp [hrw, hl5, hge, hx4]
 iterate 2 (refine Zo ?_ (by simp [hrw, hl5, hge, hx4] <;> omega); simp [hrw, hl5, hge, hx4])
 exact Zx
 apply Zr; intros
 refine Zo ?_ (by simp [hrw, hl5, hge, hx4] <;> omega); simp [hrw, hl5, hge, hx4]
 refine Zl [] rfl Tryz.func62 (iValidE_d (rwP x)[k4] (by omega) _) ?_ (by simp [hrw, hl5, hge, hx4]); simp [hrw, hl5, hge, hx4]
 refine Zo ?_ (by simp [hrw, hl5, hge, hx4] <;> omega); simp [hrw, hl5, hge, hx4]
 exact Zx
 refine Zc rfl ?_ ?_ <;> intro hb6 <;> try simp at hb6
 have hno2 := rw_any x
 rw [anyP_yes (p := fun e => !eValid e) hl5 (by simpa using hb6)] at hno2
 have hres : pkE x = emE := by unfold pkE; rw [if_pos hok, if_pos hno2]
 apply Zr; intros
 iterate 2 (refine Zo ?_ (by simp [hrw, hl5, hge, hx4] <;> omega); simp [hrw, hl5, hge, hx4])
 exact Zx
 refine W.ret (Zq ?_)
 simp [Tryz.f27, hres]
 refine W.skip ?_
 apply Zs; intros
 iterate 2 (refine Zo ?_ (by simp [hrw, hl5, hge, hx4] <;> omega); simp [hrw, hl5, hge, hx4])
 exact Zx
 refine ⟨hl5, noP_step (p := fun e => !eValid e) hi4 hl5 (by simpa using hb6), Wz.to rfl rfl rfl ?_⟩
 simp
 have hkl : k4 = (rwP x).length := by omega
 subst hkl
 have hno := anyP_no (p := fun e => !eValid e) hi4
 have hno2 := rw_any x
 rw [hno] at hno2
 have hrq := rw_eq hno
 have hres : pkE x = ifE true ⟨⟨#[]⟩, [(⟨⟨#[112, 97, 99, 107, 97, 103, 101]⟩, []⟩ : TSExpr), (⟨x.fName, []⟩ : TSExpr), woE x.fDeps] ++ rwP x⟩ := by unfold pkE; rw [if_pos hok, if_neg (by simp [hno2]), hrq]; rfl
 rw [hrq] at hps
 refine W.exit ?_
 apply Zr; intros
 refine Zm [90] ?_ (by simp [hrw] <;> omega); simp [hrw]
 refine Zl [90] rfl Tryz.func64 (iList_m ([(⟨⟨#[112, 97, 99, 107, 97, 103, 101]⟩, []⟩ : TSExpr), (⟨x.fName, []⟩ : TSExpr), woE x.fDeps] ++ rwP x) _) ?_ (by simp [hrw]); simp [hrw]
 refine Zl [91] rfl Tryz.func63 (if_m ⟨⟨#[]⟩, [(⟨⟨#[112, 97, 99, 107, 97, 103, 101]⟩, []⟩ : TSExpr), (⟨x.fName, []⟩ : TSExpr), woE x.fDeps] ++ rwP x⟩ (by unfold pkP at hps; omega) _) ?_ (by simp [hrw]); simp [hrw]
 refine Zo ?_ (by simp [hrw] <;> omega); simp [hrw]
 exact Zx
 refine W.ret (Zq ?_)
 simp [Tryz.f27, hres]
theorem ef0S_d (l : List TSExpr) (g : Nat) (h : HP) : CS cx.P 65 [.d (.sl false sh61 (l.map (TSExpr.dd false))), .d (.sl false sh61 []), .fn g []] h (.d (.lf (.bool (decide (l = []))))) h := by
 refine Ze Tryz.func65 rfl 32 ?_
 apply Zr; intros
 refine Zo ?_; simp
 exact Zx
 refine W.seq ?_
 apply Zr; intros
 iterate 5 (refine Zo ?_; simp)
 exact Zx
 refine Zc rfl ?_ ?_ <;> intro hb0 <;> try simp at hb0
 have hres : ¬ l = [] := by simpa using hb0
 apply Zr; intros
 refine Zo ?_; simp
 exact Zx
 refine W.ret (Zq ?_)
 simp [Tryz.f65, hres]
 have hres : l = [] := by simpa using hb0
 refine W.skip ?_
 refine W.seq ?_
 apply Zr; intros
 iterate 3 (refine Zo ?_; simp)
 exact Zx
 refine W.block ?_
 refine W.loopk [1, 2, 15, 16] [] (fun k0 => [(17, .d (.lf (.int .i64 (k0 : Int))))]) (fun _ => []) 0 rfl (by simp) fun k0 hk0 T hT => ?_
 simp at hT; subst hT
 apply Zr; intros
 refine Zo ?_; simp
 exact Zx
 refine Zv rfl ?_ ?_ <;> intro hb1 <;> try simp at hb1
 exfalso; rw [hres] at hb1; simp at hb1
 refine W.exit ?_
 apply Zr; intros
 refine Zo ?_; simp
 exact Zx
 refine W.ret (Zq ?_)
 simp [Tryz.f65, hres]
theorem eqE0_d (x : TSExpr) (h : HP) : CS cx.P 28 [.d ((x).dd false), .d ((emE).dd false)] h (.d (.lf (.bool (noE x)))) h := by
 refine Ze Tryz.func28 rfl 17 ?_
 apply Zr; intros
 iterate 3 (refine Zo ?_; simp)
 exact Zx
 refine W.seq ?_
 refine W.regJ0 (D := _) rfl fun _ K hD hK => ?_
 iterate 6 (refine Zo ?_; simp)
 refine WL.split 10 _ rfl (fun g10 => ?_) fun g10 => ?_ <;> try simp at g10
 simp
 iterate 4 (refine Zg hD rfl rfl ?_; simp)
 refine Zk hD rfl rfl [] rfl Tryz.func65 (ef0S_d x.fList 28 _) ?_; simp
 iterate 2 (refine Zo ?_; simp)
 refine WL.nil (hK _ ?_)
 refine W.ret (Zq ?_)
 simp [Tryz.f28, noE, g10]
 simp
 iterate 5 (refine Zn hD rfl rfl ?_; simp)
 iterate 2 (refine Zo ?_; simp)
 refine WL.nil (hK _ ?_)
 refine W.ret (Zq ?_)
 simp [Tryz.f28, noE, g10]
theorem iFmP_d (x : TPackage) (hz : x.sz ≤ 1048576) (h : HP) : CS cx.P 16 [.d ((x).dd false)] h (.d (.lf (.string (fmP x)))) h := by
 have hz2 := x.sz_eq; unfold szs at hz2
 have hps := pkE_sz x
 have hno : noE (pkE x) = decide ((pkE x).fList = []) := by unfold noE; rw [pkE_atom, tlE]; simp
 refine Ze Tryz.func16 rfl 11 ?_
 apply Zr; intros
 iterate 2 (refine Zo ?_; simp)
 exact Zx
 apply Zr; intros
 refine Zo ?_; simp
 refine Zl [] rfl Tryz.func27 (iPkX_d x hz _) ?_; simp
 iterate 2 (refine Zo ?_; simp)
 exact Zx
 refine W.seq ?_
 apply Zr; intros
 iterate 2 (refine Zo ?_; simp)
 refine Zl [] rfl Tryz.func28 (eqE0_d (pkE x) _) ?_; simp
 exact Zx
 refine Zc rfl ?_ ?_ <;> intro hb0 <;> try simp at hb0
 have hres : fmP x = ⟨#[]⟩ := by unfold fmP; rw [hno] at hb0; exact if_pos (of_decide_eq_true hb0)
 apply Zr; intros
 refine Zo ?_; simp
 exact Zx
 refine W.ret (Zq ?_)
 simp [Tryz.f16, hres]
 have hres : fmP x = fmtE (pkE x) := by unfold fmP; rw [hno] at hb0; exact if_neg (of_decide_eq_false (by simpa using hb0))
 refine W.skip ?_
 apply Zr; intros
 refine Zo ?_; simp
 refine Zl [] rfl Tryz.func29 (iFmtE_d (pkE x) (by omega) _) ?_; simp
 refine Zo ?_; simp
 exact Zx
 refine W.ret (Zq ?_)
 simp [Tryz.f16, hres]
end Go.Proofs.YtkadbimpaplnmaaGreatDoor
