/- Walks by the Den rules. No condition but sizes. -/
import Derived.Test.YtkadbimpaplnmaaGreatDoorM16
import Derived.Test.YtkadbimpaplnmaaGreatDoorM41
namespace Go.Proofs.YtkadbimpaplnmaaGreatDoor
open Go.RowKit
set_option maxRecDepth 10000
set_option linter.unusedSimpArgs false
set_option maxHeartbeats 4000000
def gN (f : TPackage → List ByteArray) (l : List TPackage) (k : Nat) : List ByteArray := (l.take k).flatMap f
def apB (a b : List ByteArray) : List ByteArray := a ++ b
def nT (p : TPackage) : List ByteArray := p.fTraits.map TTrait.fName
def nD (p : TPackage) : List ByteArray := p.fDataTypes.map TDataType.fName
def nF (p : TPackage) : List ByteArray := p.fFunctions.map TFunction.fName
theorem gN_zero (f : TPackage → List ByteArray) (l : List TPackage) : gN f l 0 = [] := rfl
theorem gN_full (f : TPackage → List ByteArray) (l : List TPackage) : gN f l l.length = l.flatMap f := by unfold gN; rw [List.take_length]
theorem gN_nx {f : TPackage → List ByteArray} {l : List TPackage} {k : Nat} (h : k < l.length) : apB (gN f l k) (f l[k]) = gN f l (k + 1) := by
 unfold gN apB
 rw [List.take_succ_eq_append_getElem h, List.flatMap_append]; simp
theorem gN_len {f : TPackage → List ByteArray} (hf : ∀ p, (f p).length ≤ p.sz) (l : List TPackage) (k : Nat) : (gN f l k).length ≤ szL TPackage.sz l := by
 have key : ∀ l : List TPackage, (l.flatMap f).length ≤ szL TPackage.sz l := fun l => by
  induction l with
  | nil => simp
  | cons x l ih => have := hf x; simp only [List.flatMap_cons, List.length_append, szL]; omega
 exact Nat.le_trans (key _) (szL_take TPackage.sz l k)
theorem gN_lnx {f : TPackage → List ByteArray} (hf : ∀ p, (f p).length ≤ p.sz) {l : List TPackage} {k : Nat} (h : k < l.length) : (gN f l k).length + (f l[k]).length ≤ szL TPackage.sz l := by
 have h1 := gN_len hf l (k + 1)
 rw [← gN_nx h] at h1
 unfold apB at h1
 rw [List.length_append] at h1; exact h1
theorem nT_le (p : TPackage) : (nT p).length ≤ p.sz := by have := p.sz_eq; unfold szs at this; unfold nT; simp; omega
theorem nD_le (p : TPackage) : (nD p).length ≤ p.sz := by have := p.sz_eq; unfold szs at this; unfold nD; simp; omega
theorem nF_le (p : TPackage) : (nF p).length ≤ p.sz := by have := p.sz_eq; unfold szs at this; unfold nF; simp; omega
theorem ct_le (p : TPackage) : (ctAll p).length ≤ p.sz := by have h := ctL_len p.fDataTypes; have := p.sz_eq; unfold szs at this; unfold ctAll; omega
theorem apB_zero {α : Type} (a : List ByteArray) (l : List α) (f : α → ByteArray) : apB a (nmsK l f 0) = a := by unfold apB; rw [nmsK_zero, List.append_nil]
theorem apB_ct0 (a : List ByteArray) (p : TPackage) : apB a (ctK p 0) = a := by unfold apB; rw [ctK_zero, List.append_nil]
theorem apB_ctd0 (a : List ByteArray) (p : TPackage) (k : Nat) (d : TDataType) : apB a (ctD p k d 0) = apB a (ctK p k) := by rw [ctD_zero]
theorem apB_snoc {α : Type} (a : List ByteArray) {l : List α} (f : α → ByteArray) {k : Nat} (h : k < l.length) : (apB a (nmsK l f k)).map dS ++ [.lf (.string (f l[k]))] = (apB a (nmsK l f (k + 1))).map dS := by
 unfold apB; rw [List.map_append, List.append_assoc, nmsK_snoc f h, List.map_append]
theorem apB_ctd (a : List ByteArray) {p : TPackage} {k : Nat} {d : TDataType} {j : Nat} (h : j < d.fConstructors.length) : (apB a (ctD p k d j)).map dS ++ [.lf (.string d.fConstructors[j].fName)] = (apB a (ctD p k d (j + 1))).map dS := by
 unfold apB; rw [List.map_append, List.append_assoc, ctD_snoc h, List.map_append]
theorem apB_ctf (a : List ByteArray) {p : TPackage} {k : Nat} (h : k < p.fDataTypes.length) : apB a (ctD p k p.fDataTypes[k] p.fDataTypes[k].fConstructors.length) = apB a (ctK p (k + 1)) := by rw [ctD_full h]
theorem apB_len (a b : List ByteArray) : (apB a b).length = a.length + b.length := by unfold apB; simp
def dclA (l : List TPackage) (k : Nat) : List ByteArray := if k = 0 then l.flatMap nT else if k = 1 then l.flatMap nD else if k = 2 then l.flatMap ctAll else l.flatMap nF
theorem dclA_len (l : List TPackage) (k : Nat) : (dclA l k).length ≤ szL TPackage.sz l := by
 unfold dclA
 repeat' split
 ·rw [← gN_full]; exact gN_len nT_le l _
 ·rw [← gN_full]; exact gN_len nD_le l _
 ·rw [← gN_full]; exact gN_len ct_le l _
 ·rw [← gN_full]; exact gN_len nF_le l _
def uq (l : List TPackage) : Bool := dst (l.flatMap nT) && dst (l.flatMap nD) && dst (l.flatMap ctAll) && dst (l.flatMap nF)
theorem uq_all {l : List TPackage} (h : ∀ j, j < 4 → dst (dclA l j) = true) : uq l = true := by
 have h0 := h 0 (by omega)
 have h1 := h 1 (by omega)
 have h2 := h 2 (by omega)
 have h3 := h 3 (by omega)
 simp [dclA] at h0 h1 h2 h3
 unfold uq; simp [h0, h1, h2, h3]
theorem uq_no {l : List TPackage} {j : Nat} (hj : j < 4) (h : dst (dclA l j) = false) : uq l = false := by
 have : j = 0 ∨ j = 1 ∨ j = 2 ∨ j = 3 := by omega
 unfold uq
 rcases this with q | q | q | q <;> subst q <;> simp [dclA] at h <;> simp [h]
theorem uq_one (x : TPackage) : uq [x] = pk2 x := by unfold uq pk2 nT nD nF; simp
theorem dcl_d (l : List TPackage) (hl : l.length ≤ 134217728) (hs : szL TPackage.sz l ≤ 134217728) (h : HP) : CS cx.P 161 [.d (.sl false sh44 (l.map (TPackage.dd false)))] h (.d (.st [.sl true .one ((l.flatMap nT).map dS), .sl true .one ((l.flatMap nD).map dS), .sl true .one ((l.flatMap ctAll).map dS), .sl true .one ((l.flatMap nF).map dS)])) h := by
 refine Ze Tryz.func161 rfl 83 ?_
 apply Zr; intros
 refine Zo ?_; simp
 exact Zx
 apply Zr; intros
 refine WL.opArrZ rfl rfl (by simp) 223 rfl rfl rfl rfl rfl ?_; simp
 iterate 2 (refine Zo ?_; simp)
 exact Zx
 refine W.seq ?_
 apply Zr; intros
 iterate 3 (refine Zo ?_; simp)
 exact Zx
 refine W.block ?_
 refine W.loopk [2, 3, 15, 16] [2] (fun k0 => [(17, .d (.lf (.int .i64 (k0 : Int))))]) (fun k0 => [(3, .d (.st [.sl true .one ((gN nT l k0).map dS), .sl true .one ((gN nD l k0).map dS), .sl true .one ((gN ctAll l k0).map dS), .sl true .one ((gN nF l k0).map dS)]))]) l.length rfl (by simp [gN_zero]) fun k0 hk0 T hT => ?_
 simp at hT; subst hT
 apply Zr; intros
 refine Zo ?_; simp
 exact Zx
 refine Zv rfl ?_ ?_ <;> intro hb0 <;> try simp at hb0
 have hx := ixNext hb0 (by omega)
 have hy := szL_le TPackage.sz (gm hb0)
 have hy2 := l[k0].sz_eq; unfold szs at hy2
 have hgT := gN_lnx nT_le hb0
 have hgD := gN_lnx nD_le hb0
 have hgC := gN_lnx ct_le hb0
 have hgF := gN_lnx nF_le hb0
 have eT : (nT l[k0]).length = l[k0].fTraits.length := by unfold nT; simp
 have eD : (nD l[k0]).length = l[k0].fDataTypes.length := by unfold nD; simp
 have eF : (nF l[k0]).length = l[k0].fFunctions.length := by unfold nF; simp
 refine W.skip ?_
 refine Zb ?_
 apply Zr; intros
 refine Zo ?_ (by simp [hb0, hx] <;> omega); simp [hb0, hx]
 refine Zm [20] ?_ (by simp [hb0, hx] <;> omega); simp [hb0, hx]
 iterate 2 (refine Zo ?_ (by simp [hb0, hx] <;> omega); simp [hb0, hx])
 exact Zx
 refine W.seq ?_
 apply Zr; intros
 iterate 4 (refine Zo ?_ (by simp [hb0, hx] <;> omega); simp [hb0, hx])
 exact Zx
 refine W.block ?_
 refine W.loopk [2, 3, 5, 15, 16, 17, 22, 23] [2, 5] (fun k1 => [(24, .d (.lf (.int .i64 (k1 : Int))))]) (fun k1 => [(3, .d (.st [.sl true .one ((apB (gN nT l k0) (nmsK l[k0].fTraits TTrait.fName k1)).map dS), .sl true .one ((gN nD l k0).map dS), .sl true .one ((gN ctAll l k0).map dS), .sl true .one ((gN nF l k0).map dS)]))]) l[k0].fTraits.length rfl (by simp [apB_zero]) fun k1 hk1 T hT => ?_
 simp at hT; subst hT
 have hl1 := nmsK_len (l := l[k0].fTraits) TTrait.fName hk1
 have hl1b := apB_len (gN nT l k0) (nmsK l[k0].fTraits TTrait.fName k1)
 apply Zr; intros
 refine Zo ?_ (by simp [hb0, hx] <;> omega); simp [hb0, hx]
 exact Zx
 refine Zv rfl ?_ ?_ <;> intro hb1 <;> try simp at hb1
 have hx1 := ixNext hb1 (by omega)
 refine W.skip ?_
 refine Zb ?_
 apply Zr; intros
 refine Zo ?_ (by simp [hb0, hx, hb1, hx1] <;> omega); simp [hb0, hx, hb1, hx1]
 refine Zm [27] ?_ (by simp [hb0, hx, hb1, hx1] <;> omega); simp [hb0, hx, hb1, hx1]
 iterate 2 (refine Zo ?_ (by simp [hb0, hx, hb1, hx1] <;> omega); simp [hb0, hx, hb1, hx1])
 exact Zx
 apply Zs; intros
 refine WL.opArr rfl rfl (by simp) 223 _ _ rfl rfl rfl rfl (by simp) 0 rfl (by simp) (by decide) rfl rfl (fun off ho => by simp [offP] at ho ⊢; subst ho; simp [Sh.ws, Sh.w, offP]) rfl ?_; simp [hb0, hx, hb1, hx1]
 refine Zm [29] ?_ (by simp [hb0, hx, hb1, hx1] <;> omega); simp [hb0, hx, hb1, hx1]
 iterate 4 (refine Zo ?_ (by simp [hb0, hx, hb1, hx1] <;> omega); simp [hb0, hx, hb1, hx1])
 refine WL.opArr rfl rfl (by simp) 223 _ _ rfl rfl rfl rfl (by simp) 0 rfl (by simp) (by decide) rfl rfl (fun off ho => by simp [offP] at ho ⊢; subst ho; simp [Sh.ws, Sh.w, offP]) rfl ?_; simp [hb0, hx, hb1, hx1]
 refine Zo ?_ (by simp [hb0, hx, hb1, hx1] <;> omega); simp [hb0, hx, hb1, hx1]
 exact Zx
 apply Zs; intros
 iterate 2 (refine Zo ?_ (by simp [hb0, hx, hb1, hx1] <;> omega); simp [hb0, hx, hb1, hx1])
 exact Zx
 refine ⟨hb1, Wz.to rfl rfl rfl ?_⟩
 have hs1 := apB_snoc (gN nT l k0) TTrait.fName hb1
 simp [hs1]
 have hkl : k1 = l[k0].fTraits.length := by omega
 subst hkl
 have hT : apB (gN nT l k0) (l[k0].fTraits.map TTrait.fName) = gN nT l (k0 + 1) := gN_nx (f := nT) hb0
 simp only [nmsK_full, hT]
 refine W.exit ?_
 refine W.seq ?_
 apply Zr; intros
 iterate 4 (refine Zo ?_ (by simp [hb0, hx] <;> omega); simp [hb0, hx])
 exact Zx
 refine W.block ?_
 refine W.loopk [2, 3, 5, 15, 16, 17, 37, 38] [2, 5] (fun k2 => [(39, .d (.lf (.int .i64 (k2 : Int))))]) (fun k2 => [(3, .d (.st [.sl true .one ((gN nT l (k0 + 1)).map dS), .sl true .one ((apB (gN nD l k0) (nmsK l[k0].fDataTypes TDataType.fName k2)).map dS), .sl true .one ((apB (gN ctAll l k0) (ctK l[k0] k2)).map dS), .sl true .one ((gN nF l k0).map dS)]))]) l[k0].fDataTypes.length rfl (by simp [apB_zero, apB_ct0]) fun k2 hk2 T hT => ?_
 simp at hT; subst hT
 have hl2 := nmsK_len (l := l[k0].fDataTypes) TDataType.fName hk2
 have hl2b := apB_len (gN nD l k0) (nmsK l[k0].fDataTypes TDataType.fName k2)
 apply Zr; intros
 refine Zo ?_ (by simp [hb0, hx] <;> omega); simp [hb0, hx]
 exact Zx
 refine Zv rfl ?_ ?_ <;> intro hb2 <;> try simp at hb2
 have hx2 := ixNext hb2 (by omega)
 have hs2 := apB_snoc (gN nD l k0) TDataType.fName hb2
 have hy3 := szL_le TDataType.sz (gm hb2)
 have hy4 := l[k0].fDataTypes[k2].sz_eq; unfold szs at hy4
 have hcl : (ctK l[k0] k2).length ≤ l[k0].sz := by have := ctK_len l[k0] k2; omega
 have hcb := apB_len (gN ctAll l k0) (ctK l[k0] k2)
 have hgc := gN_len ct_le l k0
 refine W.skip ?_
 refine Zb ?_
 apply Zr; intros
 refine Zo ?_ (by simp [hb0, hx, hb2, hx2, hs2] <;> omega); simp [hb0, hx, hb2, hx2, hs2]
 refine Zm [42] ?_ (by simp [hb0, hx, hb2, hx2, hs2] <;> omega); simp [hb0, hx, hb2, hx2, hs2]
 iterate 2 (refine Zo ?_ (by simp [hb0, hx, hb2, hx2, hs2] <;> omega); simp [hb0, hx, hb2, hx2, hs2])
 exact Zx
 apply Zr; intros
 refine WL.opArr rfl rfl (by simp) 223 _ _ rfl rfl rfl rfl (by simp) 1 rfl (by simp) (by decide) rfl rfl (fun off ho => by simp [offP] at ho ⊢; subst ho; simp [Sh.ws, Sh.w, offP]) rfl ?_; simp [hb0, hx, hb2, hx2, hs2]
 refine Zm [44] ?_ (by simp [hb0, hx, hb2, hx2, hs2] <;> omega); simp [hb0, hx, hb2, hx2, hs2]
 iterate 4 (refine Zo ?_ (by simp [hb0, hx, hb2, hx2, hs2] <;> omega); simp [hb0, hx, hb2, hx2, hs2])
 refine WL.opArr rfl rfl (by simp) 223 _ _ rfl rfl rfl rfl (by simp) 1 rfl (by simp) (by decide) rfl rfl (fun off ho => by simp [offP] at ho ⊢; subst ho; simp [Sh.ws, Sh.w, offP]) rfl ?_; simp [hb0, hx, hb2, hx2, hs2]
 refine Zo ?_ (by simp [hb0, hx, hb2, hx2, hs2] <;> omega); simp [hb0, hx, hb2, hx2, hs2]
 exact Zx
 apply Zr; intros
 iterate 4 (refine Zo ?_ (by simp [hb0, hx, hb2, hx2, hs2] <;> omega); simp [hb0, hx, hb2, hx2, hs2])
 exact Zx
 refine W.block ?_
 refine W.loopk [2, 3, 5, 15, 16, 17, 37, 38, 39, 51, 52] [2, 5] (fun k3 => [(53, .d (.lf (.int .i64 (k3 : Int))))]) (fun k3 => [(3, .d (.st [.sl true .one ((gN nT l (k0 + 1)).map dS), .sl true .one ((apB (gN nD l k0) (nmsK l[k0].fDataTypes TDataType.fName (k2 + 1))).map dS), .sl true .one ((apB (gN ctAll l k0) (ctD l[k0] k2 l[k0].fDataTypes[k2] k3)).map dS), .sl true .one ((gN nF l k0).map dS)]))]) l[k0].fDataTypes[k2].fConstructors.length rfl (by simp [apB_ctd0, hs2]) fun k3 hk3 T hT => ?_
 simp at hT; subst hT
 have hl3 := ctD_len hb2 hk3
 have hl3b := apB_len (gN ctAll l k0) (ctD l[k0] k2 l[k0].fDataTypes[k2] k3)
 apply Zr; intros
 refine Zo ?_ (by simp [hb0, hx, hb2, hx2, hs2] <;> omega); simp [hb0, hx, hb2, hx2, hs2]
 exact Zx
 refine Zv rfl ?_ ?_ <;> intro hb3 <;> try simp at hb3
 have hx3 := ixNext hb3 (by omega)
 refine W.skip ?_
 refine Zb ?_
 apply Zr; intros
 refine Zo ?_ (by simp [hb0, hx, hb2, hx2, hs2, hb3, hx3] <;> omega); simp [hb0, hx, hb2, hx2, hs2, hb3, hx3]
 refine Zm [56] ?_ (by simp [hb0, hx, hb2, hx2, hs2, hb3, hx3] <;> omega); simp [hb0, hx, hb2, hx2, hs2, hb3, hx3]
 iterate 2 (refine Zo ?_ (by simp [hb0, hx, hb2, hx2, hs2, hb3, hx3] <;> omega); simp [hb0, hx, hb2, hx2, hs2, hb3, hx3])
 exact Zx
 apply Zs; intros
 refine WL.opArr rfl rfl (by simp) 223 _ _ rfl rfl rfl rfl (by simp) 2 rfl (by simp) (by decide) rfl rfl (fun off ho => by simp [offP] at ho ⊢; subst ho; simp [Sh.ws, Sh.w, offP]) rfl ?_; simp [hb0, hx, hb2, hx2, hs2, hb3, hx3]
 refine Zm [58] ?_ (by simp [hb0, hx, hb2, hx2, hs2, hb3, hx3] <;> omega); simp [hb0, hx, hb2, hx2, hs2, hb3, hx3]
 iterate 4 (refine Zo ?_ (by simp [hb0, hx, hb2, hx2, hs2, hb3, hx3] <;> omega); simp [hb0, hx, hb2, hx2, hs2, hb3, hx3])
 refine WL.opArr rfl rfl (by simp) 223 _ _ rfl rfl rfl rfl (by simp) 2 rfl (by simp) (by decide) rfl rfl (fun off ho => by simp [offP] at ho ⊢; subst ho; simp [Sh.ws, Sh.w, offP]) rfl ?_; simp [hb0, hx, hb2, hx2, hs2, hb3, hx3]
 refine Zo ?_ (by simp [hb0, hx, hb2, hx2, hs2, hb3, hx3] <;> omega); simp [hb0, hx, hb2, hx2, hs2, hb3, hx3]
 exact Zx
 apply Zs; intros
 iterate 2 (refine Zo ?_ (by simp [hb0, hx, hb2, hx2, hs2, hb3, hx3] <;> omega); simp [hb0, hx, hb2, hx2, hs2, hb3, hx3])
 exact Zx
 refine ⟨hb3, Wz.to rfl rfl rfl ?_⟩
 have hs3 := apB_ctd (gN ctAll l k0) (p := l[k0]) (k := k2) hb3
 simp [hs3]
 have hkl : k3 = l[k0].fDataTypes[k2].fConstructors.length := by omega
 subst hkl
 refine W.exit ?_
 apply Zs; intros
 iterate 2 (refine Zo ?_ (by simp [hb0, hx, hb2, hx2, hs2] <;> omega); simp [hb0, hx, hb2, hx2, hs2])
 exact Zx
 refine ⟨hb2, Wz.to rfl rfl rfl ?_⟩
 have hs2 := apB_ctf (gN ctAll l k0) hb2
 simp [hs2]
 have hkl : k2 = l[k0].fDataTypes.length := by omega
 subst hkl
 have hD : apB (gN nD l k0) (l[k0].fDataTypes.map TDataType.fName) = gN nD l (k0 + 1) := gN_nx (f := nD) hb0
 have hC := gN_nx (f := ctAll) hb0
 simp only [nmsK_full, hD, ctK_full, hC]
 refine W.exit ?_
 apply Zr; intros
 iterate 4 (refine Zo ?_ (by simp [hb0, hx] <;> omega); simp [hb0, hx])
 exact Zx
 refine W.block ?_
 refine W.loopk [2, 3, 15, 16, 17, 67, 68] [2] (fun k4 => [(69, .d (.lf (.int .i64 (k4 : Int))))]) (fun k4 => [(3, .d (.st [.sl true .one ((gN nT l (k0 + 1)).map dS), .sl true .one ((gN nD l (k0 + 1)).map dS), .sl true .one ((gN ctAll l (k0 + 1)).map dS), .sl true .one ((apB (gN nF l k0) (nmsK l[k0].fFunctions TFunction.fName k4)).map dS)]))]) l[k0].fFunctions.length rfl (by simp [apB_zero]) fun k4 hk4 T hT => ?_
 simp at hT; subst hT
 have hl4 := nmsK_len (l := l[k0].fFunctions) TFunction.fName hk4
 have hl4b := apB_len (gN nF l k0) (nmsK l[k0].fFunctions TFunction.fName k4)
 apply Zr; intros
 refine Zo ?_ (by simp [hb0, hx] <;> omega); simp [hb0, hx]
 exact Zx
 refine Zv rfl ?_ ?_ <;> intro hb4 <;> try simp at hb4
 have hx4 := ixNext hb4 (by omega)
 refine W.skip ?_
 refine Zb ?_
 apply Zr; intros
 refine Zo ?_ (by simp [hb0, hx, hb4, hx4] <;> omega); simp [hb0, hx, hb4, hx4]
 refine Zm [72] ?_ (by simp [hb0, hx, hb4, hx4] <;> omega); simp [hb0, hx, hb4, hx4]
 iterate 2 (refine Zo ?_ (by simp [hb0, hx, hb4, hx4] <;> omega); simp [hb0, hx, hb4, hx4])
 exact Zx
 apply Zs; intros
 refine WL.opArr rfl rfl (by simp) 223 _ _ rfl rfl rfl rfl (by simp) 3 rfl (by simp) (by decide) rfl rfl (fun off ho => by simp [offP] at ho ⊢; subst ho; simp [Sh.ws, Sh.w, offP]) rfl ?_; simp [hb0, hx, hb4, hx4]
 refine Zm [74] ?_ (by simp [hb0, hx, hb4, hx4] <;> omega); simp [hb0, hx, hb4, hx4]
 iterate 4 (refine Zo ?_ (by simp [hb0, hx, hb4, hx4] <;> omega); simp [hb0, hx, hb4, hx4])
 refine WL.opArr rfl rfl (by simp) 223 _ _ rfl rfl rfl rfl (by simp) 3 rfl (by simp) (by decide) rfl rfl (fun off ho => by simp [offP] at ho ⊢; subst ho; simp [Sh.ws, Sh.w, offP]) rfl ?_; simp [hb0, hx, hb4, hx4]
 refine Zo ?_ (by simp [hb0, hx, hb4, hx4] <;> omega); simp [hb0, hx, hb4, hx4]
 exact Zx
 apply Zs; intros
 iterate 2 (refine Zo ?_ (by simp [hb0, hx, hb4, hx4] <;> omega); simp [hb0, hx, hb4, hx4])
 exact Zx
 refine ⟨hb4, Wz.to rfl rfl rfl ?_⟩
 have hs4 := apB_snoc (gN nF l k0) TFunction.fName hb4
 simp [hs4]
 have hkl : k4 = l[k0].fFunctions.length := by omega
 subst hkl
 have hF : apB (gN nF l k0) (l[k0].fFunctions.map TFunction.fName) = gN nF l (k0 + 1) := gN_nx (f := nF) hb0
 simp only [nmsK_full, hF]
 refine W.exit ?_
 apply Zs; intros
 iterate 2 (refine Zo ?_ (by simp [hb0, hx] <;> omega); simp [hb0, hx])
 exact Zx
 refine ⟨hb0, Wz.to rfl rfl rfl ?_⟩
 simp [hF]
 have hkl : k0 = l.length := by omega
 subst hkl
 simp only [gN_full]
 refine W.exit ?_
 apply Zr; intros
 refine Zm [82] ?_; simp
 refine Zo ?_; simp
 exact Zx
 refine W.ret (Zq ?_)
 simp [Tryz.f161]
theorem uq_d (l : List TPackage) (hl : l.length ≤ 134217728) (hs : szL TPackage.sz l ≤ 134217728) (h : HP) : CS cx.P 104 [.d (.sl false sh44 (l.map (TPackage.dd false)))] h (.d (.lf (.bool (uq l)))) h := by
 have hdl := dclA_len l
 refine Ze Tryz.func104 rfl 14 ?_
 apply Zr; intros
 refine Zo ?_; simp
 exact Zx
 refine W.seq ?_
 apply Zr; intros
 refine Zo ?_; simp
 refine Zl [] rfl Tryz.func161 (dcl_d l hl hs _) ?_; simp
 refine Zo ?_; simp
 exact Zx
 refine W.block ?_
 refine W.loopI [6] [] (fun k0 => [(7, .d (.lf (.int .i64 (k0 : Int))))]) (fun _ => []) 4 (fun k0 => ∀ j, j < k0 → dst (dclA l j) = true) rfl (by simp) (by simp) fun k0 hk0 hi0 T hT => ?_
 simp at hT; subst hT
 apply Zr; intros
 refine Zo ?_; simp
 exact Zx
 refine Zv rfl ?_ ?_ <;> intro hb0 <;> try simp at hb0
 have hk4 : k0 < 4 := by omega
 have hx := ixNext hk4 (by omega)
 have hdk := hdl k0
 have hd9 : ([.sl false .one ((l.flatMap nT).map dS), .sl false .one ((l.flatMap nD).map dS), .sl false .one ((l.flatMap ctAll).map dS), .sl false .one ((l.flatMap nF).map dS)] : List DD)[k0]? = some (.sl false .one ((dclA l k0).map dS)) := by rcases (show k0 = 0 ∨ k0 = 1 ∨ k0 = 2 ∨ k0 = 3 by omega) with q | q | q | q <;> subst q <;> simp [dclA]
 refine W.skip ?_
 refine Zb ?_
 apply Zr; intros
 refine WL.opArrV rfl rfl (by simp) 223 _ _ rfl rfl rfl rfl rfl rfl (by simp) (k0) rfl (by simp) (by omega) (by simp [DD.shs, DD.sh, List.replicate]) (d := .sl false .one ((dclA l k0).map dS)) (by simpa using hd9) rfl ?_; simp [hx]
 refine Zo ?_ (by simp [hx] <;> omega); simp [hx]
 exact Zx
 apply Zr; intros
 refine Zo ?_ (by simp [hx] <;> omega); simp [hx]
 refine Zl [] rfl Tryz.func157 (iDst_d (dclA l k0) (by omega) _) ?_ (by simp [hx]); simp [hx]
 refine Zo ?_ (by simp [hx] <;> omega); simp [hx]
 exact Zx
 refine Zc rfl ?_ ?_ <;> intro hb1 <;> try simp at hb1
 have hres := uq_no hk4 (by simpa using hb1)
 apply Zr; intros
 refine Zo ?_ (by simp [hx] <;> omega); simp [hx]
 exact Zx
 refine W.ret (Zq ?_)
 simp [Tryz.f104, hres]
 refine W.skip ?_
 apply Zs; intros
 iterate 2 (refine Zo ?_ (by simp [hx] <;> omega); simp [hx])
 exact Zx
 refine ⟨hk4, step_all hi0 (by simpa using hb1), Wz.to rfl rfl rfl ?_⟩
 simp
 have hkl : k0 = 4 := by omega
 subst hkl
 have hres := uq_all hi0
 refine W.exit ?_
 apply Zr; intros
 refine Zo ?_; simp
 exact Zx
 refine W.ret (Zq ?_)
 simp [Tryz.f104, hres]
end Go.Proofs.YtkadbimpaplnmaaGreatDoor
