/- Walks by the Den rules; What FormErrors hands back (plain). No condition but sizes. -/
import Derived.Test.YtdooklofebdknaaGreatM20
import Derived.Test.YtdooklofebdknaaGreatM21
import Derived.Test.YtdooklofebdknaaGreatM36
import Derived.Test.YtdooklofebdknaaGreatM39
namespace Go.Proofs.YtdooklofebdknaaGreat
open Go.RowKit
set_option maxRecDepth 10000
set_option linter.unusedSimpArgs false
set_option maxHeartbeats 4000000
theorem tOver_form {x : TType} {v : List ByteArray} (h : tOver x v = true) : tForm x = true := by
 unfold tOver tValid at h
 simp at h
 exact h.1.1.1
theorem mth_eq (m : TMethod) : mthBad m = (decide (m.fVars = []) || !decide ((m.fVars.length : Int) ≤ 5) || !(nms m.fVars && dst m.fVars && body m.fBody m.fVars)) := by
 unfold mthBad words
 cases decide (m.fVars = []) <;> cases decide ((m.fVars.length : Int) ≤ 5) <;> cases nms m.fVars <;> cases dst m.fVars <;> cases body m.fBody m.fVars <;> rfl
theorem hasS_mem {l : List ByteArray} {s : ByteArray} : hasS l s = true ↔ s ∈ l := by unfold hasS; simp
mutual
theorem occ_tvs (v : ByteArray) : ∀ (x : TType) (o : List ByteArray), v ∈ tvs x o ↔ v ∈ o ∨ 0 < occ v x
 | ⟨k, n, l⟩, o => by
  have h1 := occ_tvss v l (tvS o k n)
  have h2 : v ∈ tvS o k n ↔ v ∈ o ∨ (k = 1 ∧ n = v) := by
   unfold tvS
   split
   ·rename_i h
    simp only [List.mem_append, List.mem_singleton]
    constructor
    ·rintro (q | q)
     ·exact .inl q
     ·exact .inr ⟨h.1, q.symm⟩
    ·rintro (q | q)
     ·exact .inl q
     ·exact .inr q.2.symm
   ·rename_i h
    constructor
    ·exact .inl
    ·rintro (q | ⟨q1, q2⟩)
     ·exact q
     ·subst q2
      have : ¬ ¬ (hasS o n = true) := fun q => h ⟨q1, q⟩
      exact hasS_mem.1 (Classical.not_not.1 this)
  rw [tvs, h1, h2]
  simp only [occ]
  by_cases hq : k = 1 ∧ n = v
  ·simp [hq]; exact .inr (by omega)
  ·simp [hq]
theorem occ_tvss (v : ByteArray) : ∀ (l : List TType) (o : List ByteArray), v ∈ tvss l o ↔ v ∈ o ∨ 0 < occs v l
 | [], o => by simp [tvss, occs]
 | x :: l, o => by
  rw [tvss, occ_tvss v l, occ_tvs v x]
  simp only [occs]
  constructor
  ·rintro ((q | q) | q)
   ·exact .inl q
   ·exact .inr (by omega)
   ·exact .inr (by omega)
  ·rintro (q | q)
   ·exact .inl (.inl q)
   ·by_cases h : 0 < occ v x
    ·exact .inl (.inr h)
    ·exact .inr (by omega)
end
theorem sub_occ (l : List ByteArray) (x : TType) : sub l (tv x) = !(l.any fun v => !decide (0 < occ v x)) := by
 unfold sub
 congr 1
 congr 1
 funext v
 have h := occ_tvs v x []
 simp only [List.not_mem_nil, false_or] at h
 unfold tv
 by_cases hq : 0 < occ v x
 ·rw [hasS_mem.2 (h.2 hq)]; simp [hq]
 ·have : ¬ hasS (tvs x []) v = true := fun q => hq (h.1 (hasS_mem.1 q))
  simp [hq]; simpa using this
theorem tForm_kind {x : TType} (h : tForm x = true) : x.fKind = 1 ∨ x.fKind = 2 ∨ x.fKind = 3 ∨ x.fKind = 4 := by
 cases x with
 | mk k n l =>
  simp only [tForm, Bool.and_eq_true] at h
  have h1 := h.1
  unfold hdOk at h1
  show k = 1 ∨ k = 2 ∨ k = 3 ∨ k = 4
  repeat' split at h1
  all_goals first | omega | simp at h1
theorem head_k {x : TType} {v : List ByteArray} (h : tOver x v = true) (hp : hasPj x = false) : (decide (x.fKind = 2) || decide (x.fKind = 1)) = !decide (x.fKind = 4) := by
 have h1 := tOver_form h
 have h3 : ¬ x.fKind = 3 := fun q => by rw [hasPj_eq] at hp; simp [q] at hp
 have h2 : x.fKind = 1 ∨ x.fKind = 2 ∨ x.fKind = 3 ∨ x.fKind = 4 := tForm_kind h1
 rcases h2 with q | q | q | q
 ·simp [q]
 ·simp [q]
 ·exact absurd q h3
 ·simp [q]
def gN (f : TPackage → List ByteArray) (l : List TPackage) (k : Nat) : List ByteArray := (l.take k).flatMap f
def apB (a b : List ByteArray) : List ByteArray := a ++ b
def nT (p : TPackage) : List ByteArray := p.fTraits.map TTrait.fName
def nD (p : TPackage) : List ByteArray := p.fDataTypes.map TDataType.fName
def nF (p : TPackage) : List ByteArray := p.fFunctions.map TFunction.fName
theorem gN_zero (f : TPackage → List ByteArray) (l : List TPackage) : gN f l 0 = [] := rfl
theorem gN_full (f : TPackage → List ByteArray) (l : List TPackage) : gN f l l.length = l.flatMap f := by unfold gN; rw [List.take_length]
theorem gN_nx {f : TPackage → List ByteArray} {l : List TPackage} {k : Nat} (h : k < l.length) : apB (gN f l k) (f l[k]) = gN f l (k + 1) := by
 unfold gN apB
 rw [List.take_succ_eq_append_getElem h, List.flatMap_append]; simp
theorem gN_len {f : TPackage → List ByteArray} (hf : ∀ p, (f p).length ≤ p.sz) (l : List TPackage) (k : Nat) : (gN f l k).length ≤ szL TPackage.sz l := by
 have key : ∀ l : List TPackage, (l.flatMap f).length ≤ szL TPackage.sz l := fun l => by
  induction l with
  | nil => simp
  | cons x l ih => have := hf x; simp only [List.flatMap_cons, List.length_append, szL]; omega
 exact Nat.le_trans (key _) (szL_take TPackage.sz l k)
theorem gN_lnx {f : TPackage → List ByteArray} (hf : ∀ p, (f p).length ≤ p.sz) {l : List TPackage} {k : Nat} (h : k < l.length) : (gN f l k).length + (f l[k]).length ≤ szL TPackage.sz l := by
 have h1 := gN_len hf l (k + 1)
 rw [← gN_nx h] at h1
 unfold apB at h1
 rw [List.length_append] at h1; exact h1
theorem nT_le (p : TPackage) : (nT p).length ≤ p.sz := by have := p.sz_eq; unfold szs at this; unfold nT; simp; omega
theorem nD_le (p : TPackage) : (nD p).length ≤ p.sz := by have := p.sz_eq; unfold szs at this; unfold nD; simp; omega
theorem nF_le (p : TPackage) : (nF p).length ≤ p.sz := by have := p.sz_eq; unfold szs at this; unfold nF; simp; omega
theorem ct_le (p : TPackage) : (ctAll p).length ≤ p.sz := by have h := ctL_len p.fDataTypes; have := p.sz_eq; unfold szs at this; unfold ctAll; omega
theorem apB_zero {α : Type} (a : List ByteArray) (l : List α) (f : α → ByteArray) : apB a (nmsK l f 0) = a := by unfold apB; rw [nmsK_zero, List.append_nil]
theorem apB_ct0 (a : List ByteArray) (p : TPackage) : apB a (ctK p 0) = a := by unfold apB; rw [ctK_zero, List.append_nil]
theorem apB_ctd0 (a : List ByteArray) (p : TPackage) (k : Nat) (d : TDataType) : apB a (ctD p k d 0) = apB a (ctK p k) := by rw [ctD_zero]
theorem apB_snoc {α : Type} (a : List ByteArray) {l : List α} (f : α → ByteArray) {k : Nat} (h : k < l.length) : (apB a (nmsK l f k)).map dS ++ [.lf (.string (f l[k]))] = (apB a (nmsK l f (k + 1))).map dS := by
 unfold apB; rw [List.map_append, List.append_assoc, nmsK_snoc f h, List.map_append]
theorem apB_ctd (a : List ByteArray) {p : TPackage} {k : Nat} {d : TDataType} {j : Nat} (h : j < d.fConstructors.length) : (apB a (ctD p k d j)).map dS ++ [.lf (.string d.fConstructors[j].fName)] = (apB a (ctD p k d (j + 1))).map dS := by
 unfold apB; rw [List.map_append, List.append_assoc, ctD_snoc h, List.map_append]
theorem apB_ctf (a : List ByteArray) {p : TPackage} {k : Nat} (h : k < p.fDataTypes.length) : apB a (ctD p k p.fDataTypes[k] p.fDataTypes[k].fConstructors.length) = apB a (ctK p (k + 1)) := by rw [ctD_full h]
theorem apB_len (a b : List ByteArray) : (apB a b).length = a.length + b.length := by unfold apB; simp
def dclA (l : List TPackage) (k : Nat) : List ByteArray := if k = 0 then l.flatMap nT else if k = 1 then l.flatMap nD else if k = 2 then l.flatMap ctAll else l.flatMap nF
theorem dclA_len (l : List TPackage) (k : Nat) : (dclA l k).length ≤ szL TPackage.sz l := by
 unfold dclA
 repeat' split
 ·rw [← gN_full]; exact gN_len nT_le l _
 ·rw [← gN_full]; exact gN_len nD_le l _
 ·rw [← gN_full]; exact gN_len ct_le l _
 ·rw [← gN_full]; exact gN_len nF_le l _
def uq (l : List TPackage) : Bool := dst (l.flatMap nT) && dst (l.flatMap nD) && dst (l.flatMap ctAll) && dst (l.flatMap nF)
theorem uq_all {l : List TPackage} (h : ∀ j, j < 4 → dst (dclA l j) = true) : uq l = true := by
 have h0 := h 0 (by omega)
 have h1 := h 1 (by omega)
 have h2 := h 2 (by omega)
 have h3 := h 3 (by omega)
 simp [dclA] at h0 h1 h2 h3
 unfold uq; simp [h0, h1, h2, h3]
theorem uq_no {l : List TPackage} {j : Nat} (hj : j < 4) (h : dst (dclA l j) = false) : uq l = false := by
 have : j = 0 ∨ j = 1 ∨ j = 2 ∨ j = 3 := by omega
 unfold uq
 rcases this with q | q | q | q <;> subst q <;> simp [dclA] at h <;> simp [h]
theorem uq_one (x : TPackage) : uq [x] = pk2 x := by unfold uq pk2 nT nD nF; simp
theorem dcl_d (l : List TPackage) (hl : l.length ≤ 134217728) (hs : szL TPackage.sz l ≤ 134217728) (h : HP) : CS cx.P 124 [.d (.sl false sh49 (l.map (TPackage.dd false)))] h (.d (.st [.sl true .one ((l.flatMap nT).map dS), .sl true .one ((l.flatMap nD).map dS), .sl true .one ((l.flatMap ctAll).map dS), .sl true .one ((l.flatMap nF).map dS)])) h := by
 refine Ze Tryz.func124 rfl 83 ?_
 apply Zr; intros
 refine Zo ?_; simp
 exact Zx
 apply Zr; intros
 refine WL.opArrZ rfl rfl (by simp) 180 rfl rfl rfl rfl rfl ?_; simp
 iterate 2 (refine Zo ?_; simp)
 exact Zx
 refine W.seq ?_
 apply Zr; intros
 iterate 3 (refine Zo ?_; simp)
 exact Zx
 refine W.block ?_
 refine W.loopk [2, 3, 15, 16] [2] (fun k0 => [(17, .d (.lf (.int .i64 (k0 : Int))))]) (fun k0 => [(3, .d (.st [.sl true .one ((gN nT l k0).map dS), .sl true .one ((gN nD l k0).map dS), .sl true .one ((gN ctAll l k0).map dS), .sl true .one ((gN nF l k0).map dS)]))]) l.length rfl (by simp [gN_zero]) fun k0 hk0 T hT => ?_
 simp at hT; subst hT
 apply Zr; intros
 refine Zo ?_; simp
 exact Zx
 refine Zv rfl ?_ ?_ <;> intro hb0 <;> try simp at hb0
 have hx := ixNext hb0 (by omega)
 have hy := szL_le TPackage.sz (gm hb0)
 have hy2 := l[k0].sz_eq; unfold szs at hy2
 have hgT := gN_lnx nT_le hb0
 have hgD := gN_lnx nD_le hb0
 have hgC := gN_lnx ct_le hb0
 have hgF := gN_lnx nF_le hb0
 have eT : (nT l[k0]).length = l[k0].fTraits.length := by unfold nT; simp
 have eD : (nD l[k0]).length = l[k0].fDataTypes.length := by unfold nD; simp
 have eF : (nF l[k0]).length = l[k0].fFunctions.length := by unfold nF; simp
 refine W.skip ?_
 refine Zb ?_
 apply Zr; intros
 refine Zo ?_ (by simp [hb0, hx] <;> omega); simp [hb0, hx]
 refine Zm [20] ?_ (by simp [hb0, hx] <;> omega); simp [hb0, hx]
 iterate 2 (refine Zo ?_ (by simp [hb0, hx] <;> omega); simp [hb0, hx])
 exact Zx
 refine W.seq ?_
 apply Zr; intros
 iterate 4 (refine Zo ?_ (by simp [hb0, hx] <;> omega); simp [hb0, hx])
 exact Zx
 refine W.block ?_
 refine W.loopk [2, 3, 5, 15, 16, 17, 22, 23] [2, 5] (fun k1 => [(24, .d (.lf (.int .i64 (k1 : Int))))]) (fun k1 => [(3, .d (.st [.sl true .one ((apB (gN nT l k0) (nmsK l[k0].fTraits TTrait.fName k1)).map dS), .sl true .one ((gN nD l k0).map dS), .sl true .one ((gN ctAll l k0).map dS), .sl true .one ((gN nF l k0).map dS)]))]) l[k0].fTraits.length rfl (by simp [apB_zero]) fun k1 hk1 T hT => ?_
 simp at hT; subst hT
 have hl1 := nmsK_len (l := l[k0].fTraits) TTrait.fName hk1
 have hl1b := apB_len (gN nT l k0) (nmsK l[k0].fTraits TTrait.fName k1)
 apply Zr; intros
 refine Zo ?_ (by simp [hb0, hx] <;> omega); simp [hb0, hx]
 exact Zx
 refine Zv rfl ?_ ?_ <;> intro hb1 <;> try simp at hb1
 have hx1 := ixNext hb1 (by omega)
 refine W.skip ?_
 refine Zb ?_
 apply Zr; intros
 refine Zo ?_ (by simp [hb0, hx, hb1, hx1] <;> omega); simp [hb0, hx, hb1, hx1]
 refine Zm [27] ?_ (by simp [hb0, hx, hb1, hx1] <;> omega); simp [hb0, hx, hb1, hx1]
 iterate 2 (refine Zo ?_ (by simp [hb0, hx, hb1, hx1] <;> omega); simp [hb0, hx, hb1, hx1])
 exact Zx
 apply Zs; intros
 refine WL.opArr rfl rfl (by simp) 180 _ _ rfl rfl rfl rfl (by simp) 0 rfl (by simp) (by decide) rfl rfl (fun off ho => by simp [offP] at ho ⊢; subst ho; simp [Sh.ws, Sh.w, offP]) rfl ?_; simp [hb0, hx, hb1, hx1]
 refine Zm [29] ?_ (by simp [hb0, hx, hb1, hx1] <;> omega); simp [hb0, hx, hb1, hx1]
 iterate 4 (refine Zo ?_ (by simp [hb0, hx, hb1, hx1] <;> omega); simp [hb0, hx, hb1, hx1])
 refine WL.opArr rfl rfl (by simp) 180 _ _ rfl rfl rfl rfl (by simp) 0 rfl (by simp) (by decide) rfl rfl (fun off ho => by simp [offP] at ho ⊢; subst ho; simp [Sh.ws, Sh.w, offP]) rfl ?_; simp [hb0, hx, hb1, hx1]
 refine Zo ?_ (by simp [hb0, hx, hb1, hx1] <;> omega); simp [hb0, hx, hb1, hx1]
 exact Zx
 apply Zs; intros
 iterate 2 (refine Zo ?_ (by simp [hb0, hx, hb1, hx1] <;> omega); simp [hb0, hx, hb1, hx1])
 exact Zx
 refine ⟨hb1, Wz.to rfl rfl rfl ?_⟩
 have hs1 := apB_snoc (gN nT l k0) TTrait.fName hb1
 simp [hs1]
 have hkl : k1 = l[k0].fTraits.length := by omega
 subst hkl
 have hT : apB (gN nT l k0) (l[k0].fTraits.map TTrait.fName) = gN nT l (k0 + 1) := gN_nx (f := nT) hb0
 simp only [nmsK_full, hT]
 refine W.exit ?_
 refine W.seq ?_
 apply Zr; intros
 iterate 4 (refine Zo ?_ (by simp [hb0, hx] <;> omega); simp [hb0, hx])
 exact Zx
 refine W.block ?_
 refine W.loopk [2, 3, 5, 15, 16, 17, 37, 38] [2, 5] (fun k2 => [(39, .d (.lf (.int .i64 (k2 : Int))))]) (fun k2 => [(3, .d (.st [.sl true .one ((gN nT l (k0 + 1)).map dS), .sl true .one ((apB (gN nD l k0) (nmsK l[k0].fDataTypes TDataType.fName k2)).map dS), .sl true .one ((apB (gN ctAll l k0) (ctK l[k0] k2)).map dS), .sl true .one ((gN nF l k0).map dS)]))]) l[k0].fDataTypes.length rfl (by simp [apB_zero, apB_ct0]) fun k2 hk2 T hT => ?_
 simp at hT; subst hT
 have hl2 := nmsK_len (l := l[k0].fDataTypes) TDataType.fName hk2
 have hl2b := apB_len (gN nD l k0) (nmsK l[k0].fDataTypes TDataType.fName k2)
 apply Zr; intros
 refine Zo ?_ (by simp [hb0, hx] <;> omega); simp [hb0, hx]
 exact Zx
 refine Zv rfl ?_ ?_ <;> intro hb2 <;> try simp at hb2
 have hx2 := ixNext hb2 (by omega)
 have hs2 := apB_snoc (gN nD l k0) TDataType.fName hb2
 have hy3 := szL_le TDataType.sz (gm hb2)
 have hy4 := l[k0].fDataTypes[k2].sz_eq; unfold szs at hy4
 have hcl : (ctK l[k0] k2).length ≤ l[k0].sz := by have := ctK_len l[k0] k2; omega
 have hcb := apB_len (gN ctAll l k0) (ctK l[k0] k2)
 have hgc := gN_len ct_le l k0
 refine W.skip ?_
 refine Zb ?_
 apply Zr; intros
 refine Zo ?_ (by simp [hb0, hx, hb2, hx2, hs2] <;> omega); simp [hb0, hx, hb2, hx2, hs2]
 refine Zm [42] ?_ (by simp [hb0, hx, hb2, hx2, hs2] <;> omega); simp [hb0, hx, hb2, hx2, hs2]
 iterate 2 (refine Zo ?_ (by simp [hb0, hx, hb2, hx2, hs2] <;> omega); simp [hb0, hx, hb2, hx2, hs2])
 exact Zx
 apply Zr; intros
 refine WL.opArr rfl rfl (by simp) 180 _ _ rfl rfl rfl rfl (by simp) 1 rfl (by simp) (by decide) rfl rfl (fun off ho => by simp [offP] at ho ⊢; subst ho; simp [Sh.ws, Sh.w, offP]) rfl ?_; simp [hb0, hx, hb2, hx2, hs2]
 refine Zm [44] ?_ (by simp [hb0, hx, hb2, hx2, hs2] <;> omega); simp [hb0, hx, hb2, hx2, hs2]
 iterate 4 (refine Zo ?_ (by simp [hb0, hx, hb2, hx2, hs2] <;> omega); simp [hb0, hx, hb2, hx2, hs2])
 refine WL.opArr rfl rfl (by simp) 180 _ _ rfl rfl rfl rfl (by simp) 1 rfl (by simp) (by decide) rfl rfl (fun off ho => by simp [offP] at ho ⊢; subst ho; simp [Sh.ws, Sh.w, offP]) rfl ?_; simp [hb0, hx, hb2, hx2, hs2]
 refine Zo ?_ (by simp [hb0, hx, hb2, hx2, hs2] <;> omega); simp [hb0, hx, hb2, hx2, hs2]
 exact Zx
 apply Zr; intros
 iterate 4 (refine Zo ?_ (by simp [hb0, hx, hb2, hx2, hs2] <;> omega); simp [hb0, hx, hb2, hx2, hs2])
 exact Zx
 refine W.block ?_
 refine W.loopk [2, 3, 5, 15, 16, 17, 37, 38, 39, 51, 52] [2, 5] (fun k3 => [(53, .d (.lf (.int .i64 (k3 : Int))))]) (fun k3 => [(3, .d (.st [.sl true .one ((gN nT l (k0 + 1)).map dS), .sl true .one ((apB (gN nD l k0) (nmsK l[k0].fDataTypes TDataType.fName (k2 + 1))).map dS), .sl true .one ((apB (gN ctAll l k0) (ctD l[k0] k2 l[k0].fDataTypes[k2] k3)).map dS), .sl true .one ((gN nF l k0).map dS)]))]) l[k0].fDataTypes[k2].fConstructors.length rfl (by simp [apB_ctd0, hs2]) fun k3 hk3 T hT => ?_
 simp at hT; subst hT
 have hl3 := ctD_len hb2 hk3
 have hl3b := apB_len (gN ctAll l k0) (ctD l[k0] k2 l[k0].fDataTypes[k2] k3)
 apply Zr; intros
 refine Zo ?_ (by simp [hb0, hx, hb2, hx2, hs2] <;> omega); simp [hb0, hx, hb2, hx2, hs2]
 exact Zx
 refine Zv rfl ?_ ?_ <;> intro hb3 <;> try simp at hb3
 have hx3 := ixNext hb3 (by omega)
 refine W.skip ?_
 refine Zb ?_
 apply Zr; intros
 refine Zo ?_ (by simp [hb0, hx, hb2, hx2, hs2, hb3, hx3] <;> omega); simp [hb0, hx, hb2, hx2, hs2, hb3, hx3]
 refine Zm [56] ?_ (by simp [hb0, hx, hb2, hx2, hs2, hb3, hx3] <;> omega); simp [hb0, hx, hb2, hx2, hs2, hb3, hx3]
 iterate 2 (refine Zo ?_ (by simp [hb0, hx, hb2, hx2, hs2, hb3, hx3] <;> omega); simp [hb0, hx, hb2, hx2, hs2, hb3, hx3])
 exact Zx
 apply Zs; intros
 refine WL.opArr rfl rfl (by simp) 180 _ _ rfl rfl rfl rfl (by simp) 2 rfl (by simp) (by decide) rfl rfl (fun off ho => by simp [offP] at ho ⊢; subst ho; simp [Sh.ws, Sh.w, offP]) rfl ?_; simp [hb0, hx, hb2, hx2, hs2, hb3, hx3]
 refine Zm [58] ?_ (by simp [hb0, hx, hb2, hx2, hs2, hb3, hx3] <;> omega); simp [hb0, hx, hb2, hx2, hs2, hb3, hx3]
 iterate 4 (refine Zo ?_ (by simp [hb0, hx, hb2, hx2, hs2, hb3, hx3] <;> omega); simp [hb0, hx, hb2, hx2, hs2, hb3, hx3])
 refine WL.opArr rfl rfl (by simp) 180 _ _ rfl rfl rfl rfl (by simp) 2 rfl (by simp) (by decide) rfl rfl (fun off ho => by simp [offP] at ho ⊢; subst ho; simp [Sh.ws, Sh.w, offP]) rfl ?_; simp [hb0, hx, hb2, hx2, hs2, hb3, hx3]
 refine Zo ?_ (by simp [hb0, hx, hb2, hx2, hs2, hb3, hx3] <;> omega); simp [hb0, hx, hb2, hx2, hs2, hb3, hx3]
 exact Zx
 apply Zs; intros
 iterate 2 (refine Zo ?_ (by simp [hb0, hx, hb2, hx2, hs2, hb3, hx3] <;> omega); simp [hb0, hx, hb2, hx2, hs2, hb3, hx3])
 exact Zx
 refine ⟨hb3, Wz.to rfl rfl rfl ?_⟩
 have hs3 := apB_ctd (gN ctAll l k0) (p := l[k0]) (k := k2) hb3
 simp [hs3]
 have hkl : k3 = l[k0].fDataTypes[k2].fConstructors.length := by omega
 subst hkl
 refine W.exit ?_
 apply Zs; intros
 iterate 2 (refine Zo ?_ (by simp [hb0, hx, hb2, hx2, hs2] <;> omega); simp [hb0, hx, hb2, hx2, hs2])
 exact Zx
 refine ⟨hb2, Wz.to rfl rfl rfl ?_⟩
 have hs2 := apB_ctf (gN ctAll l k0) hb2
 simp [hs2]
 have hkl : k2 = l[k0].fDataTypes.length := by omega
 subst hkl
 have hD : apB (gN nD l k0) (l[k0].fDataTypes.map TDataType.fName) = gN nD l (k0 + 1) := gN_nx (f := nD) hb0
 have hC := gN_nx (f := ctAll) hb0
 simp only [nmsK_full, hD, ctK_full, hC]
 refine W.exit ?_
 apply Zr; intros
 iterate 4 (refine Zo ?_ (by simp [hb0, hx] <;> omega); simp [hb0, hx])
 exact Zx
 refine W.block ?_
 refine W.loopk [2, 3, 15, 16, 17, 67, 68] [2] (fun k4 => [(69, .d (.lf (.int .i64 (k4 : Int))))]) (fun k4 => [(3, .d (.st [.sl true .one ((gN nT l (k0 + 1)).map dS), .sl true .one ((gN nD l (k0 + 1)).map dS), .sl true .one ((gN ctAll l (k0 + 1)).map dS), .sl true .one ((apB (gN nF l k0) (nmsK l[k0].fFunctions TFunction.fName k4)).map dS)]))]) l[k0].fFunctions.length rfl (by simp [apB_zero]) fun k4 hk4 T hT => ?_
 simp at hT; subst hT
 have hl4 := nmsK_len (l := l[k0].fFunctions) TFunction.fName hk4
 have hl4b := apB_len (gN nF l k0) (nmsK l[k0].fFunctions TFunction.fName k4)
 apply Zr; intros
 refine Zo ?_ (by simp [hb0, hx] <;> omega); simp [hb0, hx]
 exact Zx
 refine Zv rfl ?_ ?_ <;> intro hb4 <;> try simp at hb4
 have hx4 := ixNext hb4 (by omega)
 refine W.skip ?_
 refine Zb ?_
 apply Zr; intros
 refine Zo ?_ (by simp [hb0, hx, hb4, hx4] <;> omega); simp [hb0, hx, hb4, hx4]
 refine Zm [72] ?_ (by simp [hb0, hx, hb4, hx4] <;> omega); simp [hb0, hx, hb4, hx4]
 iterate 2 (refine Zo ?_ (by simp [hb0, hx, hb4, hx4] <;> omega); simp [hb0, hx, hb4, hx4])
 exact Zx
 apply Zs; intros
 refine WL.opArr rfl rfl (by simp) 180 _ _ rfl rfl rfl rfl (by simp) 3 rfl (by simp) (by decide) rfl rfl (fun off ho => by simp [offP] at ho ⊢; subst ho; simp [Sh.ws, Sh.w, offP]) rfl ?_; simp [hb0, hx, hb4, hx4]
 refine Zm [74] ?_ (by simp [hb0, hx, hb4, hx4] <;> omega); simp [hb0, hx, hb4, hx4]
 iterate 4 (refine Zo ?_ (by simp [hb0, hx, hb4, hx4] <;> omega); simp [hb0, hx, hb4, hx4])
 refine WL.opArr rfl rfl (by simp) 180 _ _ rfl rfl rfl rfl (by simp) 3 rfl (by simp) (by decide) rfl rfl (fun off ho => by simp [offP] at ho ⊢; subst ho; simp [Sh.ws, Sh.w, offP]) rfl ?_; simp [hb0, hx, hb4, hx4]
 refine Zo ?_ (by simp [hb0, hx, hb4, hx4] <;> omega); simp [hb0, hx, hb4, hx4]
 exact Zx
 apply Zs; intros
 iterate 2 (refine Zo ?_ (by simp [hb0, hx, hb4, hx4] <;> omega); simp [hb0, hx, hb4, hx4])
 exact Zx
 refine ⟨hb4, Wz.to rfl rfl rfl ?_⟩
 have hs4 := apB_snoc (gN nF l k0) TFunction.fName hb4
 simp [hs4]
 have hkl : k4 = l[k0].fFunctions.length := by omega
 subst hkl
 have hF : apB (gN nF l k0) (l[k0].fFunctions.map TFunction.fName) = gN nF l (k0 + 1) := gN_nx (f := nF) hb0
 simp only [nmsK_full, hF]
 refine W.exit ?_
 apply Zs; intros
 iterate 2 (refine Zo ?_ (by simp [hb0, hx] <;> omega); simp [hb0, hx])
 exact Zx
 refine ⟨hb0, Wz.to rfl rfl rfl ?_⟩
 simp [hF]
 have hkl : k0 = l.length := by omega
 subst hkl
 simp only [gN_full]
 refine W.exit ?_
 apply Zr; intros
 refine Zm [82] ?_; simp
 refine Zo ?_; simp
 exact Zx
 refine W.ret (Zq ?_)
 simp [Tryz.f124]
theorem uq_d (l : List TPackage) (hl : l.length ≤ 134217728) (hs : szL TPackage.sz l ≤ 134217728) (h : HP) : CS cx.P 71 [.d (.sl false sh49 (l.map (TPackage.dd false)))] h (.d (.lf (.bool (uq l)))) h := by
 have hdl := dclA_len l
 refine Ze Tryz.func71 rfl 14 ?_
 apply Zr; intros
 refine Zo ?_; simp
 exact Zx
 refine W.seq ?_
 apply Zr; intros
 refine Zo ?_; simp
 refine Zl [] rfl Tryz.func124 (dcl_d l hl hs _) ?_; simp
 refine Zo ?_; simp
 exact Zx
 refine W.block ?_
 refine W.loopI [6] [] (fun k0 => [(7, .d (.lf (.int .i64 (k0 : Int))))]) (fun _ => []) 4 (fun k0 => ∀ j, j < k0 → dst (dclA l j) = true) rfl (by simp) (by simp) fun k0 hk0 hi0 T hT => ?_
 simp at hT; subst hT
 apply Zr; intros
 refine Zo ?_; simp
 exact Zx
 refine Zv rfl ?_ ?_ <;> intro hb0 <;> try simp at hb0
 have hk4 : k0 < 4 := by omega
 have hx := ixNext hk4 (by omega)
 have hdk := hdl k0
 have hd9 : ([.sl false .one ((l.flatMap nT).map dS), .sl false .one ((l.flatMap nD).map dS), .sl false .one ((l.flatMap ctAll).map dS), .sl false .one ((l.flatMap nF).map dS)] : List DD)[k0]? = some (.sl false .one ((dclA l k0).map dS)) := by rcases (show k0 = 0 ∨ k0 = 1 ∨ k0 = 2 ∨ k0 = 3 by omega) with q | q | q | q <;> subst q <;> simp [dclA]
 refine W.skip ?_
 refine Zb ?_
 apply Zr; intros
 refine WL.opArrV rfl rfl (by simp) 180 _ _ rfl rfl rfl rfl rfl rfl (by simp) (k0) rfl (by simp) (by omega) (by simp [DD.shs, DD.sh, List.replicate]) (d := .sl false .one ((dclA l k0).map dS)) (by simpa using hd9) rfl ?_; simp [hx]
 refine Zo ?_ (by simp [hx] <;> omega); simp [hx]
 exact Zx
 apply Zr; intros
 refine Zo ?_ (by simp [hx] <;> omega); simp [hx]
 refine Zl [] rfl Tryz.func49 (iDst_d (dclA l k0) (by omega) _) ?_ (by simp [hx]); simp [hx]
 refine Zo ?_ (by simp [hx] <;> omega); simp [hx]
 exact Zx
 refine Zc rfl ?_ ?_ <;> intro hb1 <;> try simp at hb1
 have hres := uq_no hk4 (by simpa using hb1)
 apply Zr; intros
 refine Zo ?_ (by simp [hx] <;> omega); simp [hx]
 exact Zx
 refine W.ret (Zq ?_)
 simp [Tryz.f71, hres]
 refine W.skip ?_
 apply Zs; intros
 iterate 2 (refine Zo ?_ (by simp [hx] <;> omega); simp [hx])
 exact Zx
 refine ⟨hk4, step_all hi0 (by simpa using hb1), Wz.to rfl rfl rfl ?_⟩
 simp
 have hkl : k0 = 4 := by omega
 subst hkl
 have hres := uq_all hi0
 refine W.exit ?_
 apply Zr; intros
 refine Zo ?_; simp
 exact Zx
 refine W.ret (Zq ?_)
 simp [Tryz.f71, hres]
def fl {α β : Type} (f : α → List β) (l : List α) (k : Nat) : List β := (l.take k).flatMap f
theorem fl_zero {α β : Type} (f : α → List β) (l : List α) : fl f l 0 = [] := rfl
theorem fl_nx {α β : Type} {f : α → List β} {l : List α} {k : Nat} (h : k < l.length) : fl f l (k + 1) = fl f l k ++ f l[k] := by
 unfold fl; rw [List.take_succ_eq_append_getElem h, List.flatMap_append]; simp
/-- all of it -/
def fa {α β : Type} (f : α → List β) (l : List α) : List β := l.flatMap f
theorem fl_end {α β : Type} {f : α → List β} {l : List α} {k : Nat} (h : l.length ≤ k) : fl f l k = fa f l := by
 unfold fl fa; rw [List.take_of_length_le h]
theorem fm_le {α β : Type} {f : α → List β} (h : ∀ x, (f x).length ≤ 1) : ∀ l : List α, (l.flatMap f).length ≤ l.length
 | [] => Nat.le_refl _
 | x :: l => by have := fm_le h l; have := h x; simp only [List.flatMap_cons, List.length_append, List.length_cons]; omega
theorem fa_le {α β : Type} {f : α → List β} (h : ∀ x, (f x).length ≤ 1) (l : List α) : (fa f l).length ≤ l.length := fm_le h l
theorem fl_le {α β : Type} {f : α → List β} (h : ∀ x, (f x).length ≤ 1) (l : List α) (k : Nat) : (fl f l k).length ≤ l.length := by
 have h1 := fm_le h (l.take k); have h2 := List.length_take_le' k l; unfold fl; omega
def feA (c : Int) (i : Nat) (k s : ByteArray) : List TFormError := if c = 0 then [] else [⟨c, i, k, s⟩]
theorem feA_le (c : Int) (i : Nat) (k s : ByteArray) : (feA c i k s).length ≤ 1 := by unfold feA; split <;> simp
def kTr : ByteArray := ⟨#[116, 114, 97, 105, 116]⟩
def kDa : ByteArray := ⟨#[100, 97, 116, 97]⟩
def kIn : ByteArray := ⟨#[105, 110, 115, 116]⟩
def kFn : ByteArray := ⟨#[102, 110]⟩
def feT (w : TProgram) (i : Nat) (t : TTrait) : List TFormError := feA (ckTrait w (vis w i) t) i kTr t.fName
def feD (w : TProgram) (i : Nat) (t : TDataType) : List TFormError := feA (ckData w (vis w i) t) i kDa t.fName
def feI (w : TProgram) (i : Nat) (t : TInstance) : List TFormError := feA (ckInst w (vis w i) t) i kIn t.fTrait
def feF (w : TProgram) (i : Nat) (t : TFunction) : List TFormError := feA (ckFn w (vis w i) t) i kFn t.fName
def feP (w : TProgram) (i : Nat) (p : TPackage) : List TFormError := fa (feT w i) p.fTraits ++ fa (feD w i) p.fDataTypes ++ fa (feI w i) p.fInstances ++ fa (feF w i) p.fFunctions
def pkE (w : TProgram) (i : Nat) : List TFormError := match w.fPackages[i]? with
 | some p => feP w i p
 | none => []
theorem pkE_at {w : TProgram} {i : Nat} (h : i < w.fPackages.length) : pkE w i = feP w i w.fPackages[i] := by
 unfold pkE; rw [List.getElem?_eq_getElem h]
/-- all packages ahead of the k-th -/
def feK (w : TProgram) (k : Nat) : List TFormError := (List.range k).flatMap (pkE w)
theorem feK_zero (w : TProgram) : feK w 0 = [] := rfl
theorem feK_nx (w : TProgram) (k : Nat) : feK w (k + 1) = feK w k ++ pkE w k := by
 unfold feK; rw [List.range_succ, List.flatMap_append]; simp
def dupE : TFormError := ⟨8, 0, ⟨#[]⟩, ⟨#[]⟩⟩
def feE (w : TProgram) : List TFormError := if depsB pkgOk w then feK w w.fPackages.length ++ (if uq w.fPackages then [] else [dupE]) else [dupE]
theorem feP_le (w : TProgram) (i : Nat) (p : TPackage) : (feP w i p).length ≤ p.sz := by
 have h1 := fm_le (f := feT w i) (fun x => feA_le _ _ _ _) p.fTraits
 have h2 := fm_le (f := feD w i) (fun x => feA_le _ _ _ _) p.fDataTypes
 have h3 := fm_le (f := feI w i) (fun x => feA_le _ _ _ _) p.fInstances
 have h4 := fm_le (f := feF w i) (fun x => feA_le _ _ _ _) p.fFunctions
 have h5 := p.sz_eq
 unfold szs at h5
 unfold feP fa; simp only [List.length_append]; omega
theorem feK_le (w : TProgram) : ∀ k, k ≤ w.fPackages.length → (feK w k).length ≤ szL TPackage.sz (w.fPackages.take k)
 | 0, _ => Nat.zero_le _
 | k + 1, h => by
  have h1 := feK_le w k (by omega)
  have hk : k < w.fPackages.length := by omega
  rw [feK_nx, pkE_at hk, List.length_append, List.take_succ_eq_append_getElem hk, szL_app0]
  have h2 := feP_le w k w.fPackages[k]
  simp only [szL]; omega
theorem feK_sz (w : TProgram) {k : Nat} (h : k ≤ w.fPackages.length) : (feK w k).length ≤ w.sz := by
 have h1 := feK_le w k h
 have h2 := szL_take TPackage.sz w.fPackages k
 have h3 := w.sz_eq
 unfold szs at h3
 omega
theorem feK_pk {w : TProgram} {k : Nat} (h : k < w.fPackages.length) : (feK w k).length + (pkE w k).length ≤ w.sz := by
 have := feK_sz w (k := k + 1) h
 rw [feK_nx, List.length_append] at this; exact this
/-- the codes of declarations, part by part -/
def suF (w : TProgram) (V : List Nat) (s : ByteArray) : Int := if trV w V s then (if (trR w s).1.fAuto then 7 else 0) else 3
def sgF (w : TProgram) (V : List Nat) (g : TSignature) : Int := or0 (fc (ckT w V) g.fParams) (or0 (ckT w V g.fResult) (if g.fHasDefault then ckE w V g.fBody else 0))
def paF (w : TProgram) (V : List Nat) (p : TParam) : Int := ckT w V p.fType
def meF (w : TProgram) (V : List Nat) (m : TMethod) : Int := ckE w V m.fBody
def amF (w : TProgram) (V : List Nat) (a : TArm) : Int := ckE w V a.fBody
theorem ckTrait_eq (w : TProgram) (V : List Nat) (t : TTrait) : ckTrait w V t = or0 (fc (suF w V) t.fSupertraits) (fc (sgF w V) t.fSignatures) := rfl
theorem ckFn_eq (w : TProgram) (V : List Nat) (f : TFunction) : ckFn w V f = or0 (fc (ckB w V) f.fWhere) (or0 (fc (paF w V) f.fParams) (or0 (ckT w V f.fResult) (ckE w V f.fBody))) := rfl
theorem ckInst_eq (w : TProgram) (V : List Nat) (x : TInstance) : ckInst w V x =
 if trV w V x.fTrait then (if (trR w x.fTrait).1.fAuto then 7 else
  or0 (ckT w V x.fHead) (or0 (fc (ckB w V) x.fWhere) (or0 (if x.fHasAssoc = (trR w x.fTrait).1.fAssoc then (if x.fHasAssoc then ckT w V x.fAssoc else 0) else 4) (or0 (if methsOk (trR w x.fTrait).1 x then 0 else 6) (fc (meF w V) x.fMethods))))) else 3 := rfl
theorem ckE_eq2 (w : TProgram) (V : List Nat) (e : TExpr) : ckE w V e = or0 (xHere w V e) (or0 (fc (ckE w V) e.fArgs) (fc (amF w V) e.fArms)) := by
 rw [ckE_eq]; unfold or0 amF; by_cases h : xHere w V e = 0 <;> simp [h]
theorem or0_as (a b c : Int) : or0 (or0 a b) c = or0 a (or0 b c) := by unfold or0; by_cases h : a = 0 <;> simp [h]
theorem or0_z (a : Int) : or0 a 0 = a := by unfold or0; by_cases h : a = 0 <;> simp [h]
theorem or0_0 (a : Int) : or0 0 a = a := by simp [or0]
theorem or0_ne {a b : Int} (h : ¬ a = 0) : or0 a b = a := by simp [or0, h]
/-- what is needed of an expression, with its first arm -/
theorem xHere_eq (w : TProgram) (V : List Nat) (e : TExpr) : xHere w V e =
 if e.fKind = 4 then (if fnV w V e.fName && decide ((fnR w e.fName).1.fParams.length = e.fArgs.length) then (0 : Int) else 9)
 else if e.fKind = 5 then (if trV w V e.fTrait then (if (siR (trR w e.fTrait).1 e.fName).2.2 && decide ((siR (trR w e.fTrait).1 e.fName).1.fParams.length + 1 = e.fArgs.length) then (0 : Int) else 6) else 3)
 else if e.fKind = 6 then (if ctV w V e.fName then (if (((ctR w e.fName).1.fConstructors[(ctR w e.fName).2.1]?).map fun c => c.fFields.length) = some e.fArgs.length then (0 : Int) else 2) else 1)
 else if e.fKind = 7 then (if h : 0 < e.fArms.length then (if ctV w V e.fArms[0].fConstructor then (if fitA (ctR w e.fArms[0].fConstructor).1 e.fArms then (0 : Int) else 2) else 1) else 1 : Int)
 else if e.fKind = 11 then ckD w V e.fTrait
 else if e.fKind = 12 then ckT w V e.fType
 else 0 := by
 unfold xHere
 have : (match e.fArms with
  | [] => (1 : Int)
  | a :: _ => if ctV w V a.fConstructor then (if fitA (ctR w a.fConstructor).1 e.fArms then 0 else 2) else 1) = if h : 0 < e.fArms.length then (if ctV w V e.fArms[0].fConstructor then (if fitA (ctR w e.fArms[0].fConstructor).1 e.fArms then 0 else 2) else 1) else 1 := by
  cases e.fArms <;> simp
 rw [← this]; rfl
theorem ctR_lt {w : TProgram} {s : ByteArray} (h : (ctR w s).2.2 = true) : (ctR w s).2.1 < (ctR w s).1.fConstructors.length := by
 unfold ctR at h ⊢
 cases hq : fs (ctH s) 0 w.fPackages with
 | none => rw [hq] at h; simp [getR] at h
 | some x =>
  obtain ⟨p, hp, j, h1⟩ := fs_mem hq
  obtain ⟨d, hd, k, h2⟩ := fs_mem h1
  obtain ⟨n, hn, h3, -⟩ := fs_some h2
  unfold ctF at h3
  split at h3
  ·cases h3; simpa [getR] using hn
  ·cases h3
theorem ctV_lt {w : TProgram} {V : List Nat} {s : ByteArray} (h : ctV w V s = true) : (ctR w s).2.1 < (ctR w s).1.fConstructors.length := by
 unfold ctV at h; simp only [Bool.and_eq_true] at h; exact ctR_lt h.1
theorem szXs_get {l : List TExpr} {k : Nat} (h : k < l.length) : szX l[k] ≤ szXs l := by
 induction l generalizing k with
 | nil => simp at h
 | cons x l ih =>
  cases k with
  | zero => simp [szXs]
  | succ k => have := ih (k := k) (by simpa using h); simp only [szXs, List.getElem_cons_succ]; omega
theorem szXr_get {l : List TArm} {k : Nat} (h : k < l.length) : szX l[k].fBody ≤ szXr l := by
 induction l generalizing k with
 | nil => simp at h
 | cons x l ih =>
  cases k with
  | zero => obtain ⟨a, b, c⟩ := x; simp [szXr, szXa]
  | succ k => have := ih (k := k) (by simpa using h); simp only [szXr, List.getElem_cons_succ]; omega
theorem szX_get {x : TExpr} {k : Nat} (h : k < x.fArgs.length) : szX x.fArgs[k] < szX x := by
 obtain ⟨a, b, c, d, e, f, g⟩ := x
 have := szXs_get h; simp only [szX] at this ⊢; omega
theorem szX_arm {x : TExpr} {k : Nat} (h : k < x.fArms.length) : szX x.fArms[k].fBody < szX x := by
 obtain ⟨a, b, c, d, e, f, g⟩ := x
 have := szXr_get h; simp only [szX] at this ⊢; omega
/-- names, in order -/
def nmL {α : Type} (f : α → ByteArray) (l : List α) : List ByteArray := l.map f
theorem nmL_len {α : Type} (f : α → ByteArray) (l : List α) : (nmL f l).length = l.length := List.length_map ..
/-- dependencies, as the loops find them -/
def dpF (w : TProgram) (i : Nat) (p : TPackage) : Bool := pkgOk p && depG w i p
def dpD (w : TProgram) (i : Nat) (d : ByteArray) : Bool := within (pIx w d) 0 ((i : Int) - 1)
theorem depsB_eq (w : TProgram) : depsB pkgOk w = ((fs (bad (dpF w)) 0 w.fPackages).isNone && decide (w.fPackages.length ≤ 5)) := rfl
theorem dpF_eq (w : TProgram) (i : Nat) (p : TPackage) : dpF w i p = (pkgOk p && (decide (pIx w p.fName = (i : Int)) && p.fDeps.all (dpD w i))) := rfl
def dpI (w : TProgram) (i : Nat) (p : TPackage) : Bool := pkgOk p && depI w i p
theorem depsJ_eq (w : TProgram) : depsJ pkgOk w = ((fs (bad (dpI w)) 0 w.fPackages).isNone && (decide (w.fPackages.length ≤ 5) && dst (nmL TPackage.fName w.fPackages))) := rfl
theorem isNone_none {α : Type} : (none : Option α).isNone = true := rfl
theorem isNone_some {α : Type} (x : α) : (some x).isNone = false := rfl
end Go.Proofs.YtdooklofebdknaaGreat
