/- Walks by the Den rules. No condition but sizes. -/
import Derived.Test.YtkadbimpaplnmaaGreatDoorM16
import Derived.Test.YtkadbimpaplnmaaGreatDoorM35
import Derived.Test.YtkadbimpaplnmaaGreatDoorM40
namespace Go.Proofs.YtkadbimpaplnmaaGreatDoor
open Go.RowKit
set_option maxRecDepth 10000
set_option linter.unusedSimpArgs false
set_option maxHeartbeats 4000000
theorem words_eq (l : List ByteArray) (n : Int) : words l n = (decide ((l.length : Int) ≤ n) && nms l && dst l) := rfl
theorem nms_all {α : Type} {l : List α} {f : α → ByteArray} (h : ∀ y ∈ l, isNm (f y) = true) : nms (l.map f) = true := by
 unfold nms
 simp [List.any_map]
 intro y hy; exact h y hy
theorem not_any {α : Type} {l : List α} {p : α → Bool} (h : (l.any fun y => !p y) = false) : ∀ y ∈ l, p y = true := by
 simpa using h
theorem sig_nm {g : TSignature} (h : sigOk g = true) : isNm g.fName = true := by
 unfold sigOk at h
 simp only [Bool.and_eq_true] at h
 exact h.1.1.1.1
theorem mth_eq (m : TMethod) : mthBad m = (decide (m.fVars = []) || !decide ((m.fVars.length : Int) ≤ 5) || !(nms m.fVars && dst m.fVars && body m.fBody m.fVars)) := by
 unfold mthBad words
 cases decide (m.fVars = []) <;> cases decide ((m.fVars.length : Int) ≤ 5) <;> cases nms m.fVars <;> cases dst m.fVars <;> cases body m.fBody m.fVars <;> rfl
theorem hasS_mem {l : List ByteArray} {s : ByteArray} : hasS l s = true ↔ s ∈ l := by unfold hasS; simp
mutual
theorem occ_tvs (v : ByteArray) : ∀ (x : TType) (o : List ByteArray), v ∈ tvs x o ↔ v ∈ o ∨ 0 < occ v x
 | ⟨k, n, l⟩, o => by
  have h1 := occ_tvss v l (tvS o k n)
  have h2 : v ∈ tvS o k n ↔ v ∈ o ∨ (k = 1 ∧ n = v) := by
   unfold tvS
   split
   ·rename_i h
    simp only [List.mem_append, List.mem_singleton]
    constructor
    ·rintro (q | q)
     ·exact .inl q
     ·exact .inr ⟨h.1, q.symm⟩
    ·rintro (q | q)
     ·exact .inl q
     ·exact .inr q.2.symm
   ·rename_i h
    constructor
    ·exact .inl
    ·rintro (q | ⟨q1, q2⟩)
     ·exact q
     ·subst q2
      have : ¬ ¬ (hasS o n = true) := fun q => h ⟨q1, q⟩
      exact hasS_mem.1 (Classical.not_not.1 this)
  rw [tvs, h1, h2]
  simp only [occ]
  by_cases hq : k = 1 ∧ n = v
  ·simp [hq]; exact .inr (by omega)
  ·simp [hq]
theorem occ_tvss (v : ByteArray) : ∀ (l : List TType) (o : List ByteArray), v ∈ tvss l o ↔ v ∈ o ∨ 0 < occs v l
 | [], o => by simp [tvss, occs]
 | x :: l, o => by
  rw [tvss, occ_tvss v l, occ_tvs v x]
  simp only [occs]
  constructor
  ·rintro ((q | q) | q)
   ·exact .inl q
   ·exact .inr (by omega)
   ·exact .inr (by omega)
  ·rintro (q | q)
   ·exact .inl (.inl q)
   ·by_cases h : 0 < occ v x
    ·exact .inl (.inr h)
    ·exact .inr (by omega)
end
theorem sub_occ (l : List ByteArray) (x : TType) : sub l (tv x) = !(l.any fun v => !decide (0 < occ v x)) := by
 unfold sub
 congr 1
 congr 1
 funext v
 have h := occ_tvs v x []
 simp only [List.not_mem_nil, false_or] at h
 unfold tv
 by_cases hq : 0 < occ v x
 ·rw [hasS_mem.2 (h.2 hq)]; simp [hq]
 ·have : ¬ hasS (tvs x []) v = true := fun q => hq (h.1 (hasS_mem.1 q))
  simp [hq]; simpa using this
theorem fn_any (x : TFunction) : overs (x.fParams.map TParam.fType) x.fVars = !(x.fParams.any fun p => !tOver p.fType x.fVars) := by
 unfold overs; rw [List.any_map]; rfl
theorem tForm_kind {x : TType} (h : tForm x = true) : x.fKind = 1 ∨ x.fKind = 2 ∨ x.fKind = 3 ∨ x.fKind = 4 := by
 cases x with
 | mk k n l =>
  simp only [tForm, Bool.and_eq_true] at h
  have h1 := h.1
  unfold hdOk at h1
  show k = 1 ∨ k = 2 ∨ k = 3 ∨ k = 4
  repeat' split at h1
  all_goals first | omega | simp at h1
theorem head_k {x : TType} {v : List ByteArray} (h : tOver x v = true) (hp : hasPj x = false) : (decide (x.fKind = 2) || decide (x.fKind = 1)) = !decide (x.fKind = 4) := by
 have h1 := tOver_form h
 have h3 : ¬ x.fKind = 3 := fun q => by rw [hasPj_eq] at hp; simp [q] at hp
 have h2 : x.fKind = 1 ∨ x.fKind = 2 ∨ x.fKind = 3 ∨ x.fKind = 4 := tForm_kind h1
 rcases h2 with q | q | q | q
 ·simp [q]
 ·simp [q]
 ·exact absurd q h3
 ·simp [q]
theorem iSig_d (x : TSignature) (hz : x.sz ≤ 134217728) (h : HP) : CS cx.P 162 [.d (x.dd false)] h (.d (.lf (.bool (sigOk x)))) h := by
 have hz2 := x.sz_eq; unfold szs at hz2
 have hvs : ∀ s ∈ x.fVars, s.size ≤ 134217728 := fun s hs => by have := szL_le ByteArray.size hs; omega
 have hps : ∀ y ∈ x.fParams, y.sz ≤ 134217728 := fun y hy => by have := szL_le TType.sz hy; omega
 have hw := i64w (n := (x.fParams.length : Int) + 1) (by omega) (by omega)
 refine Ze Tryz.func162 rfl 53 ?_
 apply Zr; intros
 iterate 2 (refine Zo ?_ (by simp [selfL, hw] <;> omega); simp [selfL, hw])
 exact Zx
 refine W.seq ?_
 refine W.seq ?_
 refine W.regJ (D := _) [1] [1] [(26, .d (.lf (.bool (!(isNm x.fName && decide (x.fParams.length ≤ 4) && overs x.fParams selfL && tOver x.fResult selfL)))))] [] rfl (fun _ K hD hK => ?_) fun T hT => ?_
 iterate 2 (refine Zo ?_ (by simp [selfL, hw] <;> omega); simp [selfL, hw])
 refine Zl [] rfl Tryz.func101 (iName_d x.fName (by omega) _) ?_ (by simp [selfL, hw]); simp [selfL, hw]
 iterate 2 (refine Zo ?_ (by simp [selfL, hw] <;> omega); simp [selfL, hw])
 refine WL.split 7 _ rfl (fun g7 => ?_) fun g7 => ?_ <;> try simp at g7
 simp [selfL, hw]
 iterate 4 (refine Zn hD rfl rfl ?_; simp [selfL, hw])
 iterate 2 (refine Zo ?_ (by simp [selfL, hw] <;> omega); simp [selfL, hw])
 iterate 5 (refine Zn hD rfl rfl ?_; simp [selfL, hw])
 iterate 2 (refine Zo ?_ (by simp [selfL, hw] <;> omega); simp [selfL, hw])
 iterate 5 (refine Zn hD rfl rfl ?_; simp [selfL, hw])
 refine Zo ?_ (by simp [selfL, hw] <;> omega); simp [selfL, hw]
 refine WL.nil (hK _ (Wz.to rfl rfl rfl ?_))
 simp [selfL, g7] <;> first | grind | omega
 simp [selfL, hw]
 iterate 4 (refine Zg hD rfl rfl ?_ (by simp [selfL, hw] <;> omega); simp [selfL, hw])
 iterate 2 (refine Zo ?_ (by simp [selfL, hw] <;> omega); simp [selfL, hw])
 refine WL.split 13 _ rfl (fun g13 => ?_) fun g13 => ?_ <;> try simp at g13
 simp [selfL, hw]
 iterate 5 (refine Zn hD rfl rfl ?_; simp [selfL, hw])
 iterate 2 (refine Zo ?_ (by simp [selfL, hw] <;> omega); simp [selfL, hw])
 iterate 5 (refine Zn hD rfl rfl ?_; simp [selfL, hw])
 refine Zo ?_ (by simp [selfL, hw] <;> omega); simp [selfL, hw]
 refine WL.nil (hK _ (Wz.to rfl rfl rfl ?_))
 simp [selfL, g7, g13] <;> first | grind | omega
 simp [selfL, hw]
 iterate 3 (refine Zg hD rfl rfl ?_ (by simp [selfL, hw] <;> omega); simp [selfL, hw])
 refine Zk hD rfl rfl [] rfl Tryz.func163 (iOvers_d x.fParams selfL (by decide) (by omega) hps _) ?_ (by simp [selfL, hw]); simp [selfL, hw]
 refine Zg hD rfl rfl ?_ (by simp [selfL, hw] <;> omega); simp [selfL, hw]
 iterate 2 (refine Zo ?_ (by simp [selfL, hw] <;> omega); simp [selfL, hw])
 refine WL.split 20 _ rfl (fun g20 => ?_) fun g20 => ?_ <;> try simp at g20
 simp [selfL, hw]
 iterate 5 (refine Zn hD rfl rfl ?_; simp [selfL, hw])
 refine Zo ?_ (by simp [selfL, hw] <;> omega); simp [selfL, hw]
 refine WL.nil (hK _ (Wz.to rfl rfl rfl ?_))
 simp [selfL, g7, g13, g20] <;> first | grind | omega
 simp [selfL, hw]
 iterate 3 (refine Zg hD rfl rfl ?_ (by simp [selfL, hw] <;> omega); simp [selfL, hw])
 refine Zk hD rfl rfl [] rfl Tryz.func164 (iOver_d x.fResult selfL (by decide) (by omega) _) ?_ (by simp [selfL, hw]); simp [selfL, hw]
 refine Zg hD rfl rfl ?_ (by simp [selfL, hw] <;> omega); simp [selfL, hw]
 refine Zo ?_ (by simp [selfL, hw] <;> omega); simp [selfL, hw]
 refine WL.nil (hK _ (Wz.to rfl rfl rfl ?_))
 simp [selfL, g7, g13, g20] <;> first | grind | omega
 simp at hT; subst hT
 refine Zc rfl ?_ ?_ <;> intro hb0 <;> try simp at hb0
 have hres : sigOk x = false := by simp only [sigOk]; grind
 apply Zr; intros
 refine Zo ?_ (by simp [selfL, hw] <;> omega); simp [selfL, hw]
 exact Zx
 refine W.ret (Zq ?_)
 simp [Tryz.f162, hres, words, hb0] <;> first | omega | grind
 have h1 : (isNm x.fName && decide (x.fParams.length ≤ 4) && overs x.fParams selfL && tOver x.fResult selfL) = true := by simpa [selfL] using hb0
 have h4 : x.fParams.length ≤ 4 := by simp at h1; omega
 have hres : sigOk x = (if x.fHasDefault = true then words x.fVars 5 && decide (x.fVars.length = x.fParams.length + 1) && body x.fBody x.fVars else decide (x.fVars = []) && isZX x.fBody) := by unfold sigOk; rw [h1, Bool.true_and]
 refine W.skip ?_
 refine W.seq ?_
 apply Zr; intros
 iterate 2 (refine Zo ?_ (by simp [selfL, hw] <;> omega); simp [selfL, hw])
 exact Zx
 refine Zc rfl ?_ ?_ <;> intro hb1 <;> try simp at hb1
 refine W.seq ?_
 refine W.regJ0 (D := _) rfl fun _ K hD hK => ?_
 iterate 9 (refine Zo ?_ (by simp [selfL, hw] <;> omega); simp [selfL, hw])
 refine WL.split 37 _ rfl (fun g37 => ?_) fun g37 => ?_ <;> try simp at g37
 simp [selfL, hw]
 iterate 4 (refine Zg hD rfl rfl ?_ (by simp [selfL, hw] <;> omega); simp [selfL, hw])
 refine Zk hD rfl rfl [] rfl Tryz.func170 (iBody_d x.fVars (by omega) hvs x.fBody (by omega) _) ?_ (by simp [selfL, hw]); simp [selfL, hw]
 iterate 2 (refine Zo ?_ (by simp [selfL, hw] <;> omega); simp [selfL, hw])
 refine WL.nil (hK _ ?_)
 refine W.ret (Zq ?_)
 simp [Tryz.f162, hres, words, hb0, hb1, g37] <;> first | omega | grind
 simp [selfL, hw]
 iterate 5 (refine Zn hD rfl rfl ?_; simp [selfL, hw])
 iterate 2 (refine Zo ?_ (by simp [selfL, hw] <;> omega); simp [selfL, hw])
 refine WL.nil (hK _ ?_)
 refine W.ret (Zq ?_)
 simp [Tryz.f162, hres, words, hb0, hb1, g37] <;> first | omega | grind
 refine W.skip ?_
 refine W.seq ?_
 refine W.regJ0 (D := _) rfl fun _ K hD hK => ?_
 iterate 5 (refine Zo ?_ (by simp [selfL, hw] <;> omega); simp [selfL, hw])
 refine WL.split 48 _ rfl (fun g48 => ?_) fun g48 => ?_ <;> try simp at g48
 simp [selfL, hw]
 iterate 2 (refine Zg hD rfl rfl ?_ (by simp [selfL, hw] <;> omega); simp [selfL, hw])
 refine Zk hD rfl rfl [] rfl Tryz.func216 (iZX_d x.fBody _) ?_ (by simp [selfL, hw]); simp [selfL, hw]
 iterate 2 (refine Zo ?_ (by simp [selfL, hw] <;> omega); simp [selfL, hw])
 refine WL.nil (hK _ ?_)
 refine W.ret (Zq ?_)
 simp [Tryz.f162, hres, words, hb0, hb1, g48] <;> first | omega | grind
 simp [selfL, hw]
 iterate 3 (refine Zn hD rfl rfl ?_; simp [selfL, hw])
 iterate 2 (refine Zo ?_ (by simp [selfL, hw] <;> omega); simp [selfL, hw])
 refine WL.nil (hK _ ?_)
 refine W.ret (Zq ?_)
 simp [Tryz.f162, hres, words, hb0, hb1, g48] <;> first | omega | grind
theorem iTrait_d (x : TTrait) (hz : x.sz ≤ 134217728) (h : HP) : CS cx.P 105 [.d (x.dd false)] h (.d (.lf (.bool (traitOk x)))) h := by
 have hz2 := x.sz_eq; unfold szs at hz2
 have hvs : ∀ s ∈ x.fSupertraits, s.size ≤ 134217728 := fun s hs => by have := szL_le ByteArray.size hs; omega
 have hns : ∀ k, ∀ s ∈ nmsK x.fSignatures TSignature.fName k, s.size ≤ 134217728 := fun k s hs => by obtain ⟨y, hy, rfl⟩ := nmsK_mem hs; have := szL_le TSignature.sz hy; have := y.sz_eq; omega
 refine Ze Tryz.func105 rfl 65 ?_
 apply Zr; intros
 iterate 2 (refine Zo ?_; simp)
 exact Zx
 refine W.seq ?_
 refine W.seq ?_
 refine W.regJ (D := _) [1] [1] [(27, .d (.lf (.bool (!(isNm x.fName && words x.fSupertraits 4 && decide (x.fSignatures.length ≤ 6))))))] [] rfl (fun _ K hD hK => ?_) fun T hT => ?_
 iterate 2 (refine Zo ?_; simp)
 refine Zl [] rfl Tryz.func101 (iName_d x.fName (by omega) _) ?_; simp
 iterate 2 (refine Zo ?_; simp)
 refine WL.split 10 _ rfl (fun g10 => ?_) fun g10 => ?_ <;> try simp at g10
 simp
 iterate 4 (refine Zn hD rfl rfl ?_; simp)
 iterate 2 (refine Zo ?_; simp)
 iterate 4 (refine Zn hD rfl rfl ?_; simp)
 iterate 2 (refine Zo ?_; simp)
 iterate 4 (refine Zn hD rfl rfl ?_; simp)
 refine Zo ?_; simp
 refine WL.nil (hK _ (Wz.to rfl rfl rfl ?_))
 simp [words, g10] <;> first | omega | grind
 simp
 iterate 4 (refine Zg hD rfl rfl ?_; simp)
 iterate 2 (refine Zo ?_; simp)
 refine WL.split 16 _ rfl (fun g16 => ?_) fun g16 => ?_ <;> try simp at g16
 simp
 iterate 4 (refine Zn hD rfl rfl ?_; simp)
 iterate 2 (refine Zo ?_; simp)
 iterate 4 (refine Zn hD rfl rfl ?_; simp)
 refine Zo ?_; simp
 refine WL.nil (hK _ (Wz.to rfl rfl rfl ?_))
 simp [words, g10, g16] <;> first | omega | grind
 simp
 iterate 2 (refine Zg hD rfl rfl ?_; simp)
 refine Zk hD rfl rfl [] rfl Tryz.func102 (areNames_d x.fSupertraits hvs (by omega) _) ?_; simp
 refine Zg hD rfl rfl ?_; simp
 iterate 2 (refine Zo ?_; simp)
 refine WL.split 22 _ rfl (fun g22 => ?_) fun g22 => ?_ <;> try simp at g22
 simp
 iterate 4 (refine Zn hD rfl rfl ?_; simp)
 refine Zo ?_; simp
 refine WL.nil (hK _ (Wz.to rfl rfl rfl ?_))
 simp [words, g10, g16, g22] <;> first | omega | grind
 simp
 iterate 4 (refine Zg hD rfl rfl ?_; simp)
 refine Zo ?_; simp
 refine WL.nil (hK _ (Wz.to rfl rfl rfl ?_))
 simp [words, g10, g16, g22] <;> first | omega | grind
 simp at hT; subst hT
 refine Zc rfl ?_ ?_ <;> intro hb0 <;> try simp at hb0
 have hres : traitOk x = false := by have q := hb0; simp [traitOk, words] at q ⊢; grind
 apply Zr; intros
 refine Zo ?_; simp
 exact Zx
 refine W.ret (Zq ?_)
 simp [Tryz.f105, hres]
 have h1 : (isNm x.fName && words x.fSupertraits 4 && decide (x.fSignatures.length ≤ 6)) = true := by simpa using hb0
 refine W.skip ?_
 refine W.seq ?_
 refine W.seq ?_
 refine W.regJ (D := _) [1] [1] [(45, .d (.lf (.bool (x.fAuto && (x.fAssoc || !decide (x.fSignatures = []) || !decide (x.fSupertraits = []))))))] [] rfl (fun _ K hD hK => ?_) fun T hT => ?_
 iterate 3 (refine Zo ?_; simp)
 refine WL.split 30 _ rfl (fun g30 => ?_) fun g30 => ?_ <;> try simp at g30
 simp
 iterate 3 (refine Zg hD rfl rfl ?_; simp)
 refine WL.split 33 _ rfl (fun g33 => ?_) fun g33 => ?_ <;> try simp at g33
 simp
 iterate 4 (refine Zn hD rfl rfl ?_; simp)
 iterate 2 (refine Zg hD rfl rfl ?_; simp)
 iterate 4 (refine Zn hD rfl rfl ?_; simp)
 refine Zg hD rfl rfl ?_; simp
 refine Zo ?_; simp
 refine WL.nil (hK _ (Wz.to rfl rfl rfl ?_))
 simp [g30, g33] <;> first | grind | (simp [List.length_pos_iff]; grind)
 simp
 iterate 6 (refine Zg hD rfl rfl ?_; simp)
 refine WL.split 39 _ rfl (fun g39 => ?_) fun g39 => ?_ <;> try simp at g39
 simp
 iterate 4 (refine Zn hD rfl rfl ?_; simp)
 refine Zg hD rfl rfl ?_; simp
 refine Zo ?_; simp
 refine WL.nil (hK _ (Wz.to rfl rfl rfl ?_))
 simp [g30, g33, g39] <;> first | grind | (simp [List.length_pos_iff]; grind)
 simp
 iterate 5 (refine Zg hD rfl rfl ?_; simp)
 refine Zo ?_; simp
 refine WL.nil (hK _ (Wz.to rfl rfl rfl ?_))
 simp [g30, g33, g39] <;> first | grind | (simp [List.length_pos_iff]; grind)
 simp
 iterate 14 (refine Zn hD rfl rfl ?_; simp)
 refine Zo ?_; simp
 refine WL.nil (hK _ (Wz.to rfl rfl rfl ?_))
 simp [g30] <;> first | grind | (simp [List.length_pos_iff]; grind)
 simp at hT; subst hT
 refine Zc rfl ?_ ?_ <;> intro hb1 <;> try simp at hb1
 have hq : (x.fAuto && (x.fAssoc || !decide (x.fSignatures = []) || !decide (x.fSupertraits = []))) = true := by simpa using hb1
 have hres : traitOk x = false := by unfold traitOk; rw [hq]; simp
 apply Zr; intros
 refine Zo ?_; simp
 exact Zx
 refine W.ret (Zq ?_)
 simp [Tryz.f105, hres]
 have hq : (x.fAuto && (x.fAssoc || !decide (x.fSignatures = []) || !decide (x.fSupertraits = []))) = false := by simpa using hb1
 refine W.skip ?_
 apply Zr; intros
 iterate 2 (refine Zo ?_; simp)
 exact Zx
 refine W.seq ?_
 apply Zr; intros
 iterate 4 (refine Zo ?_; simp)
 exact Zx
 refine W.block ?_
 refine W.loopI [48, 49] [] (fun k0 => [(50, .d (.lf (.int .i64 (k0 : Int)))), (3, .d (.sl true .one ((nmsK x.fSignatures TSignature.fName k0).map dS)))]) (fun _ => []) x.fSignatures.length (fun k0 => ∀ j, j < k0 → ∀ y, x.fSignatures[j]? = some y → (fun g => !sigOk g) y = false) rfl (by simp [nmsK_zero]) (by simp) fun k0 hk0 hi0 T hT => ?_
 simp at hT; subst hT
 have hl0 := nmsK_len TSignature.fName hk0
 apply Zr; intros
 refine Zo ?_ (by simp [hl0] <;> omega); simp [hl0]
 exact Zx
 refine Zv rfl ?_ ?_ <;> intro hb2 <;> try simp at hb2
 have hx := ixNext hb2 (by omega)
 have hy := szL_le TSignature.sz (gm hb2)
 have hy2 := x.fSignatures[k0].sz_eq; unfold szs at hy2
 refine W.skip ?_
 refine Zb ?_
 apply Zr; intros
 refine Zo ?_ (by simp [hl0, hb2, hx] <;> omega); simp [hl0, hb2, hx]
 refine Zm [53] ?_ (by simp [hl0, hb2, hx] <;> omega); simp [hl0, hb2, hx]
 iterate 2 (refine Zo ?_ (by simp [hl0, hb2, hx] <;> omega); simp [hl0, hb2, hx])
 exact Zx
 refine W.seq ?_
 apply Zr; intros
 refine Zo ?_ (by simp [hl0, hb2, hx] <;> omega); simp [hl0, hb2, hx]
 refine Zl [] rfl Tryz.func162 (iSig_d x.fSignatures[k0] (by omega) _) ?_ (by simp [hl0, hb2, hx]); simp [hl0, hb2, hx]
 refine Zo ?_ (by simp [hl0, hb2, hx] <;> omega); simp [hl0, hb2, hx]
 exact Zx
 refine Zc rfl ?_ ?_ <;> intro hb3 <;> try simp at hb3
 have hres : traitOk x = false := by unfold traitOk; rw [anyP_yes (p := fun g => !sigOk g) hb2 (by simpa using hb3)]; simp
 apply Zr; intros
 refine Zo ?_ (by simp [hl0, hb2, hx] <;> omega); simp [hl0, hb2, hx]
 exact Zx
 refine W.ret (Zq ?_)
 simp [Tryz.f105, hres]
 refine W.skip ?_
 apply Zs; intros
 refine Zm [57] ?_ (by simp [hl0, hb2, hx] <;> omega); simp [hl0, hb2, hx]
 iterate 5 (refine Zo ?_ (by simp [hl0, hb2, hx] <;> omega); simp [hl0, hb2, hx])
 exact Zx
 apply Zs; intros
 iterate 2 (refine Zo ?_ (by simp [hl0, hb2, hx] <;> omega); simp [hl0, hb2, hx])
 exact Zx
 refine ⟨hb2, noP_step (p := fun g => !sigOk g) hi0 hb2 (by simpa using hb3), Wz.to rfl rfl rfl ?_⟩
 have hs := nmsK_snoc TSignature.fName hb2
 simp [hs]
 have hkl : k0 = x.fSignatures.length := by omega
 subst hkl
 have hA := anyP_no (p := fun g => !sigOk g) hi0
 have hnn := nms_all fun y hy => sig_nm (not_any hA y hy)
 have hres : traitOk x = dst (nmsK x.fSignatures TSignature.fName x.fSignatures.length) := by unfold traitOk; rw [hA, hq, nmsK_full, words_eq (x.fSignatures.map TSignature.fName), hnn]; simp at h1 ⊢; simp [h1]; intros; omega
 refine W.exit ?_
 apply Zr; intros
 refine Zo ?_ (by simp [hl0] <;> omega); simp [hl0]
 refine Zl [] rfl Tryz.func157 (iDst_d (nmsK x.fSignatures TSignature.fName x.fSignatures.length) (by omega) _) ?_ (by simp [hl0]); simp [hl0]
 refine Zo ?_ (by simp [hl0] <;> omega); simp [hl0]
 exact Zx
 refine W.ret (Zq ?_)
 simp [Tryz.f105, hres]
theorem iData_d (x : TDataType) (hz : x.sz ≤ 134217728) (h : HP) : CS cx.P 106 [.d (x.dd false)] h (.d (.lf (.bool (dataOk x)))) h := by
 have hz2 := x.sz_eq; unfold szs at hz2
 have hvs : ∀ s ∈ x.fVars, s.size ≤ 134217728 := fun s hs => by have := szL_le ByteArray.size hs; omega
 have hns : ∀ k, ∀ s ∈ nmsK x.fConstructors TConstructor.fName k, s.size ≤ 134217728 := fun k s hs => by obtain ⟨y, hy, rfl⟩ := nmsK_mem hs; have := szL_le TConstructor.sz hy; have := y.sz_eq; omega
 have hcn : x.fConstructors = [] ↔ x.fConstructors.length = 0 := List.length_eq_zero_iff.symm
 refine Ze Tryz.func106 rfl 62 ?_
 apply Zr; intros
 iterate 2 (refine Zo ?_; simp)
 exact Zx
 refine W.seq ?_
 refine W.seq ?_
 refine W.regJ (D := _) [1] [1] [(33, .d (.lf (.bool (!(isNm x.fName && words x.fVars 3 && decide (0 < x.fConstructors.length) && decide (x.fConstructors.length ≤ 5))))))] [] rfl (fun _ K hD hK => ?_) fun T hT => ?_
 iterate 2 (refine Zo ?_; simp)
 refine Zl [] rfl Tryz.func101 (iName_d x.fName (by omega) _) ?_; simp
 iterate 2 (refine Zo ?_; simp)
 refine WL.split 10 _ rfl (fun g10 => ?_) fun g10 => ?_ <;> try simp at g10
 simp
 iterate 4 (refine Zn hD rfl rfl ?_; simp)
 iterate 2 (refine Zo ?_; simp)
 iterate 4 (refine Zn hD rfl rfl ?_; simp)
 iterate 2 (refine Zo ?_; simp)
 iterate 4 (refine Zn hD rfl rfl ?_; simp)
 iterate 2 (refine Zo ?_; simp)
 iterate 4 (refine Zn hD rfl rfl ?_; simp)
 refine Zo ?_; simp
 refine WL.nil (hK _ (Wz.to rfl rfl rfl ?_))
 simp [words, g10] <;> first | omega | grind
 simp
 iterate 4 (refine Zg hD rfl rfl ?_; simp)
 iterate 2 (refine Zo ?_; simp)
 refine WL.split 16 _ rfl (fun g16 => ?_) fun g16 => ?_ <;> try simp at g16
 simp
 iterate 4 (refine Zn hD rfl rfl ?_; simp)
 iterate 2 (refine Zo ?_; simp)
 iterate 4 (refine Zn hD rfl rfl ?_; simp)
 iterate 2 (refine Zo ?_; simp)
 iterate 4 (refine Zn hD rfl rfl ?_; simp)
 refine Zo ?_; simp
 refine WL.nil (hK _ (Wz.to rfl rfl rfl ?_))
 simp [words, g10, g16] <;> first | omega | grind
 simp
 iterate 2 (refine Zg hD rfl rfl ?_; simp)
 refine Zk hD rfl rfl [] rfl Tryz.func102 (areNames_d x.fVars hvs (by omega) _) ?_; simp
 refine Zg hD rfl rfl ?_; simp
 iterate 2 (refine Zo ?_; simp)
 refine WL.split 22 _ rfl (fun g22 => ?_) fun g22 => ?_ <;> try simp at g22
 simp
 iterate 4 (refine Zn hD rfl rfl ?_; simp)
 iterate 2 (refine Zo ?_; simp)
 iterate 4 (refine Zn hD rfl rfl ?_; simp)
 refine Zo ?_; simp
 refine WL.nil (hK _ (Wz.to rfl rfl rfl ?_))
 simp [words, g10, g16, g22] <;> first | omega | grind
 simp
 iterate 4 (refine Zg hD rfl rfl ?_; simp)
 iterate 2 (refine Zo ?_; simp)
 refine WL.split 28 _ rfl (fun g28 => ?_) fun g28 => ?_ <;> try simp at g28
 simp
 iterate 4 (refine Zn hD rfl rfl ?_; simp)
 refine Zo ?_; simp
 refine WL.nil (hK _ (Wz.to rfl rfl rfl ?_))
 simp [words, g10, g16, g22, g28] <;> first | omega | grind
 simp
 iterate 4 (refine Zg hD rfl rfl ?_; simp)
 refine Zo ?_; simp
 refine WL.nil (hK _ (Wz.to rfl rfl rfl ?_))
 simp [words, g10, g16, g22, g28] <;> first | omega | grind
 simp at hT; subst hT
 refine Zc rfl ?_ ?_ <;> intro hb0 <;> try simp at hb0
 have hres : dataOk x = false := by have q := hb0; simp [dataOk, words] at q ⊢; grind
 apply Zr; intros
 refine Zo ?_; simp
 exact Zx
 refine W.ret (Zq ?_)
 simp [Tryz.f106, hres]
 have h1 : (isNm x.fName && words x.fVars 3 && decide (0 < x.fConstructors.length) && decide (x.fConstructors.length ≤ 5)) = true := by simpa using hb0
 refine W.skip ?_
 apply Zr; intros
 iterate 2 (refine Zo ?_; simp)
 exact Zx
 refine W.seq ?_
 apply Zr; intros
 iterate 4 (refine Zo ?_; simp)
 exact Zx
 refine W.block ?_
 refine W.loopI [1, 36, 37] [1] (fun k0 => [(38, .d (.lf (.int .i64 (k0 : Int)))), (3, .d (.sl true .one ((nmsK x.fConstructors TConstructor.fName k0).map dS)))]) (fun _ => []) x.fConstructors.length (fun k0 => ∀ j, j < k0 → ∀ y, x.fConstructors[j]? = some y → (fun c => ctBad c x.fVars) y = false) rfl (by simp [nmsK_zero]) (by simp) fun k0 hk0 hi0 T hT => ?_
 simp at hT; subst hT
 have hl0 := nmsK_len TConstructor.fName hk0
 apply Zr; intros
 refine Zo ?_ (by simp [hl0] <;> omega); simp [hl0]
 exact Zx
 refine Zv rfl ?_ ?_ <;> intro hb1 <;> try simp at hb1
 have hx := ixNext hb1 (by omega)
 have hy := szL_le TConstructor.sz (gm hb1)
 have hy2 := x.fConstructors[k0].sz_eq; unfold szs at hy2
 have hfs : ∀ y ∈ x.fConstructors[k0].fFields, y.sz ≤ 134217728 := fun y hy => by have := szL_le TType.sz hy; omega
 refine W.skip ?_
 refine Zb ?_
 apply Zr; intros
 refine Zo ?_ (by simp [hl0, hb1, hx] <;> omega); simp [hl0, hb1, hx]
 refine Zm [41] ?_ (by simp [hl0, hb1, hx] <;> omega); simp [hl0, hb1, hx]
 iterate 2 (refine Zo ?_ (by simp [hl0, hb1, hx] <;> omega); simp [hl0, hb1, hx])
 exact Zx
 refine W.seq ?_
 refine W.seq ?_
 refine W.regJ (D := _) [1, 3, 5, 36, 37, 38] [1, 5] [(53, .d (.lf (.bool (ctBad x.fConstructors[k0] x.fVars))))] [] rfl (fun _ K hD hK => ?_) fun T hT => ?_
 iterate 5 (refine Zo ?_ (by simp [hl0, hb1, hx] <;> omega); simp [hl0, hb1, hx])
 refine WL.split 46 _ rfl (fun g46 => ?_) fun g46 => ?_ <;> try simp at g46
 simp [hl0, hb1, hx]
 iterate 6 (refine Zn hD rfl rfl ?_; simp [hl0, hb1, hx])
 refine Zo ?_ (by simp [hl0, hb1, hx] <;> omega); simp [hl0, hb1, hx]
 refine WL.nil (hK _ (Wz.to rfl rfl rfl ?_))
 simp [ctBad, g46] <;> first | omega | grind
 simp [hl0, hb1, hx]
 iterate 4 (refine Zg hD rfl rfl ?_ (by simp [hl0, hb1, hx] <;> omega); simp [hl0, hb1, hx])
 refine Zk hD rfl rfl [] rfl Tryz.func163 (iOvers_d x.fConstructors[k0].fFields x.fVars (by omega) (by omega) hfs _) ?_ (by simp [hl0, hb1, hx]); simp [hl0, hb1, hx]
 refine Zg hD rfl rfl ?_ (by simp [hl0, hb1, hx] <;> omega); simp [hl0, hb1, hx]
 refine Zo ?_ (by simp [hl0, hb1, hx] <;> omega); simp [hl0, hb1, hx]
 refine WL.nil (hK _ (Wz.to rfl rfl rfl ?_))
 simp [ctBad, g46] <;> first | omega | grind
 simp at hT; subst hT
 refine Zc rfl ?_ ?_ <;> intro hb2 <;> try simp at hb2
 have hres : dataOk x = false := by unfold dataOk; rw [anyP_yes (p := fun c => ctBad c x.fVars) hb1 (by simpa using hb2)]; simp
 apply Zr; intros
 refine Zo ?_ (by simp [hl0, hb1, hx] <;> omega); simp [hl0, hb1, hx]
 exact Zx
 refine W.ret (Zq ?_)
 simp [Tryz.f106, hres]
 refine W.skip ?_
 apply Zs; intros
 refine Zm [54] ?_ (by simp [hl0, hb1, hx] <;> omega); simp [hl0, hb1, hx]
 iterate 5 (refine Zo ?_ (by simp [hl0, hb1, hx] <;> omega); simp [hl0, hb1, hx])
 exact Zx
 apply Zs; intros
 iterate 2 (refine Zo ?_ (by simp [hl0, hb1, hx] <;> omega); simp [hl0, hb1, hx])
 exact Zx
 refine ⟨hb1, noP_step (p := fun c => ctBad c x.fVars) hi0 hb1 (by simpa using hb2), Wz.to rfl rfl rfl ?_⟩
 have hs := nmsK_snoc TConstructor.fName hb1
 simp [hs]
 have hkl : k0 = x.fConstructors.length := by omega
 subst hkl
 have hA := anyP_no (p := fun c => ctBad c x.fVars) hi0
 have h5 : (x.fConstructors.length : Int) ≤ 5 := by simp at h1; omega
 have hres : dataOk x = (dst (nmsK x.fConstructors TConstructor.fName x.fConstructors.length) && nms (nmsK x.fConstructors TConstructor.fName x.fConstructors.length)) := by unfold dataOk; rw [hA, nmsK_full, words_eq (x.fConstructors.map TConstructor.fName), List.length_map, decide_eq_true h5, Bool.true_and, Bool.and_comm (nms _)]; simp at h1 ⊢; simp [h1]
 refine W.exit ?_
 apply Zr; intros
 refine Zo ?_ (by simp [hl0] <;> omega); simp [hl0]
 refine Zl [] rfl Tryz.func102 (areNames_d (nmsK x.fConstructors TConstructor.fName x.fConstructors.length) (hns _) (by omega) _) ?_ (by simp [hl0]); simp [hl0]
 refine Zo ?_ (by simp [hl0] <;> omega); simp [hl0]
 exact Zx
 refine W.ret (Zq ?_)
 simp [Tryz.f106, hres]
end Go.Proofs.YtkadbimpaplnmaaGreatDoor
