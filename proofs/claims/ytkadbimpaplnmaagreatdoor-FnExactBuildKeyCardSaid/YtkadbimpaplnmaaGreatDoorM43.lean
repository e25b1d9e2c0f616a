/- Walks by the Den rules. No condition but sizes. -/
import Derived.Test.YtkadbimpaplnmaaGreatDoorM16
import Derived.Test.YtkadbimpaplnmaaGreatDoorM41
namespace Go.Proofs.YtkadbimpaplnmaaGreatDoor
open Go.RowKit
set_option maxRecDepth 10000
set_option linter.unusedSimpArgs false
set_option maxHeartbeats 4000000
theorem iInst_d (x : TInstance) (hz : x.sz ≤ 134217728) (h : HP) : CS cx.P 107 [.d (x.dd false)] h (.d (.lf (.bool (instOk x)))) h := by
 have hz2 := x.sz_eq; unfold szs at hz2
 have hvs : ∀ s ∈ x.fVars, s.size ≤ 134217728 := fun s hs => by have := szL_le ByteArray.size hs; omega
 have hns : ∀ k, ∀ s ∈ nmsK x.fMethods TMethod.fName k, s.size ≤ 134217728 := fun k s hs => by obtain ⟨y, hy, rfl⟩ := nmsK_mem hs; have := szL_le TMethod.sz hy; have := y.sz_eq; omega
 have hbs : ∀ y ∈ x.fWhere, y.sz ≤ 134217728 := fun y hy => by have := szL_le TBound.sz hy; omega
 have hlen : (tv x.fHead).length ≤ 1 + x.fHead.sz := by have h1 := tvs_len x.fHead []; have h2 := tSize_le x.fHead; unfold tv; simp at h1; omega
 refine Ze Tryz.func107 rfl 123 ?_
 apply Zr; intros
 iterate 2 (refine Zo ?_; simp)
 exact Zx
 refine W.seq ?_
 refine W.seq ?_
 refine W.regJ (D := _) [1] [1] [(34, .d (.lf (.bool (!(isNm x.fTrait && words x.fVars 3 && tOver x.fHead x.fVars && !hasPj x.fHead)))))] [] rfl (fun _ K hD hK => ?_) fun T hT => ?_
 iterate 2 (refine Zo ?_; simp)
 refine Zl [] rfl Tryz.func101 (iName_d x.fTrait (by omega) _) ?_; simp
 iterate 2 (refine Zo ?_; simp)
 refine WL.split 10 _ rfl (fun g10 => ?_) fun g10 => ?_ <;> try simp at g10
 simp
 iterate 4 (refine Zn hD rfl rfl ?_; simp)
 iterate 2 (refine Zo ?_; simp)
 iterate 4 (refine Zn hD rfl rfl ?_; simp)
 iterate 2 (refine Zo ?_; simp)
 iterate 6 (refine Zn hD rfl rfl ?_; simp)
 iterate 2 (refine Zo ?_; simp)
 iterate 3 (refine Zn hD rfl rfl ?_; simp)
 refine Zo ?_; simp
 refine WL.nil (hK _ (Wz.to rfl rfl rfl ?_))
 simp [words, g10] <;> first | omega | grind
 simp
 iterate 4 (refine Zg hD rfl rfl ?_; simp)
 iterate 2 (refine Zo ?_; simp)
 refine WL.split 16 _ rfl (fun g16 => ?_) fun g16 => ?_ <;> try simp at g16
 simp
 iterate 4 (refine Zn hD rfl rfl ?_; simp)
 iterate 2 (refine Zo ?_; simp)
 iterate 6 (refine Zn hD rfl rfl ?_; simp)
 iterate 2 (refine Zo ?_; simp)
 iterate 3 (refine Zn hD rfl rfl ?_; simp)
 refine Zo ?_; simp
 refine WL.nil (hK _ (Wz.to rfl rfl rfl ?_))
 simp [words, g10, g16] <;> first | omega | grind
 simp
 iterate 2 (refine Zg hD rfl rfl ?_; simp)
 refine Zk hD rfl rfl [] rfl Tryz.func102 (areNames_d x.fVars hvs (by omega) _) ?_; simp
 refine Zg hD rfl rfl ?_; simp
 iterate 2 (refine Zo ?_; simp)
 refine WL.split 22 _ rfl (fun g22 => ?_) fun g22 => ?_ <;> try simp at g22
 simp
 iterate 6 (refine Zn hD rfl rfl ?_; simp)
 iterate 2 (refine Zo ?_; simp)
 iterate 3 (refine Zn hD rfl rfl ?_; simp)
 refine Zo ?_; simp
 refine WL.nil (hK _ (Wz.to rfl rfl rfl ?_))
 simp [words, g10, g16, g22] <;> first | omega | grind
 simp
 iterate 4 (refine Zg hD rfl rfl ?_; simp)
 refine Zk hD rfl rfl [] rfl Tryz.func164 (iOver_d x.fHead x.fVars (by omega) (by omega) _) ?_; simp
 refine Zg hD rfl rfl ?_; simp
 iterate 2 (refine Zo ?_; simp)
 refine WL.split 30 _ rfl (fun g30 => ?_) fun g30 => ?_ <;> try simp at g30
 simp
 iterate 3 (refine Zn hD rfl rfl ?_; simp)
 refine Zo ?_; simp
 refine WL.nil (hK _ (Wz.to rfl rfl rfl ?_))
 simp [words, g10, g16, g22, g30] <;> first | omega | grind
 simp
 iterate 2 (refine Zg hD rfl rfl ?_; simp)
 refine Zk hD rfl rfl [] rfl Tryz.func165 (iPj_d x.fHead (by omega) _) ?_; simp
 refine Zo ?_; simp
 refine WL.nil (hK _ (Wz.to rfl rfl rfl ?_))
 simp [words, g10, g16, g22, g30] <;> first | omega | grind
 simp at hT; subst hT
 refine Zc rfl ?_ ?_ <;> intro hb0 <;> try simp at hb0
 have hres : instOk x = false := by have q := hb0; simp [instOk, inst1, words] at q ⊢; grind
 apply Zr; intros
 refine Zo ?_; simp
 exact Zx
 refine W.ret (Zq ?_)
 simp [Tryz.f107, hres]
 have h1 : (isNm x.fTrait && words x.fVars 3 && tOver x.fHead x.fVars && !hasPj x.fHead) = true := by simpa using hb0
 have h2 := h1
 simp only [Bool.and_eq_true, Bool.not_eq_true'] at h2
 have hhk := head_k h2.1.2 h2.2
 have hso := sub_occ x.fVars x.fHead
 refine W.skip ?_
 refine W.seq ?_
 refine W.seq ?_
 refine W.regDJ (D := _) rfl [1] [1] [(61, .d (.lf (.bool (!((decide (x.fHead.fKind = 2) || decide (x.fHead.fKind = 1)) && sub x.fVars (tv x.fHead) && wher x.fWhere x.fVars)))))] [] rfl (fun K hD hK => ?_) fun T hT => ?_
 iterate 5 (refine Yo ?_; simp)
 refine DL.split 39 _ rfl (fun g39 => ?_) fun g39 => ?_ <;> try simp at g39
 simp
 iterate 4 (refine Yg hD rfl rfl ?_; simp)
 iterate 2 (refine Yo ?_; simp)
 refine DL.split 45 _ rfl (fun g45 => ?_) fun g45 => ?_ <;> try simp at g45
 simp
 iterate 7 (refine Yn hD rfl rfl ?_; simp)
 iterate 2 (refine Yo ?_; simp)
 iterate 6 (refine Yn hD rfl rfl ?_; simp)
 refine Yo ?_; simp
 refine DL.nil rfl (hK _ (Wz.to rfl rfl rfl ?_))
 simp [g39, g45] <;> first | omega | grind
 simp
 iterate 4 (refine Yg hD rfl rfl ?_; simp)
 refine Yk hD rfl rfl [] rfl Tryz.func167 (iTv_d x.fHead (by omega)) ?_; simp
 refine Yk hD rfl rfl [] rfl Tryz.func166 (areAmong_d x.fVars (tv x.fHead) (by omega) (by omega)) ?_; simp
 refine Yg hD rfl rfl ?_; simp
 iterate 2 (refine Yo ?_; simp)
 refine DL.split 54 _ rfl (fun g54 => ?_) fun g54 => ?_ <;> try simp at g54
 simp
 iterate 6 (refine Yn hD rfl rfl ?_; simp)
 refine Yo ?_; simp
 refine DL.nil rfl (hK _ (Wz.to rfl rfl rfl ?_))
 simp [g39, g45, g54] <;> first | omega | grind
 simp
 iterate 4 (refine Yg hD rfl rfl ?_; simp)
 refine Yk hD rfl rfl [] rfl Tryz.func168 (iWher_d x.fWhere x.fVars (by omega) (by omega) hbs) ?_; simp
 refine Yg hD rfl rfl ?_; simp
 refine Yo ?_; simp
 refine DL.nil rfl (hK _ (Wz.to rfl rfl rfl ?_))
 simp [g39, g45, g54] <;> first | omega | grind
 simp
 iterate 4 (refine Yn hD rfl rfl ?_; simp)
 iterate 2 (refine Yo ?_; simp)
 iterate 4 (refine Yg hD rfl rfl ?_; simp)
 refine Yk hD rfl rfl [] rfl Tryz.func167 (iTv_d x.fHead (by omega)) ?_; simp
 refine Yk hD rfl rfl [] rfl Tryz.func166 (areAmong_d x.fVars (tv x.fHead) (by omega) (by omega)) ?_; simp
 refine Yg hD rfl rfl ?_; simp
 iterate 2 (refine Yo ?_; simp)
 refine DL.split 54 _ rfl (fun g54 => ?_) fun g54 => ?_ <;> try simp at g54
 simp
 iterate 6 (refine Yn hD rfl rfl ?_; simp)
 refine Yo ?_; simp
 refine DL.nil rfl (hK _ (Wz.to rfl rfl rfl ?_))
 simp [g39, g54] <;> first | omega | grind
 simp
 iterate 4 (refine Yg hD rfl rfl ?_; simp)
 refine Yk hD rfl rfl [] rfl Tryz.func168 (iWher_d x.fWhere x.fVars (by omega) (by omega) hbs) ?_; simp
 refine Yg hD rfl rfl ?_; simp
 refine Yo ?_; simp
 refine DL.nil rfl (hK _ (Wz.to rfl rfl rfl ?_))
 simp [g39, g54] <;> first | omega | grind
 simp at hT; subst hT
 refine Zc rfl ?_ ?_ <;> intro hb1 <;> try simp at hb1
 have q0 : ((decide (x.fHead.fKind = 2) || decide (x.fHead.fKind = 1)) && sub x.fVars (tv x.fHead) && wher x.fWhere x.fVars) = false := by apply Bool.eq_false_iff.2; intro q; simp at q hb1; grind
 rw [hhk, hso] at q0
 have hres : instOk x = false := by unfold instOk inst1; grind
 apply Zr; intros
 refine Zo ?_; simp
 exact Zx
 refine W.ret (Zq ?_)
 simp [Tryz.f107, hres]
 have q1 : ((decide (x.fHead.fKind = 2) || decide (x.fHead.fKind = 1)) && sub x.fVars (tv x.fHead) && wher x.fWhere x.fVars) = true := by simp at hb1 ⊢; grind
 rw [hhk, hso] at q1
 simp only [Bool.and_eq_true] at q1
 have e1 : inst1 x = true := by unfold inst1; simp only [Bool.and_eq_true] at h1 ⊢; exact ⟨⟨h1, q1.1.1⟩, q1.2⟩
 have hany := q1.1.2
 refine W.skip ?_
 refine W.seq ?_
 refine W.seq ?_
 refine W.regJ (D := _) [1] [1] [(88, .d (.lf (.bool (!(inst2 x && decide (x.fMethods.length ≤ 6))))))] [] rfl (fun _ K hD hK => ?_) fun T hT => ?_
 iterate 3 (refine Zo ?_; simp)
 refine WL.split 64 _ rfl (fun g64 => ?_) fun g64 => ?_ <;> try simp at g64
 simp
 iterate 4 (refine Zg hD rfl rfl ?_; simp)
 refine Zk hD rfl rfl [] rfl Tryz.func164 (iOver_d x.fAssoc x.fVars (by omega) (by omega) _) ?_; simp
 refine Zg hD rfl rfl ?_; simp
 iterate 2 (refine Zo ?_; simp)
 refine WL.split 72 _ rfl (fun g72 => ?_) fun g72 => ?_ <;> try simp at g72
 simp
 iterate 9 (refine Zn hD rfl rfl ?_; simp)
 iterate 2 (refine Zo ?_; simp)
 iterate 4 (refine Zn hD rfl rfl ?_; simp)
 refine Zo ?_; simp
 refine WL.nil (hK _ (Wz.to rfl rfl rfl ?_))
 simp [inst2, g64, g72] <;> first | omega | grind
 simp
 iterate 4 (refine Zg hD rfl rfl ?_; simp)
 refine WL.split 76 _ rfl (fun g76 => ?_) fun g76 => ?_ <;> try simp at g76
 simp
 iterate 2 (refine Zg hD rfl rfl ?_; simp)
 refine Zk hD rfl rfl [] rfl Tryz.func169 (iZeroT_d x.fAssoc _) ?_; simp
 iterate 2 (refine Zg hD rfl rfl ?_; simp)
 iterate 2 (refine Zo ?_; simp)
 refine WL.split 83 _ rfl (fun g83 => ?_) fun g83 => ?_ <;> try simp at g83
 simp
 iterate 4 (refine Zn hD rfl rfl ?_; simp)
 refine Zo ?_; simp
 refine WL.nil (hK _ (Wz.to rfl rfl rfl ?_))
 simp [inst2, g64, g72, g76, g83] <;> first | omega | grind
 simp
 iterate 4 (refine Zg hD rfl rfl ?_; simp)
 refine Zo ?_; simp
 refine WL.nil (hK _ (Wz.to rfl rfl rfl ?_))
 simp [inst2, g64, g72, g76, g83] <;> first | omega | grind
 simp
 iterate 4 (refine Zn hD rfl rfl ?_; simp)
 refine Zg hD rfl rfl ?_; simp
 iterate 2 (refine Zo ?_; simp)
 iterate 4 (refine Zg hD rfl rfl ?_; simp)
 refine Zo ?_; simp
 refine WL.nil (hK _ (Wz.to rfl rfl rfl ?_))
 simp [inst2, g64, g72, g76] <;> first | omega | grind
 simp
 iterate 6 (refine Zn hD rfl rfl ?_; simp)
 iterate 2 (refine Zo ?_; simp)
 iterate 4 (refine Zg hD rfl rfl ?_; simp)
 refine WL.split 76 _ rfl (fun g76 => ?_) fun g76 => ?_ <;> try simp at g76
 simp
 iterate 2 (refine Zg hD rfl rfl ?_; simp)
 refine Zk hD rfl rfl [] rfl Tryz.func169 (iZeroT_d x.fAssoc _) ?_; simp
 iterate 2 (refine Zg hD rfl rfl ?_; simp)
 iterate 2 (refine Zo ?_; simp)
 refine WL.split 83 _ rfl (fun g83 => ?_) fun g83 => ?_ <;> try simp at g83
 simp
 iterate 4 (refine Zn hD rfl rfl ?_; simp)
 refine Zo ?_; simp
 refine WL.nil (hK _ (Wz.to rfl rfl rfl ?_))
 simp [inst2, g64, g76, g83] <;> first | omega | grind
 simp
 iterate 4 (refine Zg hD rfl rfl ?_; simp)
 refine Zo ?_; simp
 refine WL.nil (hK _ (Wz.to rfl rfl rfl ?_))
 simp [inst2, g64, g76, g83] <;> first | omega | grind
 simp
 iterate 4 (refine Zn hD rfl rfl ?_; simp)
 refine Zg hD rfl rfl ?_; simp
 iterate 2 (refine Zo ?_; simp)
 iterate 4 (refine Zg hD rfl rfl ?_; simp)
 refine Zo ?_; simp
 refine WL.nil (hK _ (Wz.to rfl rfl rfl ?_))
 simp [inst2, g64, g76] <;> first | omega | grind
 simp at hT; subst hT
 refine Zc rfl ?_ ?_ <;> intro hb2 <;> try simp at hb2
 have hres : instOk x = false := by have q := hb2; simp [instOk, words] at q ⊢; grind
 apply Zr; intros
 refine Zo ?_; simp
 exact Zx
 refine W.ret (Zq ?_)
 simp [Tryz.f107, hres]
 have h4 : (inst2 x && decide (x.fMethods.length ≤ 6)) = true := by simpa using hb2
 refine W.skip ?_
 apply Zr; intros
 iterate 2 (refine Zo ?_; simp)
 exact Zx
 refine W.seq ?_
 apply Zr; intros
 iterate 4 (refine Zo ?_; simp)
 exact Zx
 refine W.block ?_
 refine W.loopI [91, 92] [] (fun k0 => [(93, .d (.lf (.int .i64 (k0 : Int)))), (3, .d (.sl true .one ((nmsK x.fMethods TMethod.fName k0).map dS)))]) (fun _ => []) x.fMethods.length (fun k0 => ∀ j, j < k0 → ∀ y, x.fMethods[j]? = some y → (mthBad) y = false) rfl (by simp [nmsK_zero]) (by simp) fun k0 hk0 hi0 T hT => ?_
 simp at hT; subst hT
 have hl0 := nmsK_len TMethod.fName hk0
 apply Zr; intros
 refine Zo ?_ (by simp [hl0] <;> omega); simp [hl0]
 exact Zx
 refine Zv rfl ?_ ?_ <;> intro hb3 <;> try simp at hb3
 have hx := ixNext hb3 (by omega)
 have hy := szL_le TMethod.sz (gm hb3)
 have hy2 := x.fMethods[k0].sz_eq; unfold szs at hy2
 have hmn : x.fMethods[k0].fVars = [] ↔ x.fMethods[k0].fVars.length = 0 := List.length_eq_zero_iff.symm
 have hmv : ∀ s ∈ x.fMethods[k0].fVars, s.size ≤ 134217728 := fun s hs => by have := szL_le ByteArray.size hs; omega
 refine W.skip ?_
 refine Zb ?_
 apply Zr; intros
 refine Zo ?_ (by simp [hl0, hb3, hx] <;> omega); simp [hl0, hb3, hx]
 refine Zm [96] ?_ (by simp [hl0, hb3, hx] <;> omega); simp [hl0, hb3, hx]
 iterate 2 (refine Zo ?_ (by simp [hl0, hb3, hx] <;> omega); simp [hl0, hb3, hx])
 exact Zx
 refine W.seq ?_
 refine W.seq ?_
 refine W.regJ (D := _) [3, 5, 91, 92, 93] [5] [(114, .d (.lf (.bool (mthBad x.fMethods[k0]))))] [] rfl (fun _ K hD hK => ?_) fun T hT => ?_
 iterate 5 (refine Zo ?_ (by simp [hl0, hb3, hx] <;> omega); simp [hl0, hb3, hx])
 refine WL.split 101 _ rfl (fun g101 => ?_) fun g101 => ?_ <;> try simp at g101
 simp [hl0, hb3, hx]
 iterate 4 (refine Zn hD rfl rfl ?_; simp [hl0, hb3, hx])
 iterate 2 (refine Zo ?_ (by simp [hl0, hb3, hx] <;> omega); simp [hl0, hb3, hx])
 iterate 6 (refine Zn hD rfl rfl ?_; simp [hl0, hb3, hx])
 refine Zo ?_ (by simp [hl0, hb3, hx] <;> omega); simp [hl0, hb3, hx]
 refine WL.nil (hK _ (Wz.to rfl rfl rfl ?_))
 simp [mth_eq, g101] <;> first | omega | grind
 simp [hl0, hb3, hx]
 iterate 4 (refine Zg hD rfl rfl ?_ (by simp [hl0, hb3, hx] <;> omega); simp [hl0, hb3, hx])
 iterate 2 (refine Zo ?_ (by simp [hl0, hb3, hx] <;> omega); simp [hl0, hb3, hx])
 refine WL.split 107 _ rfl (fun g107 => ?_) fun g107 => ?_ <;> try simp at g107
 simp [hl0, hb3, hx]
 iterate 6 (refine Zn hD rfl rfl ?_; simp [hl0, hb3, hx])
 refine Zo ?_ (by simp [hl0, hb3, hx] <;> omega); simp [hl0, hb3, hx]
 refine WL.nil (hK _ (Wz.to rfl rfl rfl ?_))
 simp [mth_eq, g101, g107] <;> first | omega | grind
 simp [hl0, hb3, hx]
 iterate 4 (refine Zg hD rfl rfl ?_ (by simp [hl0, hb3, hx] <;> omega); simp [hl0, hb3, hx])
 refine Zk hD rfl rfl [] rfl Tryz.func170 (iBody_d x.fMethods[k0].fVars (by omega) hmv x.fMethods[k0].fBody (by omega) _) ?_ (by simp [hl0, hb3, hx]); simp [hl0, hb3, hx]
 refine Zg hD rfl rfl ?_ (by simp [hl0, hb3, hx] <;> omega); simp [hl0, hb3, hx]
 refine Zo ?_ (by simp [hl0, hb3, hx] <;> omega); simp [hl0, hb3, hx]
 refine WL.nil (hK _ (Wz.to rfl rfl rfl ?_))
 simp [mth_eq, g101, g107] <;> first | omega | grind
 simp at hT; subst hT
 refine Zc rfl ?_ ?_ <;> intro hb4 <;> try simp at hb4
 have hres : instOk x = false := by unfold instOk; rw [anyP_yes (p := mthBad) hb3 (by simpa using hb4)]; simp
 apply Zr; intros
 refine Zo ?_ (by simp [hl0, hb3, hx] <;> omega); simp [hl0, hb3, hx]
 exact Zx
 refine W.ret (Zq ?_)
 simp [Tryz.f107, hres]
 refine W.skip ?_
 apply Zs; intros
 refine Zm [115] ?_ (by simp [hl0, hb3, hx] <;> omega); simp [hl0, hb3, hx]
 iterate 5 (refine Zo ?_ (by simp [hl0, hb3, hx] <;> omega); simp [hl0, hb3, hx])
 exact Zx
 apply Zs; intros
 iterate 2 (refine Zo ?_ (by simp [hl0, hb3, hx] <;> omega); simp [hl0, hb3, hx])
 exact Zx
 refine ⟨hb3, noP_step (p := mthBad) hi0 hb3 (by simpa using hb4), Wz.to rfl rfl rfl ?_⟩
 have hs := nmsK_snoc TMethod.fName hb3
 simp [hs]
 have hkl : k0 = x.fMethods.length := by omega
 subst hkl
 have hA := anyP_no (p := mthBad) hi0
 simp only [Bool.and_eq_true, decide_eq_true_eq] at h4
 have h5 : (x.fMethods.length : Int) ≤ 6 := by omega
 have hres : instOk x = (dst (nmsK x.fMethods TMethod.fName x.fMethods.length) && nms (nmsK x.fMethods TMethod.fName x.fMethods.length)) := by unfold instOk; rw [e1, hany, h4.1, hA, nmsK_full, words_eq (x.fMethods.map TMethod.fName), List.length_map, decide_eq_true h5]; simp [Bool.and_comm]
 refine W.exit ?_
 apply Zr; intros
 refine Zo ?_ (by simp [hl0] <;> omega); simp [hl0]
 refine Zl [] rfl Tryz.func102 (areNames_d (nmsK x.fMethods TMethod.fName x.fMethods.length) (hns _) (by omega) _) ?_ (by simp [hl0]); simp [hl0]
 refine Zo ?_ (by simp [hl0] <;> omega); simp [hl0]
 exact Zx
 refine W.ret (Zq ?_)
 simp [Tryz.f107, hres]
def pNm (l : List TParam) : List ByteArray := l.map TParam.fName
def pTy (l : List TParam) : List TType := l.map TParam.fType
theorem pNm_eq (l : List TParam) : l.map TParam.fName = pNm l := rfl
theorem pTy_eq (l : List TParam) : l.map TParam.fType = pTy l := rfl
theorem pNm_len (l : List TParam) : (pNm l).length = l.length := by unfold pNm; simp
theorem pTy_len (l : List TParam) : (pTy l).length = l.length := by unfold pTy; simp
theorem pNames_d (l : List TParam) (hl : l.length ≤ 134217728) (h : HP) : CS cx.P 172 [.d (.sl false sh167 (l.map (TParam.dd false)))] h (.d (.sl true .one ((pNm l).map dS))) h := by
 refine Ze Tryz.func172 rfl 20 ?_
 apply Zr; intros
 refine Zo ?_; simp
 exact Zx
 apply Zr; intros
 iterate 2 (refine Zo ?_; simp)
 exact Zx
 refine W.seq ?_
 apply Zr; intros
 iterate 3 (refine Zo ?_; simp)
 exact Zx
 refine W.block ?_
 refine W.loopk [7, 8] [] (fun k0 => [(9, .d (.lf (.int .i64 (k0 : Int)))), (3, .d (.sl true .one ((nmsK l TParam.fName k0).map dS)))]) (fun _ => []) l.length rfl (by simp [nmsK_zero]) fun k0 hk0 T hT => ?_
 simp at hT; subst hT
 have hl0 := nmsK_len TParam.fName hk0
 apply Zr; intros
 refine Zo ?_ (by simp [hl0] <;> omega); simp [hl0]
 exact Zx
 refine Zv rfl ?_ ?_ <;> intro hb0 <;> try simp at hb0
 have hx := ixNext hb0 (by omega)
 refine W.skip ?_
 refine Zb ?_
 apply Zr; intros
 refine Zo ?_ (by simp [hl0, hb0, hx] <;> omega); simp [hl0, hb0, hx]
 refine Zm [12] ?_ (by simp [hl0, hb0, hx] <;> omega); simp [hl0, hb0, hx]
 iterate 2 (refine Zo ?_ (by simp [hl0, hb0, hx] <;> omega); simp [hl0, hb0, hx])
 exact Zx
 apply Zs; intros
 refine Zm [13] ?_ (by simp [hl0, hb0, hx] <;> omega); simp [hl0, hb0, hx]
 iterate 5 (refine Zo ?_ (by simp [hl0, hb0, hx] <;> omega); simp [hl0, hb0, hx])
 exact Zx
 apply Zs; intros
 iterate 2 (refine Zo ?_ (by simp [hl0, hb0, hx] <;> omega); simp [hl0, hb0, hx])
 exact Zx
 refine ⟨hb0, Wz.to rfl rfl rfl ?_⟩
 have hs := nmsK_snoc TParam.fName hb0
 simp [hs]
 have hkl : k0 = l.length := by omega
 subst hkl
 have hres := (nmsK_full l TParam.fName).trans (pNm_eq l)
 refine W.exit ?_
 apply Zr; intros
 refine Zm [19] ?_ (by simp [hl0] <;> omega); simp [hl0]
 refine Zo ?_ (by simp [hl0] <;> omega); simp [hl0]
 exact Zx
 refine W.ret (Zq ?_)
 simp [Tryz.f172, hres]
def tyK (l : List TParam) (k : Nat) : List TType := (l.take k).map TParam.fType
theorem tyK_zero (l : List TParam) : tyK l 0 = [] := rfl
theorem tyK_full (l : List TParam) : tyK l l.length = l.map TParam.fType := by unfold tyK; rw [List.take_length]
theorem tyK_len {l : List TParam} {k : Nat} (h : k ≤ l.length) : (tyK l k).length = k := by unfold tyK; simp; omega
theorem tyK_snoc {l : List TParam} {k : Nat} (h : k < l.length) : (tyK l k).map (TType.dd false) ++ [l[k].fType.dd false] = (tyK l (k + 1)).map (TType.dd false) := by
 unfold tyK
 rw [List.take_succ_eq_append_getElem h, List.map_append, List.map_append]; rfl
theorem pTypes_d (l : List TParam) (hl : l.length ≤ 134217728) (h : HP) : CS cx.P 171 [.d (.sl false sh167 (l.map (TParam.dd false)))] h (.d (.sl true sh88 ((pTy l).map (TType.dd false)))) h := by
 refine Ze Tryz.func171 rfl 20 ?_
 apply Zr; intros
 refine Zo ?_; simp
 exact Zx
 apply Zr; intros
 iterate 2 (refine Zo ?_; simp)
 exact Zx
 refine W.seq ?_
 apply Zr; intros
 iterate 3 (refine Zo ?_; simp)
 exact Zx
 refine W.block ?_
 refine W.loopk [7, 8] [] (fun k0 => [(9, .d (.lf (.int .i64 (k0 : Int)))), (3, .d (.sl true sh88 ((tyK l k0).map (TType.dd false))))]) (fun _ => []) l.length rfl (by simp [tyK_zero]) fun k0 hk0 T hT => ?_
 simp at hT; subst hT
 have hl0 := tyK_len hk0
 apply Zr; intros
 refine Zo ?_ (by simp [hl0] <;> omega); simp [hl0]
 exact Zx
 refine Zv rfl ?_ ?_ <;> intro hb0 <;> try simp at hb0
 have hx := ixNext hb0 (by omega)
 refine W.skip ?_
 refine Zb ?_
 apply Zr; intros
 refine Zo ?_ (by simp [hl0, hb0, hx] <;> omega); simp [hl0, hb0, hx]
 refine Zm [12] ?_ (by simp [hl0, hb0, hx] <;> omega); simp [hl0, hb0, hx]
 iterate 2 (refine Zo ?_ (by simp [hl0, hb0, hx] <;> omega); simp [hl0, hb0, hx])
 exact Zx
 apply Zs; intros
 refine Zm [13] ?_ (by simp [hl0, hb0, hx] <;> omega); simp [hl0, hb0, hx]
 refine Zo ?_ (by simp [hl0, hb0, hx] <;> omega); simp [hl0, hb0, hx]
 refine Zm [15] ?_ (by simp [hl0, hb0, hx] <;> omega); simp [hl0, hb0, hx]
 iterate 3 (refine Zo ?_ (by simp [hl0, hb0, hx] <;> omega); simp [hl0, hb0, hx])
 exact Zx
 apply Zs; intros
 iterate 2 (refine Zo ?_ (by simp [hl0, hb0, hx] <;> omega); simp [hl0, hb0, hx])
 exact Zx
 refine ⟨hb0, Wz.to rfl rfl rfl ?_⟩
 have hs := tyK_snoc hb0
 simp at hs
 simp [hs]
 have hkl : k0 = l.length := by omega
 subst hkl
 have hres := (tyK_full l).trans (pTy_eq l)
 refine W.exit ?_
 apply Zr; intros
 refine Zm [19] ?_ (by simp [hl0] <;> omega); simp [hl0]
 refine Zo ?_ (by simp [hl0] <;> omega); simp [hl0]
 exact Zx
 refine W.ret (Zq ?_)
 simp [Tryz.f171, hres]
theorem iFn_d (x : TFunction) (hz : x.sz ≤ 134217728) (h : HP) : CS cx.P 108 [.d (x.dd false)] h (.d (.lf (.bool (fnOk x)))) h := by
 have hz2 := x.sz_eq; unfold szs at hz2
 have hvs : ∀ s ∈ x.fVars, s.size ≤ 134217728 := fun s hs => by have := szL_le ByteArray.size hs; omega
 have hpv : ∀ s ∈ pNm x.fParams, s.size ≤ 134217728 := fun s hs => by obtain ⟨y, hy, rfl⟩ := List.mem_map.1 hs; have := szL_le TParam.sz hy; have := y.sz_eq; omega
 have hpt : ∀ s ∈ pTy x.fParams, s.sz ≤ 134217728 := fun s hs => by obtain ⟨y, hy, rfl⟩ := List.mem_map.1 hs; have := szL_le TParam.sz hy; have := y.sz_eq; omega
 have hbs : ∀ y ∈ x.fWhere, y.sz ≤ 134217728 := fun y hy => by have := szL_le TBound.sz hy; omega
 have hfa := fn_any x
 refine Ze Tryz.func108 rfl 53 ?_
 apply Zr; intros
 iterate 2 (refine Zo ?_; simp)
 exact Zx
 refine W.seq ?_
 refine W.regDJ (D := _) rfl [] [] [(2, .d (.lf (.bool (fnOk x))))] [] rfl (fun K hD hK => ?_) fun T hT => ?_
 iterate 2 (refine Yo ?_; simp)
 refine Yl [] rfl Tryz.func101 (iName_d x.fName (by omega)) ?_; simp
 refine Yo ?_; simp
 refine DL.split 6 _ rfl (fun g6 => ?_) fun g6 => ?_ <;> try simp at g6
 simp
 iterate 4 (refine Yg hD rfl rfl ?_; simp)
 iterate 2 (refine Yo ?_; simp)
 refine DL.split 12 _ rfl (fun g12 => ?_) fun g12 => ?_ <;> try simp at g12
 simp
 iterate 2 (refine Yg hD rfl rfl ?_; simp)
 refine Yk hD rfl rfl [] rfl Tryz.func102 (areNames_d x.fVars hvs (by omega)) ?_; simp
 iterate 2 (refine Yo ?_; simp)
 refine DL.split 17 _ rfl (fun g17 => ?_) fun g17 => ?_ <;> try simp at g17
 simp
 iterate 4 (refine Yg hD rfl rfl ?_; simp)
 refine Yk hD rfl rfl [] rfl Tryz.func168 (iWher_d x.fWhere x.fVars (by omega) (by omega) hbs) ?_; simp
 iterate 2 (refine Yo ?_; simp)
 refine DL.split 24 _ rfl (fun g24 => ?_) fun g24 => ?_ <;> try simp at g24
 simp
 iterate 4 (refine Yg hD rfl rfl ?_; simp)
 iterate 2 (refine Yo ?_; simp)
 refine DL.split 30 _ rfl (fun g30 => ?_) fun g30 => ?_ <;> try simp at g30
 simp
 iterate 2 (refine Yg hD rfl rfl ?_; simp)
 refine Yk hD rfl rfl [] rfl Tryz.func171 (pTypes_d x.fParams (by omega)) ?_; simp
 iterate 2 (refine Yg hD rfl rfl ?_; simp)
 refine Yk hD rfl rfl [] rfl Tryz.func163 (iOvers_d (pTy x.fParams) x.fVars (by omega) (by rw [pTy_len]; omega) hpt) ?_; simp
 iterate 2 (refine Yo ?_; simp)
 refine DL.split 38 _ rfl (fun g38 => ?_) fun g38 => ?_ <;> try simp at g38
 simp
 iterate 4 (refine Yg hD rfl rfl ?_; simp)
 refine Yk hD rfl rfl [] rfl Tryz.func164 (iOver_d x.fResult x.fVars (by omega) (by omega)) ?_; simp
 iterate 2 (refine Yo ?_; simp)
 refine DL.split 45 _ rfl (fun g45 => ?_) fun g45 => ?_ <;> try simp at g45
 simp
 iterate 2 (refine Yg hD rfl rfl ?_; simp)
 refine Yk hD rfl rfl [] rfl Tryz.func172 (pNames_d x.fParams (by omega)) ?_; simp
 iterate 2 (refine Yg hD rfl rfl ?_; simp)
 refine Yk hD rfl rfl [] rfl Tryz.func170 (iBody_d (pNm x.fParams) (by rw [pNm_len]; omega) hpv x.fBody (by omega)) ?_; simp
 iterate 2 (refine Yo ?_; simp)
 refine DL.nil rfl (hK _ (Wz.to rfl rfl rfl ?_))
 simp only [fnOk, words, ← fn_any, pNm_eq, pTy_eq, pNm_len]; simp [g6, g12, g17, g24, g30, g38, g45] <;> first | omega | grind
 simp
 iterate 6 (refine Yn hD rfl rfl ?_; simp)
 iterate 2 (refine Yo ?_; simp)
 refine DL.nil rfl (hK _ (Wz.to rfl rfl rfl ?_))
 simp only [fnOk, words, ← fn_any, pNm_eq, pTy_eq, pNm_len]; simp [g6, g12, g17, g24, g30, g38, g45] <;> first | omega | grind
 simp
 iterate 5 (refine Yn hD rfl rfl ?_; simp)
 iterate 2 (refine Yo ?_; simp)
 iterate 6 (refine Yn hD rfl rfl ?_; simp)
 iterate 2 (refine Yo ?_; simp)
 refine DL.nil rfl (hK _ (Wz.to rfl rfl rfl ?_))
 simp only [fnOk, words, ← fn_any, pNm_eq, pTy_eq, pNm_len]; simp [g6, g12, g17, g24, g30, g38] <;> first | omega | grind
 simp
 iterate 6 (refine Yn hD rfl rfl ?_; simp)
 iterate 2 (refine Yo ?_; simp)
 iterate 5 (refine Yn hD rfl rfl ?_; simp)
 iterate 2 (refine Yo ?_; simp)
 iterate 6 (refine Yn hD rfl rfl ?_; simp)
 iterate 2 (refine Yo ?_; simp)
 refine DL.nil rfl (hK _ (Wz.to rfl rfl rfl ?_))
 simp only [fnOk, words, ← fn_any, pNm_eq, pTy_eq, pNm_len]; simp [g6, g12, g17, g24, g30] <;> first | omega | grind
 simp
 iterate 4 (refine Yn hD rfl rfl ?_; simp)
 iterate 2 (refine Yo ?_; simp)
 iterate 6 (refine Yn hD rfl rfl ?_; simp)
 iterate 2 (refine Yo ?_; simp)
 iterate 5 (refine Yn hD rfl rfl ?_; simp)
 iterate 2 (refine Yo ?_; simp)
 iterate 6 (refine Yn hD rfl rfl ?_; simp)
 iterate 2 (refine Yo ?_; simp)
 refine DL.nil rfl (hK _ (Wz.to rfl rfl rfl ?_))
 simp only [fnOk, words, ← fn_any, pNm_eq, pTy_eq, pNm_len]; simp [g6, g12, g17, g24] <;> first | omega | grind
 simp
 iterate 5 (refine Yn hD rfl rfl ?_; simp)
 iterate 2 (refine Yo ?_; simp)
 iterate 4 (refine Yn hD rfl rfl ?_; simp)
 iterate 2 (refine Yo ?_; simp)
 iterate 6 (refine Yn hD rfl rfl ?_; simp)
 iterate 2 (refine Yo ?_; simp)
 iterate 5 (refine Yn hD rfl rfl ?_; simp)
 iterate 2 (refine Yo ?_; simp)
 iterate 6 (refine Yn hD rfl rfl ?_; simp)
 iterate 2 (refine Yo ?_; simp)
 refine DL.nil rfl (hK _ (Wz.to rfl rfl rfl ?_))
 simp only [fnOk, words, ← fn_any, pNm_eq, pTy_eq, pNm_len]; simp [g6, g12, g17] <;> first | omega | grind
 simp
 iterate 3 (refine Yn hD rfl rfl ?_; simp)
 iterate 2 (refine Yo ?_; simp)
 iterate 5 (refine Yn hD rfl rfl ?_; simp)
 iterate 2 (refine Yo ?_; simp)
 iterate 4 (refine Yn hD rfl rfl ?_; simp)
 iterate 2 (refine Yo ?_; simp)
 iterate 6 (refine Yn hD rfl rfl ?_; simp)
 iterate 2 (refine Yo ?_; simp)
 iterate 5 (refine Yn hD rfl rfl ?_; simp)
 iterate 2 (refine Yo ?_; simp)
 iterate 6 (refine Yn hD rfl rfl ?_; simp)
 iterate 2 (refine Yo ?_; simp)
 refine DL.nil rfl (hK _ (Wz.to rfl rfl rfl ?_))
 simp only [fnOk, words, ← fn_any, pNm_eq, pTy_eq, pNm_len]; simp [g6, g12] <;> first | omega | grind
 simp
 iterate 4 (refine Yn hD rfl rfl ?_; simp)
 iterate 2 (refine Yo ?_; simp)
 iterate 3 (refine Yn hD rfl rfl ?_; simp)
 iterate 2 (refine Yo ?_; simp)
 iterate 5 (refine Yn hD rfl rfl ?_; simp)
 iterate 2 (refine Yo ?_; simp)
 iterate 4 (refine Yn hD rfl rfl ?_; simp)
 iterate 2 (refine Yo ?_; simp)
 iterate 6 (refine Yn hD rfl rfl ?_; simp)
 iterate 2 (refine Yo ?_; simp)
 iterate 5 (refine Yn hD rfl rfl ?_; simp)
 iterate 2 (refine Yo ?_; simp)
 iterate 6 (refine Yn hD rfl rfl ?_; simp)
 iterate 2 (refine Yo ?_; simp)
 refine DL.nil rfl (hK _ (Wz.to rfl rfl rfl ?_))
 simp only [fnOk, words, ← fn_any, pNm_eq, pTy_eq, pNm_len]; simp [g6] <;> first | omega | grind
 simp at hT; subst hT
 refine W.ret (Zq ?_)
 simp [Tryz.f108]
end Go.Proofs.YtkadbimpaplnmaaGreatDoor
