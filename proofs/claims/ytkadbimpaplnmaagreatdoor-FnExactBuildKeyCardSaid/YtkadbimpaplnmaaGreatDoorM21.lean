/- Walks by the Den rules. No condition but sizes. -/
import Derived.Test.YtkadbimpaplnmaaGreatDoorM16
import Derived.Test.YtkadbimpaplnmaaGreatDoorM18
import Derived.Test.YtkadbimpaplnmaaGreatDoorM20
namespace Go.Proofs.YtkadbimpaplnmaaGreatDoor
open Go.RowKit
set_option maxRecDepth 10000
set_option linter.unusedSimpArgs false
set_option maxHeartbeats 4000000
mutual
def eForm : TSExpr → Bool
 | ⟨a, l⟩ => if a.toList = [] then eForms l else isAt a && decide (l = [])
def eForms : List TSExpr → Bool
 | [] => true
 | x :: l => eForm x && eForms l
end
theorem eForms_any : ∀ l : List TSExpr, eForms l = !(l.any fun y => !eForm y)
 | [] => rfl
 | x :: l => by simp only [eForms, eForms_any l, List.any_cons, Bool.not_or, Bool.not_not]
theorem eForm_atom {x : TSExpr} (h : ¬ x.fAtom.toList = []) : eForm x = (isAt x.fAtom && decide (x.fList = [])) := by cases x; simp only [eForm]; exact if_neg h
theorem eForm_list {x : TSExpr} (h : x.fAtom.toList = []) : eForm x = !(x.fList.any fun y => !eForm y) := by rw [← eForms_any]; cases x; simp only [eForm]; exact if_pos h
theorem atomsClo_d (y : TSExpr) (hy : ∀ h, CS cx.P 114 [.d (y.dd false)] h (.d (.lf (.bool (eForm y)))) h) (h : HP) : CS cx.P 176 [.d (y.dd false)] h (.d (.lf (.bool (!eForm y)))) h := by
 refine Ze Tryz.func176 rfl 6 ?_
 apply Zr; intros
 iterate 2 (refine Zo ?_; simp)
 exact Zx
 apply Zr; intros
 refine Zo ?_; simp
 refine Zl [] rfl Tryz.func114 (hy _) ?_; simp
 iterate 2 (refine Zo ?_; simp)
 exact Zx
 refine W.ret (Zq ?_)
 simp [Tryz.f176]
theorem areAtoms_a (x : TSExpr) (hz : x.sz ≤ 134217728) (hc : ∀ y ∈ x.fList, ∀ h, CS cx.P 114 [.d (y.dd false)] h (.d (.lf (.bool (eForm y)))) h) (h : HP) : CS cx.P 114 [.d (x.dd false)] h (.d (.lf (.bool (eForm x)))) h := by
 have hz2 := x.sz_eq; unfold szs at hz2
 refine Ze Tryz.func114 rfl 19 ?_
 apply Zr; intros
 iterate 2 (refine Zo ?_; simp)
 exact Zx
 refine W.seq ?_
 apply Zr; intros
 iterate 3 (refine Zo ?_; simp)
 exact Zx
 refine Zc rfl ?_ ?_ <;> intro hb0 <;> try simp at hb0
 have hres := eForm_atom hb0
 refine W.seq ?_
 refine W.regJ0 (D := _) rfl fun _ K hD hK => ?_
 iterate 2 (refine Zo ?_; simp)
 refine Zl [] rfl Tryz.func174 (iAtom_d x.fAtom (by omega) _) ?_; simp
 refine Zo ?_; simp
 refine WL.split 9 _ rfl (fun g9 => ?_) fun g9 => ?_ <;> try simp at g9
 simp
 iterate 4 (refine Zg hD rfl rfl ?_; simp)
 iterate 2 (refine Zo ?_; simp)
 refine WL.nil (hK _ ?_)
 refine W.ret (Zq ?_)
 simp [Tryz.f114, hres, g9]
 simp
 iterate 4 (refine Zn hD rfl rfl ?_; simp)
 iterate 2 (refine Zo ?_; simp)
 refine WL.nil (hK _ ?_)
 refine W.ret (Zq ?_)
 simp [Tryz.f114, hres, g9]
 have hres := eForm_list hb0
 refine W.skip ?_
 apply Zr; intros
 iterate 2 (refine Zo ?_; simp)
 refine Zl [] rfl Tryz.func175 (ContainsFuncSExpr_d x.fList (by omega) 176 Tryz.f176 _ ⟨Tryz.func176, rfl, rfl⟩ (fun y => !eForm y) (fun y hy h => atomsClo_d y (hc y hy) h) _) ?_; simp
 iterate 2 (refine Zo ?_; simp)
 exact Zx
 refine W.ret (Zq ?_)
 simp [Tryz.f114, hres]
theorem eForm_bad {x : TSExpr} {k : Nat} (h : x.fAtom.toList = []) (hk : k < x.fList.length) (e : eForm x.fList[k] = false) : eForm x = false := by
 rw [eForm_list h]
 have : (x.fList.any fun y => !eForm y) = true := List.any_eq_true.2 ⟨x.fList[k], gm hk, by simp [e]⟩
 rw [this]; rfl
theorem eForm_good {x : TSExpr} (h : x.fAtom.toList = []) (e : ∀ j, j < x.fList.length → ∀ y, x.fList[j]? = some y → (fun y => !eForm y) y = false) : eForm x = true := by
 rw [eForm_list h]
 have : (x.fList.any fun y => !eForm y) = false := by
  rw [List.any_eq_false]
  intro y hy
  obtain ⟨j, hj⟩ := List.mem_iff_getElem?.1 hy
  have := e j (List.getElem?_eq_some_iff.1 hj).1 y hj
  simpa using this
 rw [this]; rfl
theorem l2Form_a (x : TSExpr) (hz : x.sz ≤ 134217728) (hc : ∀ y ∈ x.fList, ∀ h, CS cx.P 93 [.d (y.dd false)] h (.d (.lf (.bool (eForm y)))) h) (h : HP) : CS cx.P 93 [.d (x.dd false)] h (.d (.lf (.bool (eForm x)))) h := by
 have hz2 := x.sz_eq; unfold szs at hz2
 refine Ze Tryz.func93 rfl 30 ?_
 apply Zr; intros
 iterate 2 (refine Zo ?_; simp)
 exact Zx
 refine W.seq ?_
 apply Zr; intros
 iterate 3 (refine Zo ?_; simp)
 exact Zx
 refine Zc rfl ?_ ?_ <;> intro hb0 <;> try simp at hb0
 have hres := eForm_atom hb0
 refine W.seq ?_
 refine W.regJ0 (D := _) rfl fun _ K hD hK => ?_
 iterate 2 (refine Zo ?_; simp)
 refine Zl [] rfl Tryz.func141 (sAtom_d x.fAtom (by omega) _) ?_; simp
 refine Zo ?_; simp
 refine WL.split 10 _ rfl (fun g10 => ?_) fun g10 => ?_ <;> try simp at g10
 simp
 iterate 4 (refine Zg hD rfl rfl ?_; simp)
 iterate 2 (refine Zo ?_; simp)
 refine WL.nil (hK _ ?_)
 refine W.ret (Zq ?_)
 simp [Tryz.f93, hres, g10]
 simp
 iterate 4 (refine Zn hD rfl rfl ?_; simp)
 iterate 2 (refine Zo ?_; simp)
 refine WL.nil (hK _ ?_)
 refine W.ret (Zq ?_)
 simp [Tryz.f93, hres, g10]
 refine W.skip ?_
 refine W.seq ?_
 apply Zr; intros
 refine Zo ?_; simp
 exact Zx
 refine W.block ?_
 refine W.loopI [1] [1] (fun k0 => [(3, .d (.lf (.int .i64 (k0 : Int))))]) (fun _ => []) x.fList.length (fun k0 => ∀ j, j < k0 → ∀ y, x.fList[j]? = some y → (fun y => !eForm y) y = false) rfl (by simp) (by simp) fun k0 hk0 hi0 T hT => ?_
 simp at hT; subst hT
 refine W.seq ?_
 apply Zr; intros
 iterate 5 (refine Zo ?_; simp)
 exact Zx
 refine Zc rfl ?_ ?_ <;> intro hb1 <;> try simp at hb1
 have hx := ixNext hb1 (by omega)
 refine W.skip ?_
 refine Zb ?_
 apply Zr; intros
 iterate 5 (refine Zo ?_ (by simp [hb1, hx] <;> omega); simp [hb1, hx])
 refine Zl [] rfl Tryz.func93 (hc x.fList[k0] (gm hb1) _) ?_ (by simp [hb1, hx]); simp [hb1, hx]
 refine Zo ?_ (by simp [hb1, hx] <;> omega); simp [hb1, hx]
 exact Zx
 refine Zc rfl ?_ ?_ <;> intro hb2 <;> try simp at hb2
 have hres := eForm_bad hb0 hb1 (by simpa using hb2)
 apply Zr; intros
 refine Zo ?_ (by simp [hb1, hx] <;> omega); simp [hb1, hx]
 exact Zx
 refine W.ret (Zq ?_)
 simp [Tryz.f93, hres]
 refine W.skip ?_
 apply Zs; intros
 iterate 3 (refine Zo ?_ (by simp [hb1, hx] <;> omega); simp [hb1, hx])
 exact Zx
 refine ⟨hb1, noP_step (p := fun y => !eForm y) hi0 hb1 (by simpa using hb2), Wz.to rfl rfl rfl ?_⟩
 simp
 have hkl : k0 = x.fList.length := by omega
 subst hkl
 have hres := eForm_good hb0 hi0
 refine W.exit ?_
 apply Zr; intros
 refine Zo ?_; simp
 exact Zx
 refine W.ret (Zq ?_)
 simp [Tryz.f93, hres]
theorem eSizeI_d (x : TSExpr) (hz : x.sz ≤ 134217728) (h : HP) : CS cx.P 116 [.d (x.dd false)] h (.d (.lf (.int .i64 ((eSize x : Nat) : Int)))) h := eSizeI_a x hz (fun y hy h => eSizeI_d y (by have h1 := szL_le TSExpr.sz hy; have h2 := x.sz_eq; unfold szs at h2; omega) h) h
termination_by SizeOf.sizeOf x
decreasing_by have := List.sizeOf_lt_of_mem hy; have := x.lt_fList; omega
theorem ieDepth_d (x : TSExpr) (hz : x.sz ≤ 134217728) (h : HP) : CS cx.P 115 [.d (x.dd false)] h (.d (.lf (.int .i64 ((eDepth x : Nat) : Int)))) h := ieDepth_a x hz (fun y hy h => ieDepth_d y (by have h1 := szL_le TSExpr.sz hy; have h2 := x.sz_eq; unfold szs at h2; omega) h) h
termination_by SizeOf.sizeOf x
decreasing_by have := List.sizeOf_lt_of_mem hy; have := x.lt_fList; omega
theorem seDepth_d (x : TSExpr) (hz : x.sz ≤ 134217728) (h : HP) : CS cx.P 94 [.d (x.dd false)] h (.d (.lf (.int .i64 ((eDepth x : Nat) : Int)))) h := seDepth_a x hz (fun y hy h => seDepth_d y (by have h1 := szL_le TSExpr.sz hy; have h2 := x.sz_eq; unfold szs at h2; omega) h) h
termination_by SizeOf.sizeOf x
decreasing_by have := List.sizeOf_lt_of_mem hy; have := x.lt_fList; omega
theorem areAtoms_d (x : TSExpr) (hz : x.sz ≤ 134217728) (h : HP) : CS cx.P 114 [.d (x.dd false)] h (.d (.lf (.bool (eForm x)))) h := areAtoms_a x hz (fun y hy h => areAtoms_d y (by have h1 := szL_le TSExpr.sz hy; have h2 := x.sz_eq; unfold szs at h2; omega) h) h
termination_by SizeOf.sizeOf x
decreasing_by have := List.sizeOf_lt_of_mem hy; have := x.lt_fList; omega
theorem l2Form_d (x : TSExpr) (hz : x.sz ≤ 134217728) (h : HP) : CS cx.P 93 [.d (x.dd false)] h (.d (.lf (.bool (eForm x)))) h := l2Form_a x hz (fun y hy h => l2Form_d y (by have h1 := szL_le TSExpr.sz hy; have h2 := x.sz_eq; unfold szs at h2; omega) h) h
termination_by SizeOf.sizeOf x
decreasing_by have := List.sizeOf_lt_of_mem hy; have := x.lt_fList; omega
theorem eLeft_d (x : TSExpr) (left : Int) (h0 : 0 ≤ left) (h1 : left ≤ 134217728) (hz : x.sz ≤ 134217728) (h : HP) : CS cx.P 92 [.d (x.dd false), .d (.lf (.int .i64 (left)))] h (.d (.lf (.int .i64 (lft (eSize x) left)))) h := eLeft_a x left h0 h1 hz (fun y hy left h0 h1 h => eLeft_d y left h0 h1 (by have h1 := szL_le TSExpr.sz hy; have h2 := x.sz_eq; unfold szs at h2; omega) h) h
termination_by SizeOf.sizeOf x
decreasing_by have := List.sizeOf_lt_of_mem hy; have := x.lt_fList; omega
def eValid (x : TSExpr) : Bool := eForm x && decide (eDepth x ≤ 14) && decide (eSize x ≤ 900)
theorem iValidE_d (x : TSExpr) (hz : x.sz ≤ 134217728) (h : HP) : CS cx.P 62 [.d (x.dd false)] h (.d (.lf (.bool (eValid x)))) h := by
 refine Ze Tryz.func62 rfl 15 ?_
 apply Zr; intros
 iterate 2 (refine Zo ?_; simp)
 exact Zx
 refine W.seq ?_
 refine W.regJ0 (D := _) rfl fun _ K hD hK => ?_
 refine Zo ?_; simp
 refine Zl [] rfl Tryz.func114 (areAtoms_d x hz _) ?_; simp
 refine Zo ?_; simp
 refine WL.split 5 _ rfl (fun g5 => ?_) fun g5 => ?_ <;> try simp at g5
 simp
 refine Zg hD rfl rfl ?_; simp
 refine Zk hD rfl rfl [] rfl Tryz.func115 (ieDepth_d x hz _) ?_; simp
 refine Zg hD rfl rfl ?_; simp
 iterate 2 (refine Zo ?_; simp)
 refine WL.split 10 _ rfl (fun g10 => ?_) fun g10 => ?_ <;> try simp at g10
 simp
 refine Zg hD rfl rfl ?_; simp
 refine Zk hD rfl rfl [] rfl Tryz.func116 (eSizeI_d x hz _) ?_; simp
 refine Zg hD rfl rfl ?_; simp
 iterate 2 (refine Zo ?_; simp)
 refine WL.nil (hK _ ?_)
 refine W.ret (Zq ?_)
 simp [Tryz.f62, eValid, g5, g10] <;> first | omega | grind
 simp
 iterate 3 (refine Zn hD rfl rfl ?_; simp)
 iterate 2 (refine Zo ?_; simp)
 refine WL.nil (hK _ ?_)
 refine W.ret (Zq ?_)
 simp [Tryz.f62, eValid, g5, g10] <;> first | omega | grind
 simp
 iterate 3 (refine Zn hD rfl rfl ?_; simp)
 iterate 2 (refine Zo ?_; simp)
 iterate 3 (refine Zn hD rfl rfl ?_; simp)
 iterate 2 (refine Zo ?_; simp)
 refine WL.nil (hK _ ?_)
 refine W.ret (Zq ?_)
 simp [Tryz.f62, eValid, g5] <;> first | omega | grind
theorem sValidE_d (x : TSExpr) (hz : x.sz ≤ 134217728) (h : HP) : CS cx.P 45 [.d (x.dd false)] h (.d (.lf (.bool (eValid x)))) h := by
 have hk := lft_ok (eSize x) 900 (by omega)
 refine Ze Tryz.func45 rfl 15 ?_
 apply Zr; intros
 iterate 2 (refine Zo ?_; simp)
 exact Zx
 refine W.seq ?_
 refine W.regJ0 (D := _) rfl fun _ K hD hK => ?_
 refine Zo ?_; simp
 refine Zl [] rfl Tryz.func92 (eLeft_d x 900 (by omega) (by omega) hz _) ?_; simp
 iterate 2 (refine Zo ?_; simp)
 refine WL.split 6 _ rfl (fun g6 => ?_) fun g6 => ?_ <;> try simp at g6
 simp
 refine Zg hD rfl rfl ?_; simp
 refine Zk hD rfl rfl [] rfl Tryz.func93 (l2Form_d x hz _) ?_; simp
 iterate 2 (refine Zo ?_; simp)
 refine WL.split 10 _ rfl (fun g10 => ?_) fun g10 => ?_ <;> try simp at g10
 simp
 refine Zg hD rfl rfl ?_; simp
 refine Zk hD rfl rfl [] rfl Tryz.func94 (seDepth_d x hz _) ?_; simp
 refine Zg hD rfl rfl ?_; simp
 iterate 2 (refine Zo ?_; simp)
 refine WL.nil (hK _ ?_)
 refine W.ret (Zq ?_)
 simp [Tryz.f45, eValid, g6, g10] <;> simp at hk <;> first | omega | grind
 simp
 iterate 3 (refine Zn hD rfl rfl ?_; simp)
 iterate 2 (refine Zo ?_; simp)
 refine WL.nil (hK _ ?_)
 refine W.ret (Zq ?_)
 simp [Tryz.f45, eValid, g6, g10] <;> simp at hk <;> first | omega | grind
 simp
 iterate 2 (refine Zn hD rfl rfl ?_; simp)
 iterate 2 (refine Zo ?_; simp)
 iterate 3 (refine Zn hD rfl rfl ?_; simp)
 iterate 2 (refine Zo ?_; simp)
 refine WL.nil (hK _ ?_)
 refine W.ret (Zq ?_)
 simp [Tryz.f45, eValid, g6] <;> simp at hk <;> first | omega | grind
theorem tl_len (s : ByteArray) : s.toList.length = s.size := by rw [Go.ByteArray.toList_eq]; simp
mutual
def encT : TType → TSExpr
 | ⟨k, n, l⟩ => if k = 1 then ⟨⟨#[39]⟩ ++ n, []⟩ else if k = 4 then ⟨⟨#[]⟩, [⟨⟨#[100, 121, 110]⟩, []⟩, ⟨n, []⟩]⟩ else if k = 3 then ⟨⟨#[]⟩, ⟨⟨#[97, 115, 115, 111, 99]⟩, []⟩ :: ⟨n, []⟩ :: encTs l⟩ else if l = [] then ⟨n, []⟩ else ⟨⟨#[]⟩, ⟨n, []⟩ :: encTs l⟩
def encTs : List TType → List TSExpr
 | [] => []
 | x :: l => encT x :: encTs l
end
theorem encTs_eq : ∀ l : List TType, encTs l = l.map encT
 | [] => rfl
 | x :: l => by simp only [encTs, encTs_eq l, List.map_cons]
theorem tlE : (⟨#[]⟩ : ByteArray).toList = [] := by rw [Go.ByteArray.toList_eq]
def joinK (b : ByteArray) (l : List ByteArray) : Nat → ByteArray
 | 0 => ⟨#[]⟩
 | k + 1 => joinK b l k ++ (if 0 < k then b else ⟨#[]⟩) ++ l.getD k ⟨#[]⟩
def joinS (b : ByteArray) (l : List ByteArray) : ByteArray := joinK b l l.length
theorem szL_snoc {α : Type} (g : α → Nat) (x : α) : ∀ l : List α, szL g (l ++ [x]) = szL g l + g x
 | [] => by simp [szL]
 | y :: l => by simp only [List.cons_append, szL, szL_snoc g x l]; omega
mutual
def eText : TSExpr → ByteArray
 | ⟨a, l⟩ => if a.toList = [] then ⟨#[40]⟩ ++ joinS ⟨#[32]⟩ (eTexts l) ++ ⟨#[41]⟩ else a
def eTexts : List TSExpr → List ByteArray
 | [] => []
 | x :: l => eText x :: eTexts l
end
theorem eTexts_eq : ∀ l : List TSExpr, eTexts l = l.map eText
 | [] => rfl
 | x :: l => by simp only [eTexts, eTexts_eq l, List.map_cons]
theorem eText_atom {x : TSExpr} (h : ¬ x.fAtom.toList = []) : eText x = x.fAtom := by cases x; simp only [eText]; exact if_neg h
theorem eText_list {x : TSExpr} (h : x.fAtom.toList = []) : eText x = ⟨#[40]⟩ ++ joinS ⟨#[32]⟩ (x.fList.map eText) ++ ⟨#[41]⟩ := by rw [← eTexts_eq]; cases x; simp only [eText]; exact if_pos h
theorem joinK_size (b : ByteArray) (l : List ByteArray) : ∀ k, k ≤ l.length → (joinK b l k).size ≤ szL ByteArray.size (l.take k) + k * b.size
 | 0, _ => by simp [joinK]
 | k + 1, h => by
  have h1 := joinK_size b l k (by omega)
  have h2 : l.getD k ⟨#[]⟩ = l[k] := by simp [List.getD_eq_getElem?_getD, List.getElem?_eq_getElem (show k < l.length by omega)]
  have h3 : szL ByteArray.size (l.take (k + 1)) = szL ByteArray.size (l.take k) + l[k].size := by
   rw [List.take_succ_eq_append_getElem (by omega), szL_snoc]
  have h4 : (if 0 < k then b else (⟨#[]⟩ : ByteArray)).size ≤ b.size := by split <;> simp
  simp only [joinK, ByteArray.size_append, h2, h3, Nat.add_mul]
  omega
theorem joinS_size (b : ByteArray) (l : List ByteArray) : (joinS b l).size ≤ szL ByteArray.size l + l.length * b.size := by
 have := joinK_size b l l.length (Nat.le_refl _)
 rwa [List.take_length] at this
mutual
theorem eText_size : ∀ x : TSExpr, (eText x).size ≤ 2 + 3 * x.sz
 | ⟨a, l⟩ => by
  have h1 := eTexts_size l
  have h2 := joinS_size ⟨#[32]⟩ (eTexts l)
  have h3 : (eTexts l).length = l.length := by rw [eTexts_eq, List.length_map]
  have h4 : (⟨#[32]⟩ : ByteArray).size = 1 := rfl
  rw [h3, h4, Nat.mul_one] at h2
  have h5 : (⟨#[40]⟩ : ByteArray).size = 1 := rfl
  have h6 : (⟨#[41]⟩ : ByteArray).size = 1 := rfl
  simp only [eText, TSExpr.sz]
  split
  ·simp only [ByteArray.size_append]; omega
  ·omega
theorem eTexts_size : ∀ l : List TSExpr, szL ByteArray.size (eTexts l) ≤ 2 * l.length + 3 * TSExpr.szLs l
 | [] => by simp [eTexts, szL]
 | x :: l => by
  have h1 := eText_size x
  have h2 := eTexts_size l
  simp only [eTexts, szL, TSExpr.szLs, List.length_cons]; omega
end
theorem l3Names_d (l : List ByteArray) (hs : ∀ s ∈ l, s.size ≤ 134217728) (hm : l.length ≤ 134217728) (h : HP) : CS cx.P 131 [.d (.sl false .one (l.map dS))] h (.d (.lf (.bool (nms l)))) h := by
 refine Ze Tryz.func131 rfl 16 ?_
 apply Zr; intros
 refine Zo ?_; simp
 exact Zx
 refine W.seq ?_
 apply Zr; intros
 refine Zo ?_; simp
 exact Zx
 refine W.block ?_
 refine W.loopI [0] [] (fun k0 => [(3, .d (.lf (.int .i64 (k0 : Int))))]) (fun _ => []) l.length (fun k0 => ∀ j, j < k0 → ∀ y, l[j]? = some y → (fun s => !isNm s) y = false) rfl (by simp) (by simp) fun k0 hk0 hi0 T hT => ?_
 simp at hT; subst hT
 refine W.seq ?_
 apply Zr; intros
 iterate 4 (refine Zo ?_; simp)
 exact Zx
 refine Zc rfl ?_ ?_ <;> intro hb0 <;> try simp at hb0
 have hx := ixNext hb0 (by omega)
 refine W.skip ?_
 refine Zb ?_
 apply Zr; intros
 iterate 4 (refine Zo ?_ (by simp [hb0, hx] <;> omega); simp [hb0, hx])
 refine Zl [] rfl Tryz.func78 (sName_d l[k0] (hs _ (gm hb0)) _) ?_ (by simp [hb0, hx]); simp [hb0, hx]
 refine Zo ?_ (by simp [hb0, hx] <;> omega); simp [hb0, hx]
 exact Zx
 refine Zc rfl ?_ ?_ <;> intro hb1 <;> try simp at hb1
 have hres := anyP_yes (p := fun s => !isNm s) hb0 (by simpa using hb1)
 apply Zr; intros
 refine Zo ?_ (by simp [hb0, hx] <;> omega); simp [hb0, hx]
 exact Zx
 refine W.ret (Zq ?_)
 simp [Tryz.f131, nms, hres]
 refine W.skip ?_
 apply Zs; intros
 iterate 3 (refine Zo ?_ (by simp [hb0, hx] <;> omega); simp [hb0, hx])
 exact Zx
 refine ⟨hb0, noP_step (p := fun s => !isNm s) hi0 hb0 (by simpa using hb1), Wz.to rfl rfl rfl ?_⟩
 simp
 have hkl : k0 = l.length := by omega
 subst hkl
 have hres := anyP_no (p := fun s => !isNm s) hi0
 refine W.exit ?_
 apply Zr; intros
 refine Zo ?_; simp
 exact Zx
 refine W.ret (Zq ?_)
 simp [Tryz.f131, nms, hres]
theorem sDst_d (l : List ByteArray) (hm : l.length ≤ 134217728) (h : HP) : CS cx.P 81 [.d (.sl false .one (l.map dS))] h (.d (.lf (.bool (dst l)))) h := by
 refine Ze Tryz.func81 rfl 18 ?_
 apply Zr; intros
 refine Zo ?_; simp
 exact Zx
 refine W.seq ?_
 apply Zr; intros
 refine Zo ?_; simp
 exact Zx
 refine W.block ?_
 refine W.loopI [0] [] (fun k0 => [(3, .d (.lf (.int .i64 (k0 : Int))))]) (fun _ => []) l.length (fun k0 => ∀ j, j < k0 → dstAt l j = true) rfl (by simp) (by simp) fun k0 hk0 hi0 T hT => ?_
 simp at hT; subst hT
 refine W.seq ?_
 apply Zr; intros
 iterate 4 (refine Zo ?_; simp)
 exact Zx
 refine Zc rfl ?_ ?_ <;> intro hb0 <;> try simp at hb0
 have hx := ixNext hb0 (by omega)
 refine W.skip ?_
 refine Zb ?_
 apply Yr rfl; intro K hK
 iterate 2 (refine Yo ?_ (by simp [hb0, hx] <;> omega); simp [hb0, hx])
 refine DL.op [] rfl (ok_sliceSl (es := l.map dS) rfl (by simp) (by simp [cls]) (by simp [okO]) (by simp [okX, okO]) (by simp [okX, okO]) rfl rfl (by simp [hb0, hx]; rfl) rfl 0 k0 .i64 (by simp [loV, evT, cst]) (.inr ⟨_, by simp [evT]; rfl⟩) (by first | omega | (simp <;> omega)) (by simp <;> omega)) rfl ?_; simp [hb0, hx]
 iterate 4 (refine Yo ?_ (by simp [hb0, hx] <;> omega); simp [hb0, hx])
 refine Yl [] rfl Tryz.func80 (l1Has_d (l.take k0) l[k0] (by simp; omega)) ?_ (by simp [hb0, hx]); simp [hb0, hx]
 exact DL.nil rfl hK
 refine Zc rfl ?_ ?_ <;> intro hb1 <;> try simp at hb1
 have hres := dst_no hb0 hb1
 apply Zr; intros
 refine Zo ?_ (by simp [hb0, hx] <;> omega); simp [hb0, hx]
 exact Zx
 refine W.ret (Zq ?_)
 simp [Tryz.f81, hres]
 refine W.skip ?_
 apply Zs; intros
 iterate 3 (refine Zo ?_ (by simp [hb0, hx] <;> omega); simp [hb0, hx])
 exact Zx
 refine ⟨hb0, step_all hi0 (by simpa [dstAt_eq hb0] using hb1), Wz.to rfl rfl rfl ?_⟩
 simp
 have hkl : k0 = l.length := by omega
 subst hkl
 have hres := dst_yes hi0
 refine W.exit ?_
 apply Zr; intros
 refine Zo ?_; simp
 exact Zx
 refine W.ret (Zq ?_)
 simp [Tryz.f81, hres]
def words (l : List ByteArray) (most : Int) : Bool := decide ((l.length : Int) ≤ most) && nms l && dst l
theorem l13Words_d (l : List ByteArray) (most : Int) (hs : ∀ s ∈ l, s.size ≤ 134217728) (hm : l.length ≤ 134217728) (h : HP) : CS cx.P 79 [.d (.sl false .one (l.map dS)), .d (.lf (.int .i64 (most)))] h (.d (.lf (.bool (words l most)))) h := by
 refine Ze Tryz.func79 rfl 17 ?_
 apply Zr; intros
 refine Zo ?_; simp
 exact Zx
 refine W.seq ?_
 refine W.regJ0 (D := _) rfl fun _ K hD hK => ?_
 iterate 5 (refine Zo ?_; simp)
 refine WL.split 9 _ rfl (fun g9 => ?_) fun g9 => ?_ <;> try simp at g9
 simp
 refine Zg hD rfl rfl ?_; simp
 refine Zk hD rfl rfl [] rfl Tryz.func131 (l3Names_d l hs hm _) ?_; simp
 iterate 2 (refine Zo ?_; simp)
 refine WL.split 13 _ rfl (fun g13 => ?_) fun g13 => ?_ <;> try simp at g13
 simp
 refine Zg hD rfl rfl ?_; simp
 refine Zk hD rfl rfl [] rfl Tryz.func81 (sDst_d l hm _) ?_; simp
 iterate 2 (refine Zo ?_; simp)
 refine WL.nil (hK _ ?_)
 refine W.ret (Zq ?_)
 simp [Tryz.f79, words, g9, g13] <;> grind
 simp
 iterate 2 (refine Zn hD rfl rfl ?_; simp)
 iterate 2 (refine Zo ?_; simp)
 refine WL.nil (hK _ ?_)
 refine W.ret (Zq ?_)
 simp [Tryz.f79, words, g9, g13] <;> grind
 simp
 iterate 2 (refine Zn hD rfl rfl ?_; simp)
 iterate 2 (refine Zo ?_; simp)
 iterate 2 (refine Zn hD rfl rfl ?_; simp)
 iterate 2 (refine Zo ?_; simp)
 refine WL.nil (hK _ ?_)
 refine W.ret (Zq ?_)
 simp [Tryz.f79, words, g9] <;> grind
theorem tvK_len0 (x : TType) (o : List ByteArray) {k : Nat} (h : k < x.fArgs.length) : (tvK x o k).length + tSize x.fArgs[k] ≤ o.length + tSize x := by
 have h1 := tvK_len x o k
 have h2 := tSzk_nx h
 have h3 := tSzk_le x (k + 1)
 omega
theorem l4Vars_a (x : TType) (out : List ByteArray) (hz : x.sz ≤ 134217728) (ho : out.length + tSize x ≤ 1073741824) (hc : ∀ y ∈ x.fArgs, ∀ out : List ByteArray, out.length + tSize y ≤ 1073741824 → ∀ h, CS cx.P 243 [.d (y.dd false), .d (.sl true .one (out.map dS))] h (.d (.sl true .one ((tvs y out).map dS))) h) (h : HP) : CS cx.P 243 [.d (x.dd false), .d (.sl true .one (out.map dS))] h (.d (.sl true .one ((tvs x out).map dS))) h := by
 have hz2 := x.sz_eq; unfold szs at hz2
 refine Ze Tryz.func243 rfl 36 ?_
 apply Zr; intros
 iterate 2 (refine Zo ?_; simp)
 exact Zx
 refine W.seq ?_
 refine W.seq ?_
 refine W.regJ (D := _) [1, 2] [2] [(15, .d (.lf (.bool (decide (x.fKind = 1) && !hasS out x.fName))))] [] rfl (fun _ K hD hK => ?_) fun T hT => ?_
 iterate 4 (refine Zo ?_; simp)
 refine WL.split 9 _ rfl (fun g9 => ?_) fun g9 => ?_ <;> try simp at g9
 simp
 iterate 3 (refine Zg hD rfl rfl ?_; simp)
 refine Zk hD rfl rfl [] rfl Tryz.func80 (l1Has_d out x.fName (by omega) _) ?_; simp
 refine Zg hD rfl rfl ?_; simp
 refine Zo ?_; simp
 refine WL.nil (hK _ (Wz.to rfl rfl rfl ?_))
 simp [g9]
 simp
 iterate 5 (refine Zn hD rfl rfl ?_; simp)
 refine Zo ?_; simp
 refine WL.nil (hK _ (Wz.to rfl rfl rfl ?_))
 simp [g9]
 simp at hT; subst hT
 refine W.join [2] [2] [(1, .d (.sl true .one ((tvS out x.fKind x.fName).map dS)))] [] ?_ fun T hT => ?_
 refine Zc rfl ?_ ?_ <;> intro hb0 <;> try simp at hb0
 have ht : tvS out x.fKind x.fName = out ++ [x.fName] := by unfold tvS; rw [if_pos (by simpa using hb0)]
 apply Zs; intros
 refine Zm [16] ?_; simp
 iterate 5 (refine Zo ?_; simp)
 exact Zx
 refine Wz.to rfl rfl rfl ?_
 simp [ht]
 have ht : tvS out x.fKind x.fName = out := by unfold tvS; rw [if_neg (by simpa using hb0)]
 refine W.skip ?_
 refine Wz.to rfl rfl rfl ?_
 simp [ht]
 simp at hT; subst hT
 refine W.seq ?_
 apply Zr; intros
 refine Zo ?_; simp
 exact Zx
 refine W.block ?_
 refine W.loopk [2] [2] (fun k0 => [(5, .d (.lf (.int .i64 (k0 : Int)))), (1, .d (.sl true .one ((tvK x out k0).map dS)))]) (fun _ => []) x.fArgs.length rfl (by simp [tvK_zero]) fun k0 hk0 T hT => ?_
 simp at hT; subst hT
 refine W.seq ?_
 apply Zr; intros
 iterate 5 (refine Zo ?_; simp)
 exact Zx
 refine Zc rfl ?_ ?_ <;> intro hb1 <;> try simp at hb1
 have hx := ixNext hb1 (by omega)
 have hl := tvK_len0 x out hb1
 refine W.skip ?_
 refine Zb ?_
 apply Zs; intros
 iterate 5 (refine Zo ?_ (by simp [hb1, hx] <;> omega); simp [hb1, hx])
 refine Zm [33] ?_ (by simp [hb1, hx] <;> omega); simp [hb1, hx]
 refine Zl [33] rfl Tryz.func243 (hc x.fArgs[k0] (gm hb1) (tvK x out k0) (by omega) _) ?_ (by simp [hb1, hx]); simp [hb1, hx]
 refine Zo ?_ (by simp [hb1, hx] <;> omega); simp [hb1, hx]
 exact Zx
 apply Zs; intros
 iterate 3 (refine Zo ?_ (by simp [hb1, hx] <;> omega); simp [hb1, hx])
 exact Zx
 refine ⟨hb1, Wz.to rfl rfl rfl ?_⟩
 have hs := tvK_step (o := out) hb1
 simp [hs]
 have hkl : k0 = x.fArgs.length := by omega
 subst hkl
 have hres := tvK_full x out
 refine W.exit ?_
 apply Zr; intros
 refine Zm [35] ?_; simp
 refine Zo ?_; simp
 exact Zx
 refine W.ret (Zq ?_)
 simp [Tryz.f243, hres]
theorem l4Vars_d (x : TType) (out : List ByteArray) (hz : x.sz ≤ 134217728) (ho : out.length + tSize x ≤ 1073741824) (h : HP) : CS cx.P 243 [.d (x.dd false), .d (.sl true .one (out.map dS))] h (.d (.sl true .one ((tvs x out).map dS))) h := l4Vars_a x out hz ho (fun y hy out ho h => l4Vars_d y out (by have h1 := szL_le TType.sz hy; have h2 := x.sz_eq; unfold szs at h2; omega) ho h) h
termination_by SizeOf.sizeOf x
decreasing_by have := List.sizeOf_lt_of_mem hy; have := x.lt_fArgs; omega
theorem sTv_d (x : TType) (hz : x.sz ≤ 134217728) (h : HP) : CS cx.P 194 [.d (x.dd false)] h (.d (.sl true .one ((tv x).map dS))) h := by
 refine Ze Tryz.func194 rfl 6 ?_
 apply Zr; intros
 iterate 2 (refine Zo ?_; simp)
 exact Zx
 apply Zr; intros
 iterate 2 (refine Zo ?_; simp)
 refine Zl [4] rfl Tryz.func243 (l4Vars_d x [] hz (by simp; have := tSize_le x; omega) _) ?_; simp
 refine Zo ?_; simp
 exact Zx
 refine W.ret (Zq ?_)
 simp [Tryz.f194, tv]
theorem sPj_a (x : TType) (hz : x.sz ≤ 134217728) (hc : ∀ y ∈ x.fArgs, ∀ h, CS cx.P 136 [.d (y.dd false)] h (.d (.lf (.bool (hasPj y)))) h) (h : HP) : CS cx.P 136 [.d (x.dd false)] h (.d (.lf (.bool (hasPj x)))) h := by
 have hz2 := x.sz_eq; unfold szs at hz2
 refine Ze Tryz.func136 rfl 20 ?_
 apply Zr; intros
 iterate 2 (refine Zo ?_; simp)
 exact Zx
 refine W.seq ?_
 apply Zr; intros
 refine Zo ?_; simp
 exact Zx
 refine W.block ?_
 refine W.loopI [1] [1] (fun k0 => [(3, .d (.lf (.int .i64 (k0 : Int))))]) (fun _ => []) x.fArgs.length (fun k0 => ∀ j, j < k0 → ∀ y, x.fArgs[j]? = some y → (hasPj) y = false) rfl (by simp) (by simp) fun k0 hk0 hi0 T hT => ?_
 simp at hT; subst hT
 refine W.seq ?_
 apply Zr; intros
 iterate 5 (refine Zo ?_; simp)
 exact Zx
 refine Zc rfl ?_ ?_ <;> intro hb0 <;> try simp at hb0
 have hx := ixNext hb0 (by omega)
 refine W.skip ?_
 refine Zb ?_
 apply Zr; intros
 iterate 5 (refine Zo ?_ (by simp [hb0, hx] <;> omega); simp [hb0, hx])
 refine Zl [] rfl Tryz.func136 (hc x.fArgs[k0] (gm hb0) _) ?_ (by simp [hb0, hx]); simp [hb0, hx]
 exact Zx
 refine Zc rfl ?_ ?_ <;> intro hb1 <;> try simp at hb1
 have hres := anyP_yes (p := hasPj) hb0 (by simpa using hb1)
 apply Zr; intros
 refine Zo ?_ (by simp [hb0, hx] <;> omega); simp [hb0, hx]
 exact Zx
 refine W.ret (Zq ?_)
 simp [Tryz.f136, hasPj_eq x, hres]
 refine W.skip ?_
 apply Zs; intros
 iterate 3 (refine Zo ?_ (by simp [hb0, hx] <;> omega); simp [hb0, hx])
 exact Zx
 refine ⟨hb0, noP_step (p := hasPj) hi0 hb0 (by simpa using hb1), Wz.to rfl rfl rfl ?_⟩
 simp
 have hkl : k0 = x.fArgs.length := by omega
 subst hkl
 have hres := anyP_no (p := hasPj) hi0
 refine W.exit ?_
 apply Zr; intros
 iterate 4 (refine Zo ?_; simp)
 exact Zx
 refine W.ret (Zq ?_)
 simp [Tryz.f136, hasPj_eq x, hres]
theorem sPj_d (x : TType) (hz : x.sz ≤ 134217728) (h : HP) : CS cx.P 136 [.d (x.dd false)] h (.d (.lf (.bool (hasPj x)))) h := sPj_a x hz (fun y hy h => sPj_d y (by have h1 := szL_le TType.sz hy; have h2 := x.sz_eq; unfold szs at h2; omega) h) h
termination_by SizeOf.sizeOf x
decreasing_by have := List.sizeOf_lt_of_mem hy; have := x.lt_fArgs; omega
theorem l13Vars_d (x : TType) (vars : List ByteArray) (hm : vars.length ≤ 4294967296) (hz : x.sz ≤ 134217728) (h : HP) : CS cx.P 135 [.d (x.dd false), .d (.sl false .one (vars.map dS))] h (.d (.lf (.bool (tOver x vars)))) h := by
 have hlen : (tv x).length ≤ 1 + x.sz := by have h1 := tvs_len x []; have h2 := tSize_le x; unfold tv; simp at h1; omega
 refine Ze Tryz.func135 rfl 24 ?_
 apply Zr; intros
 iterate 2 (refine Zo ?_; simp)
 exact Zx
 apply Zr; intros
 refine Zo ?_; simp
 refine Zl [] rfl Tryz.func194 (sTv_d x hz _) ?_; simp
 refine Zo ?_; simp
 exact Zx
 refine W.seq ?_
 apply Zr; intros
 refine Zo ?_; simp
 exact Zx
 refine W.block ?_
 refine W.loopI [1, 2, 5] [2] (fun k0 => [(6, .d (.lf (.int .i64 (k0 : Int))))]) (fun _ => []) (tv x).length (fun k0 => ∀ j, j < k0 → ∀ y, (tv x)[j]? = some y → (fun s => !hasS vars s) y = false) rfl (by simp) (by simp) fun k0 hk0 hi0 T hT => ?_
 simp at hT; subst hT
 refine W.seq ?_
 apply Zr; intros
 iterate 4 (refine Zo ?_; simp)
 exact Zx
 refine Zc rfl ?_ ?_ <;> intro hb0 <;> try simp at hb0
 have hx := ixNext hb0 (by omega)
 refine W.skip ?_
 refine Zb ?_
 apply Zr; intros
 iterate 5 (refine Zo ?_ (by simp [hb0, hx] <;> omega); simp [hb0, hx])
 refine Zl [] rfl Tryz.func80 (l1Has_d vars (tv x)[k0] hm _) ?_ (by simp [hb0, hx]); simp [hb0, hx]
 refine Zo ?_ (by simp [hb0, hx] <;> omega); simp [hb0, hx]
 exact Zx
 refine Zc rfl ?_ ?_ <;> intro hb1 <;> try simp at hb1
 have hres := anyP_yes (p := fun s => !hasS vars s) hb0 (by simpa using hb1)
 apply Zr; intros
 refine Zo ?_ (by simp [hb0, hx] <;> omega); simp [hb0, hx]
 exact Zx
 refine W.ret (Zq ?_)
 simp [Tryz.f135, tOver, sub, hres]
 refine W.skip ?_
 apply Zs; intros
 iterate 3 (refine Zo ?_ (by simp [hb0, hx] <;> omega); simp [hb0, hx])
 exact Zx
 refine ⟨hb0, noP_step (p := fun s => !hasS vars s) hi0 hb0 (by simpa using hb1), Wz.to rfl rfl rfl ?_⟩
 simp
 have hkl : k0 = (tv x).length := by omega
 subst hkl
 have hres := anyP_no (p := fun s => !hasS vars s) hi0
 refine W.exit ?_
 apply Zr; intros
 refine Zo ?_; simp
 refine Zl [] rfl Tryz.func195 (sValidT_d x hz _) ?_; simp
 refine Zo ?_; simp
 exact Zx
 refine W.ret (Zq ?_)
 simp [Tryz.f135, tOver, sub, hres]
def overs (l : List TType) (vars : List ByteArray) : Bool := !(l.any fun y => !tOver y vars)
theorem l13All_d (l : List TType) (vars : List ByteArray) (hm : vars.length ≤ 4294967296) (hl : l.length ≤ 134217728) (hs : ∀ y ∈ l, y.sz ≤ 134217728) (h : HP) : CS cx.P 134 [.d (.sl false sh88 (l.map (TType.dd false))), .d (.sl false .one (vars.map dS))] h (.d (.lf (.bool (overs l vars)))) h := by
 refine Ze Tryz.func134 rfl 19 ?_
 apply Zr; intros
 refine Zo ?_; simp
 exact Zx
 refine W.seq ?_
 apply Zr; intros
 refine Zo ?_; simp
 exact Zx
 refine W.block ?_
 refine W.loopI [0, 1] [] (fun k0 => [(5, .d (.lf (.int .i64 (k0 : Int))))]) (fun _ => []) l.length (fun k0 => ∀ j, j < k0 → ∀ y, l[j]? = some y → (fun y => !tOver y vars) y = false) rfl (by simp) (by simp) fun k0 hk0 hi0 T hT => ?_
 simp at hT; subst hT
 refine W.seq ?_
 apply Zr; intros
 iterate 4 (refine Zo ?_; simp)
 exact Zx
 refine Zc rfl ?_ ?_ <;> intro hb0 <;> try simp at hb0
 have hx := ixNext hb0 (by omega)
 refine W.skip ?_
 refine Zb ?_
 apply Zr; intros
 iterate 5 (refine Zo ?_ (by simp [hb0, hx] <;> omega); simp [hb0, hx])
 refine Zl [] rfl Tryz.func135 (l13Vars_d l[k0] vars hm (hs _ (gm hb0)) _) ?_ (by simp [hb0, hx]); simp [hb0, hx]
 refine Zo ?_ (by simp [hb0, hx] <;> omega); simp [hb0, hx]
 exact Zx
 refine Zc rfl ?_ ?_ <;> intro hb1 <;> try simp at hb1
 have hres := anyP_yes (p := fun y => !tOver y vars) hb0 (by simpa using hb1)
 apply Zr; intros
 refine Zo ?_ (by simp [hb0, hx] <;> omega); simp [hb0, hx]
 exact Zx
 refine W.ret (Zq ?_)
 simp [Tryz.f134, overs, hres]
 refine W.skip ?_
 apply Zs; intros
 iterate 3 (refine Zo ?_ (by simp [hb0, hx] <;> omega); simp [hb0, hx])
 exact Zx
 refine ⟨hb0, noP_step (p := fun y => !tOver y vars) hi0 hb0 (by simpa using hb1), Wz.to rfl rfl rfl ?_⟩
 simp
 have hkl : k0 = l.length := by omega
 subst hkl
 have hres := anyP_no (p := fun y => !tOver y vars) hi0
 refine W.exit ?_
 apply Zr; intros
 refine Zo ?_; simp
 exact Zx
 refine W.ret (Zq ?_)
 simp [Tryz.f134, overs, hres]
def zeroT (x : TType) : Bool := decide (x.fKind = 0) && decide (x.fName.toList = []) && decide (x.fArgs = [])
def prims : List ByteArray := [⟨#[43]⟩, ⟨#[45]⟩, ⟨#[42]⟩, ⟨#[60]⟩, ⟨#[61]⟩]
theorem l11Zero_d (x : TType) (h : HP) : CS cx.P 139 [.d (x.dd false)] h (.d (.lf (.bool (zeroT x)))) h := by
 refine Ze Tryz.func139 rfl 17 ?_
 apply Zr; intros
 iterate 2 (refine Zo ?_; simp)
 exact Zx
 refine W.seq ?_
 refine W.regJ0 (D := _) rfl fun _ K hD hK => ?_
 iterate 4 (refine Zo ?_; simp)
 refine WL.split 6 _ rfl (fun g6 => ?_) fun g6 => ?_ <;> try simp at g6
 simp
 iterate 3 (refine Zg hD rfl rfl ?_; simp)
 iterate 2 (refine Zo ?_; simp)
 refine WL.split 11 _ rfl (fun g11 => ?_) fun g11 => ?_ <;> try simp at g11
 simp
 iterate 4 (refine Zg hD rfl rfl ?_; simp)
 iterate 2 (refine Zo ?_; simp)
 refine WL.nil (hK _ ?_)
 refine W.ret (Zq ?_)
 simp [Tryz.f139, zeroT, g6, g11]
 simp
 iterate 4 (refine Zn hD rfl rfl ?_; simp)
 iterate 2 (refine Zo ?_; simp)
 refine WL.nil (hK _ ?_)
 refine W.ret (Zq ?_)
 simp [Tryz.f139, zeroT, g6, g11]
 simp
 iterate 3 (refine Zn hD rfl rfl ?_; simp)
 iterate 2 (refine Zo ?_; simp)
 iterate 4 (refine Zn hD rfl rfl ?_; simp)
 iterate 2 (refine Zo ?_; simp)
 refine WL.nil (hK _ ?_)
 refine W.ret (Zq ?_)
 simp [Tryz.f139, zeroT, g6]
theorem iZeroT_d (x : TType) (h : HP) : CS cx.P 169 [.d (x.dd false)] h (.d (.lf (.bool (zeroT x)))) h := by
 refine Ze Tryz.func169 rfl 17 ?_
 apply Zr; intros
 iterate 2 (refine Zo ?_; simp)
 exact Zx
 refine W.seq ?_
 refine W.regJ0 (D := _) rfl fun _ K hD hK => ?_
 iterate 4 (refine Zo ?_; simp)
 refine WL.split 6 _ rfl (fun g6 => ?_) fun g6 => ?_ <;> try simp at g6
 simp
 iterate 3 (refine Zg hD rfl rfl ?_; simp)
 iterate 2 (refine Zo ?_; simp)
 refine WL.split 11 _ rfl (fun g11 => ?_) fun g11 => ?_ <;> try simp at g11
 simp
 iterate 4 (refine Zg hD rfl rfl ?_; simp)
 iterate 2 (refine Zo ?_; simp)
 refine WL.nil (hK _ ?_)
 refine W.ret (Zq ?_)
 simp [Tryz.f169, zeroT, g6, g11]
 simp
 iterate 4 (refine Zn hD rfl rfl ?_; simp)
 iterate 2 (refine Zo ?_; simp)
 refine WL.nil (hK _ ?_)
 refine W.ret (Zq ?_)
 simp [Tryz.f169, zeroT, g6, g11]
 simp
 iterate 3 (refine Zn hD rfl rfl ?_; simp)
 iterate 2 (refine Zo ?_; simp)
 iterate 4 (refine Zn hD rfl rfl ?_; simp)
 iterate 2 (refine Zo ?_; simp)
 refine WL.nil (hK _ ?_)
 refine W.ret (Zq ?_)
 simp [Tryz.f169, zeroT, g6]
theorem l11Prim_d (s : ByteArray) (h : HP) : CS cx.P 269 [.d (.lf (.string s))] h (.d (.lf (.bool (hasS prims s)))) h := by
 refine Ze Tryz.func269 rfl 6 ?_
 apply Zr; intros
 refine Zo ?_ (by simp [prims] <;> omega); simp [prims]
 exact Zx
 apply Zr; intros
 iterate 2 (refine Zo ?_ (by simp [prims] <;> omega); simp [prims])
 refine Zl [] rfl Tryz.func80 (l1Has_d prims s (by decide) _) ?_ (by simp [prims]); simp [prims]
 refine Zo ?_ (by simp [prims] <;> omega); simp [prims]
 exact Zx
 refine W.ret (Zq ?_)
 simp [Tryz.f269, prims]
end Go.Proofs.YtkadbimpaplnmaaGreatDoor
