/- Walks by the Den rules; strings.IndexByte over a text. No condition but sizes. -/
import Derived.Test.YtkadbimpaplnmaaGreatDoorM16
import Derived.Test.YtkadbimpaplnmaaGreatDoorM18
import Derived.Test.YtkadbimpaplnmaaGreatDoorM19
import Derived.Shelf.Strings.Search1
namespace Go.Proofs.YtkadbimpaplnmaaGreatDoor
open Go.RowKit Go.Shelf
set_option maxRecDepth 100000
set_option linter.unusedSimpArgs false
set_option maxHeartbeats 4000000
theorem TypeSize_d (x : TType) (hz : x.sz ≤ 134217728) (h : HP) : CS cx.P 257 [.d (x.dd false)] h (.d (.lf (.int .i64 ((tSize x : Nat) : Int)))) h := TypeSize_a x hz (fun y hy h => TypeSize_d y (by have h1 := szL_le TType.sz hy; have h2 := x.sz_eq; unfold szs at h2; omega) h) h
termination_by SizeOf.sizeOf x
decreasing_by have := List.sizeOf_lt_of_mem hy; have := x.lt_fArgs; omega
theorem iDepth_d (x : TType) (hz : x.sz ≤ 134217728) (h : HP) : CS cx.P 256 [.d (x.dd false)] h (.d (.lf (.int .i64 ((tDepth x : Nat) : Int)))) h := iDepth_a x hz (fun y hy h => iDepth_d y (by have h1 := szL_le TType.sz hy; have h2 := x.sz_eq; unfold szs at h2; omega) h) h
termination_by SizeOf.sizeOf x
decreasing_by have := List.sizeOf_lt_of_mem hy; have := x.lt_fArgs; omega
theorem sDepth_d (x : TType) (hz : x.sz ≤ 134217728) (h : HP) : CS cx.P 245 [.d (x.dd false)] h (.d (.lf (.int .i64 ((tDepth x : Nat) : Int)))) h := sDepth_a x hz (fun y hy h => sDepth_d y (by have h1 := szL_le TType.sz hy; have h2 := x.sz_eq; unfold szs at h2; omega) h) h
termination_by SizeOf.sizeOf x
decreasing_by have := List.sizeOf_lt_of_mem hy; have := x.lt_fArgs; omega
theorem sForm_d (x : TType) (hz : x.sz ≤ 134217728) (h : HP) : CS cx.P 246 [.d (x.dd false)] h (.d (.lf (.bool (tForm x)))) h := sForm_a x hz (fun y hy h => sForm_d y (by have h1 := szL_le TType.sz hy; have h2 := x.sz_eq; unfold szs at h2; omega) h) h
termination_by SizeOf.sizeOf x
decreasing_by have := List.sizeOf_lt_of_mem hy; have := x.lt_fArgs; omega
theorem iForm_d (x : TType) (hz : x.sz ≤ 134217728) (h : HP) : CS cx.P 255 [.d (x.dd false)] h (.d (.lf (.bool (tForm x)))) h := iForm_a x hz (fun y hy h => iForm_d y (by have h1 := szL_le TType.sz hy; have h2 := x.sz_eq; unfold szs at h2; omega) h) h
termination_by SizeOf.sizeOf x
decreasing_by have := List.sizeOf_lt_of_mem hy; have := x.lt_fArgs; omega
theorem sLeft_d (x : TType) (left : Int) (h0 : 0 ≤ left) (h1 : left ≤ 134217728) (hz : x.sz ≤ 134217728) (h : HP) : CS cx.P 244 [.d (x.dd false), .d (.lf (.int .i64 (left)))] h (.d (.lf (.int .i64 (lft (tSize x) left)))) h := sLeft_a x left h0 h1 hz (fun y hy left h0 h1 h => sLeft_d y left h0 h1 (by have h1 := szL_le TType.sz hy; have h2 := x.sz_eq; unfold szs at h2; omega) h) h
termination_by SizeOf.sizeOf x
decreasing_by have := List.sizeOf_lt_of_mem hy; have := x.lt_fArgs; omega
def tValid (x : TType) : Bool := tForm x && decide (tDepth x ≤ 6) && decide (tSize x ≤ 60)
theorem lft_ok (n : Nat) (x : Int) (_ : 0 ≤ x) : decide (0 ≤ lft n x) = decide ((n : Int) ≤ x) := by
 unfold lft; by_cases q : (n : Int) ≤ x
 ·rw [if_pos q]; simp <;> omega
 ·rw [if_neg q]; simp <;> omega
theorem iValidT_d (x : TType) (hz : x.sz ≤ 134217728) (h : HP) : CS cx.P 219 [.d (x.dd false)] h (.d (.lf (.bool (tValid x)))) h := by
 refine Ze Tryz.func219 rfl 15 ?_
 apply Zr; intros
 iterate 2 (refine Zo ?_; simp)
 exact Zx
 refine W.seq ?_
 refine W.regJ0 (D := _) rfl fun _ K hD hK => ?_
 refine Zo ?_; simp
 refine Zl [] rfl Tryz.func255 (iForm_d x hz _) ?_; simp
 refine Zo ?_; simp
 refine WL.split 5 _ rfl (fun g5 => ?_) fun g5 => ?_ <;> try simp at g5
 simp
 refine Zg hD rfl rfl ?_; simp
 refine Zk hD rfl rfl [] rfl Tryz.func256 (iDepth_d x hz _) ?_; simp
 refine Zg hD rfl rfl ?_; simp
 iterate 2 (refine Zo ?_; simp)
 refine WL.split 10 _ rfl (fun g10 => ?_) fun g10 => ?_ <;> try simp at g10
 simp
 refine Zg hD rfl rfl ?_; simp
 refine Zk hD rfl rfl [] rfl Tryz.func257 (TypeSize_d x hz _) ?_; simp
 refine Zg hD rfl rfl ?_; simp
 iterate 2 (refine Zo ?_; simp)
 refine WL.nil (hK _ ?_)
 refine W.ret (Zq ?_)
 simp [Tryz.f219, tValid, g5, g10] <;> first | omega | grind
 simp
 iterate 3 (refine Zn hD rfl rfl ?_; simp)
 iterate 2 (refine Zo ?_; simp)
 refine WL.nil (hK _ ?_)
 refine W.ret (Zq ?_)
 simp [Tryz.f219, tValid, g5, g10] <;> first | omega | grind
 simp
 iterate 3 (refine Zn hD rfl rfl ?_; simp)
 iterate 2 (refine Zo ?_; simp)
 iterate 3 (refine Zn hD rfl rfl ?_; simp)
 iterate 2 (refine Zo ?_; simp)
 refine WL.nil (hK _ ?_)
 refine W.ret (Zq ?_)
 simp [Tryz.f219, tValid, g5] <;> first | omega | grind
theorem sValidT_d (x : TType) (hz : x.sz ≤ 134217728) (h : HP) : CS cx.P 195 [.d (x.dd false)] h (.d (.lf (.bool (tValid x)))) h := by
 have hk := lft_ok (tSize x) 60 (by omega)
 refine Ze Tryz.func195 rfl 15 ?_
 apply Zr; intros
 iterate 2 (refine Zo ?_; simp)
 exact Zx
 refine W.seq ?_
 refine W.regJ0 (D := _) rfl fun _ K hD hK => ?_
 refine Zo ?_; simp
 refine Zl [] rfl Tryz.func244 (sLeft_d x 60 (by omega) (by omega) hz _) ?_; simp
 iterate 2 (refine Zo ?_; simp)
 refine WL.split 6 _ rfl (fun g6 => ?_) fun g6 => ?_ <;> try simp at g6
 simp
 refine Zg hD rfl rfl ?_; simp
 refine Zk hD rfl rfl [] rfl Tryz.func245 (sDepth_d x hz _) ?_; simp
 refine Zg hD rfl rfl ?_; simp
 iterate 2 (refine Zo ?_; simp)
 refine WL.split 11 _ rfl (fun g11 => ?_) fun g11 => ?_ <;> try simp at g11
 simp
 refine Zg hD rfl rfl ?_; simp
 refine Zk hD rfl rfl [] rfl Tryz.func246 (sForm_d x hz _) ?_; simp
 iterate 2 (refine Zo ?_; simp)
 refine WL.nil (hK _ ?_)
 refine W.ret (Zq ?_)
 simp [Tryz.f195, tValid, g6, g11] <;> simp at hk <;> first | omega | grind
 simp
 iterate 2 (refine Zn hD rfl rfl ?_; simp)
 iterate 2 (refine Zo ?_; simp)
 refine WL.nil (hK _ ?_)
 refine W.ret (Zq ?_)
 simp [Tryz.f195, tValid, g6, g11] <;> simp at hk <;> first | omega | grind
 simp
 iterate 3 (refine Zn hD rfl rfl ?_; simp)
 iterate 2 (refine Zo ?_; simp)
 iterate 2 (refine Zn hD rfl rfl ?_; simp)
 iterate 2 (refine Zo ?_; simp)
 refine WL.nil (hK _ ?_)
 refine W.ret (Zq ?_)
 simp [Tryz.f195, tValid, g6] <;> simp at hk <;> first | omega | grind
theorem iValidB_d (x : TBound) (hz : x.sz ≤ 134217728) (h : HP) : CS cx.P 226 [.d (x.dd false)] h (.d (.lf (.bool (isNm x.fTrait && tValid x.fType)))) h := by
 have hz2 := x.sz_eq
 refine Ze Tryz.func226 rfl 11 ?_
 apply Zr; intros
 iterate 2 (refine Zo ?_; simp)
 exact Zx
 refine W.seq ?_
 refine W.regJ0 (D := _) rfl fun _ K hD hK => ?_
 iterate 2 (refine Zo ?_; simp)
 refine Zl [] rfl Tryz.func101 (iName_d x.fTrait (by omega) _) ?_; simp
 refine Zo ?_; simp
 refine WL.split 6 _ rfl (fun g6 => ?_) fun g6 => ?_ <;> try simp at g6
 simp
 iterate 2 (refine Zg hD rfl rfl ?_; simp)
 refine Zk hD rfl rfl [] rfl Tryz.func219 (iValidT_d x.fType (by omega) _) ?_; simp
 iterate 2 (refine Zo ?_; simp)
 refine WL.nil (hK _ ?_)
 refine W.ret (Zq ?_)
 simp [Tryz.f226, g6]
 simp
 iterate 3 (refine Zn hD rfl rfl ?_; simp)
 iterate 2 (refine Zo ?_; simp)
 refine WL.nil (hK _ ?_)
 refine W.ret (Zq ?_)
 simp [Tryz.f226, g6]
theorem sValidB_d (x : TBound) (hz : x.sz ≤ 134217728) (h : HP) : CS cx.P 196 [.d (x.dd false)] h (.d (.lf (.bool (isNm x.fTrait && tValid x.fType)))) h := by
 have hz2 := x.sz_eq
 refine Ze Tryz.func196 rfl 11 ?_
 apply Zr; intros
 iterate 2 (refine Zo ?_; simp)
 exact Zx
 refine W.seq ?_
 refine W.regJ0 (D := _) rfl fun _ K hD hK => ?_
 iterate 2 (refine Zo ?_; simp)
 refine Zl [] rfl Tryz.func78 (sName_d x.fTrait (by omega) _) ?_; simp
 refine Zo ?_; simp
 refine WL.split 6 _ rfl (fun g6 => ?_) fun g6 => ?_ <;> try simp at g6
 simp
 iterate 2 (refine Zg hD rfl rfl ?_; simp)
 refine Zk hD rfl rfl [] rfl Tryz.func195 (sValidT_d x.fType (by omega) _) ?_; simp
 iterate 2 (refine Zo ?_; simp)
 refine WL.nil (hK _ ?_)
 refine W.ret (Zq ?_)
 simp [Tryz.f196, g6]
 simp
 iterate 3 (refine Zn hD rfl rfl ?_; simp)
 iterate 2 (refine Zo ?_; simp)
 refine WL.nil (hK _ ?_)
 refine W.ret (Zq ?_)
 simp [Tryz.f196, g6]
theorem anyP_no {α : Type} {l : List α} {p : α → Bool} (h : ∀ j, j < l.length → ∀ y, l[j]? = some y → p y = false) : l.any p = false := by
 rw [List.any_eq_false]
 intro y hy
 obtain ⟨j, hj⟩ := List.mem_iff_getElem?.1 hy
 have := h j (List.getElem?_eq_some_iff.1 hj).1 y hj
 simp [this]
theorem anyP_yes {α : Type} {l : List α} {p : α → Bool} {k : Nat} (hk : k < l.length) (e : p l[k] = true) : l.any p = true := List.any_eq_true.2 ⟨l[k], List.getElem_mem hk, e⟩
def nms (l : List ByteArray) : Bool := !(l.any fun s => !isNm s)
def dstAt (l : List ByteArray) (i : Nat) : Bool := !hasS (l.take i) (l.getD i ⟨#[]⟩)
def dst (l : List ByteArray) : Bool := allB l.length (dstAt l)
def sub (l all : List ByteArray) : Bool := !(l.any fun s => !hasS all s)
theorem dstAt_eq {l : List ByteArray} {k : Nat} (h : k < l.length) : dstAt l k = !hasS (l.take k) l[k] := by unfold dstAt; simp [List.getD_eq_getElem?_getD, List.getElem?_eq_getElem h]
theorem dst_no {l : List ByteArray} {k : Nat} (h : k < l.length) (e : hasS (l.take k) l[k] = true) : dst l = false := allB_false h (by rw [dstAt_eq h, e]; rfl)
theorem vws_takeS (l : List ByteArray) (k : Nat) : DD.vws (List.take k (List.map dS l)) = List.take k (List.map dS l) := by rw [← List.map_take, vws_dS]
attribute [simp] vws_takeS
theorem dst_yes {l : List ByteArray} (h : ∀ j, j < l.length → dstAt l j = true) : dst l = true := allB_true h
def tvS (out : List ByteArray) (k : Int) (n : ByteArray) : List ByteArray := if k = 1 ∧ ¬ hasS out n = true then out ++ [n] else out
mutual
def tvs : TType → List ByteArray → List ByteArray
 | ⟨k, n, l⟩, out => tvss l (tvS out k n)
def tvss : List TType → List ByteArray → List ByteArray
 | [], out => out
 | x :: l, out => tvss l (tvs x out)
end
theorem tvss_app : ∀ (a b : List TType) (o : List ByteArray), tvss (a ++ b) o = tvss b (tvss a o)
 | [], b, o => rfl
 | x :: a, b, o => by simp only [List.cons_append, tvss, tvss_app a b]
theorem tvS_len (o : List ByteArray) (k : Int) (n : ByteArray) : (tvS o k n).length ≤ o.length + 1 := by unfold tvS; split <;> simp
mutual
theorem tvs_len : ∀ (x : TType) (o : List ByteArray), (tvs x o).length ≤ o.length + tSize x
 | ⟨k, n, l⟩, o => by
  have h1 := tvss_len l (tvS o k n)
  have h2 := tvS_len o k n
  simp only [tvs, tSize]; omega
theorem tvss_len : ∀ (l : List TType) (o : List ByteArray), (tvss l o).length ≤ o.length + tSizes l
 | [], o => by simp [tvss, tSizes]
 | x :: l, o => by
  have h1 := tvss_len l (tvs x o)
  have h2 := tvs_len x o
  simp only [tvss, tSizes]; omega
end
def tvK (x : TType) (o : List ByteArray) (k : Nat) : List ByteArray := tvss (x.fArgs.take k) (tvS o x.fKind x.fName)
theorem tvK_zero (x : TType) (o : List ByteArray) : tvK x o 0 = tvS o x.fKind x.fName := rfl
theorem tvK_full (x : TType) (o : List ByteArray) : tvK x o x.fArgs.length = tvs x o := by cases x; simp [tvK, tvs]
theorem tvK_step {x : TType} {o : List ByteArray} {k : Nat} (h : k < x.fArgs.length) : tvs x.fArgs[k] (tvK x o k) = tvK x o (k + 1) := by
 unfold tvK
 rw [List.take_succ_eq_append_getElem h, tvss_app]; rfl
theorem tvK_len (x : TType) (o : List ByteArray) (k : Nat) : (tvK x o k).length ≤ o.length + tSzk x.fArgs k := by
 have h1 := tvss_len (x.fArgs.take k) (tvS o x.fKind x.fName)
 have h2 := tvS_len o x.fKind x.fName
 unfold tvK tSzk; omega
def tv (x : TType) : List ByteArray := tvs x []
def tOver (x : TType) (vars : List ByteArray) : Bool := tValid x && sub (tv x) vars
mutual
def hasPj : TType → Bool
 | ⟨k, _, l⟩ => hasPjs l || decide (k = 3)
def hasPjs : List TType → Bool
 | [] => false
 | x :: l => hasPj x || hasPjs l
end
theorem hasPjs_any : ∀ l : List TType, hasPjs l = l.any hasPj
 | [] => rfl
 | x :: l => by simp only [hasPjs, hasPjs_any l, List.any_cons]
theorem hasPj_eq (x : TType) : hasPj x = (x.fArgs.any hasPj || decide (x.fKind = 3)) := by rw [← hasPjs_any]; cases x; simp only [hasPj]
mutual
def occ (v : ByteArray) : TType → Nat
 | ⟨k, n, l⟩ => (if k = 1 ∧ n = v then 1 else 0) + occs v l
def occs (v : ByteArray) : List TType → Nat
 | [] => 0
 | x :: l => occ v x + occs v l
end
mutual
def eSize : TSExpr → Nat
 | ⟨_, l⟩ => 1 + eSizes l
def eSizes : List TSExpr → Nat
 | [] => 0
 | x :: l => eSize x + eSizes l
end
theorem eSizes_app : ∀ a b : List TSExpr, eSizes (a ++ b) = eSizes a + eSizes b
 | [], b => by simp [eSizes]
 | x :: a, b => by simp only [List.cons_append, eSizes, eSizes_app a b]; omega
mutual
theorem eSize_le : ∀ x : TSExpr, eSize x ≤ 1 + x.sz
 | ⟨_, l⟩ => by simp only [eSize, TSExpr.sz]; have := eSizes_le l; omega
theorem eSizes_le : ∀ l : List TSExpr, eSizes l ≤ l.length + TSExpr.szLs l
 | [] => by simp [eSizes, TSExpr.szLs]
 | x :: l => by simp only [eSizes, TSExpr.szLs, List.length_cons]; have := eSize_le x; have := eSizes_le l; omega
end
def eSzk (l : List TSExpr) (k : Nat) : Nat := 1 + eSizes (l.take k)
theorem eSzk_zero (l : List TSExpr) : eSzk l 0 = 1 := rfl
theorem eSzk_full (x : TSExpr) : eSzk x.fList x.fList.length = eSize x := by cases x; simp [eSzk, eSize]
theorem eSzk_nx {l : List TSExpr} {k : Nat} (h : k < l.length) : eSzk l (k + 1) = eSzk l k + eSize l[k] := by
 unfold eSzk
 rw [List.take_succ_eq_append_getElem h, eSizes_app]; simp [eSizes]; omega
theorem eSzk_le (x : TSExpr) (k : Nat) : eSzk x.fList k ≤ eSize x := by
 rw [← eSzk_full]
 unfold eSzk
 have := eSizes_app (x.fList.take k) (x.fList.drop k)
 rw [List.take_append_drop] at this
 simp; omega
theorem eSzk_step {x : TSExpr} {k : Nat} (h : k < x.fList.length) (hz : x.sz ≤ 134217728) : IntKind.i64.wrap ((eSzk x.fList k : Int) + (eSize x.fList[k] : Int)) = (eSzk x.fList (k + 1) : Int) := by
 have h1 := eSzk_nx h
 have h2 := eSzk_le x (k + 1)
 have h3 := eSize_le x
 rw [i64w (by omega) (by omega)]; omega
theorem eSizeI_a (x : TSExpr) (hz : x.sz ≤ 134217728) (hc : ∀ y ∈ x.fList, ∀ h, CS cx.P 116 [.d (y.dd false)] h (.d (.lf (.int .i64 ((eSize y : Nat) : Int)))) h) (h : HP) : CS cx.P 116 [.d (x.dd false)] h (.d (.lf (.int .i64 ((eSize x : Nat) : Int)))) h := by
 have hz2 := x.sz_eq; unfold szs at hz2
 refine Ze Tryz.func116 rfl 19 ?_
 apply Zr; intros
 iterate 2 (refine Zo ?_; simp)
 exact Zx
 apply Zr; intros
 refine Zo ?_; simp
 exact Zx
 refine W.seq ?_
 apply Zr; intros
 iterate 4 (refine Zo ?_; simp)
 exact Zx
 refine W.block ?_
 refine W.loopk [7, 8] [] (fun k0 => [(9, .d (.lf (.int .i64 (k0 : Int)))), (3, .d (.lf (.int .i64 ((eSzk x.fList k0 : Nat) : Int))))]) (fun _ => []) x.fList.length rfl (by simp [eSzk_zero]) fun k0 hk0 T hT => ?_
 simp at hT; subst hT
 apply Zr; intros
 refine Zo ?_; simp
 exact Zx
 refine Zv rfl ?_ ?_ <;> intro hb0 <;> try simp at hb0
 have hx := ixNext hb0 (by omega)
 have hw := eSzk_step hb0 hz
 refine W.skip ?_
 refine Zb ?_
 apply Zr; intros
 refine Zo ?_ (by simp [hb0, hx, hw] <;> omega); simp [hb0, hx, hw]
 refine Zm [12] ?_ (by simp [hb0, hx, hw] <;> omega); simp [hb0, hx, hw]
 iterate 2 (refine Zo ?_ (by simp [hb0, hx, hw] <;> omega); simp [hb0, hx, hw])
 exact Zx
 apply Zs; intros
 iterate 2 (refine Zo ?_ (by simp [hb0, hx, hw] <;> omega); simp [hb0, hx, hw])
 refine Zl [] rfl Tryz.func116 (hc x.fList[k0] (gm hb0) _) ?_ (by simp [hb0, hx, hw]); simp [hb0, hx, hw]
 iterate 2 (refine Zo ?_ (by simp [hb0, hx, hw] <;> omega); simp [hb0, hx, hw])
 exact Zx
 apply Zs; intros
 iterate 2 (refine Zo ?_ (by simp [hb0, hx, hw] <;> omega); simp [hb0, hx, hw])
 exact Zx
 refine ⟨hb0, Wz.to rfl rfl rfl ?_⟩
 simp
 have hkl : k0 = x.fList.length := by omega
 subst hkl
 refine W.exit ?_
 apply Zr; intros
 iterate 2 (refine Zo ?_; simp)
 exact Zx
 refine W.ret (Zq ?_)
 simp [Tryz.f116, eSzk_full]
theorem lft_neg3 {x : TSExpr} {k : Nat} {left : Int} (hk : k ≤ x.fList.length) (h : k < x.fList.length → lft (eSzk x.fList k) left < 0) : lft (eSize x) left = lft (eSzk x.fList k) left := by
 rcases Nat.lt_or_ge k x.fList.length with q | q
 ·exact lft_neg (by have := h q; omega) (eSzk_le x k)
 ·have : k = x.fList.length := by omega
  subst this; rw [eSzk_full]
theorem eLeft_a (x : TSExpr) (left : Int) (h0 : 0 ≤ left) (h1 : left ≤ 134217728) (hz : x.sz ≤ 134217728) (hc : ∀ y ∈ x.fList, ∀ left, 0 ≤ left → left ≤ 134217728 → ∀ h, CS cx.P 92 [.d (y.dd false), .d (.lf (.int .i64 (left)))] h (.d (.lf (.int .i64 (lft (eSize y) left)))) h) (h : HP) : CS cx.P 92 [.d (x.dd false), .d (.lf (.int .i64 (left)))] h (.d (.lf (.int .i64 (lft (eSize x) left)))) h := by
 have hz2 := x.sz_eq; unfold szs at hz2
 have hw0 := i64w (n := left - 1) (by omega) (by omega)
 have hl0 : lft 1 left = left - 1 := by unfold lft; split <;> omega
 refine Ze Tryz.func92 rfl 27 ?_
 apply Zr; intros
 iterate 2 (refine Zo ?_ (by simp [hw0] <;> omega); simp [hw0])
 exact Zx
 apply Zr; intros
 iterate 3 (refine Zo ?_ (by simp [hw0] <;> omega); simp [hw0])
 exact Zx
 refine W.seq ?_
 apply Zr; intros
 refine Zo ?_ (by simp [hw0] <;> omega); simp [hw0]
 exact Zx
 refine W.block ?_
 refine W.loopk [2] [2] (fun k0 => [(5, .d (.lf (.int .i64 (k0 : Int)))), (1, .d (.lf (.int .i64 ((lft (eSzk x.fList k0) left)))))]) (fun _ => []) x.fList.length rfl (by simp [eSzk_zero, hl0]) fun k0 hk0 T hT => ?_
 simp at hT; subst hT
 refine W.seq ?_
 refine W.seq ?_
 refine W.regJ (D := _) [1, 2, 5] [2] [(16, .d (.lf (.bool (decide (k0 < x.fList.length) && decide (0 ≤ (lft (eSzk x.fList k0) left))))))] [] rfl (fun _ K hD hK => ?_) fun T hT => ?_
 iterate 6 (refine Zo ?_ (by simp [hw0] <;> omega); simp [hw0])
 refine WL.split 13 _ rfl (fun g13 => ?_) fun g13 => ?_ <;> try simp at g13
 simp [hw0]
 iterate 2 (refine Zg hD rfl rfl ?_ (by simp [hw0] <;> omega); simp [hw0])
 refine Zo ?_ (by simp [hw0] <;> omega); simp [hw0]
 refine WL.nil (hK _ (Wz.to rfl rfl rfl ?_))
 simp [g13] <;> first | omega | grind
 simp [hw0]
 iterate 2 (refine Zn hD rfl rfl ?_; simp [hw0])
 refine Zo ?_ (by simp [hw0] <;> omega); simp [hw0]
 refine WL.nil (hK _ (Wz.to rfl rfl rfl ?_))
 simp [g13] <;> first | omega | grind
 simp at hT; subst hT
 refine Zc rfl ?_ ?_ <;> intro hb0 <;> try simp at hb0
 have hk1 := hb0.1
 have hx := ixNext hk1 (by omega)
 refine W.skip ?_
 refine Zb ?_
 apply Zs; intros
 iterate 6 (refine Zo ?_ (by simp [hw0, hk1, hx] <;> omega); simp [hw0, hk1, hx])
 refine Zl [] rfl Tryz.func92 (hc x.fList[k0] (gm hk1) (lft (eSzk x.fList k0) left) hb0.2 (by unfold lft; split <;> omega) _) ?_ (by simp [hw0, hk1, hx]); simp [hw0, hk1, hx]
 refine Zo ?_ (by simp [hw0, hk1, hx] <;> omega); simp [hw0, hk1, hx]
 exact Zx
 apply Zs; intros
 iterate 3 (refine Zo ?_ (by simp [hw0, hk1, hx] <;> omega); simp [hw0, hk1, hx])
 exact Zx
 refine ⟨hk1, Wz.to rfl rfl rfl ?_⟩
 have hs := lft_lft (b := eSize x.fList[k0]) hb0.2
 rw [← eSzk_nx hk1] at hs
 simp [hs]
 have hres : lft (eSize x) left = (lft (eSzk x.fList k0) left) := lft_neg3 hk0 hb0
 refine W.exit ?_
 apply Zr; intros
 iterate 2 (refine Zo ?_ (by simp [hw0] <;> omega); simp [hw0])
 exact Zx
 refine W.ret (Zq ?_)
 simp [Tryz.f92, hres]
mutual
def eDepth : TSExpr → Nat
 | ⟨a, l⟩ => if a.toList = [] then eDepths l + 1 else 0
def eDepths : List TSExpr → Nat
 | [] => 0
 | x :: l => max (eDepth x) (eDepths l)
end
theorem eDepths_app : ∀ a b : List TSExpr, eDepths (a ++ b) = max (eDepths a) (eDepths b)
 | [], b => by simp [eDepths]
 | x :: a, b => by simp only [List.cons_append, eDepths, eDepths_app a b]; exact (Nat.max_assoc _ _ _).symm
mutual
theorem eDepth_le : ∀ x : TSExpr, eDepth x ≤ 1 + x.sz
 | ⟨_, l⟩ => by simp only [eDepth, TSExpr.sz]; have := eDepths_le l; split <;> omega
theorem eDepths_le : ∀ l : List TSExpr, eDepths l ≤ l.length + TSExpr.szLs l
 | [] => by simp [eDepths, TSExpr.szLs]
 | x :: l => by simp only [eDepths, TSExpr.szLs, List.length_cons]; have := eDepth_le x; have := eDepths_le l; omega
end
def eDpk (l : List TSExpr) (k : Nat) : Nat := eDepths (l.take k)
theorem eDpk_zero (l : List TSExpr) : eDpk l 0 = 0 := rfl
theorem eDepth_atom {x : TSExpr} (h : ¬ x.fAtom.toList = []) : eDepth x = 0 := by cases x; simp only [eDepth]; exact if_neg h
theorem eDpk_full {x : TSExpr} (h : x.fAtom.toList = []) : eDpk x.fList x.fList.length + 1 = eDepth x := by cases x; simp only [eDepth, eDpk, List.take_length]; exact (if_pos h).symm
theorem eDpk_step {l : List TSExpr} {k : Nat} (h : k < l.length) : eDpk l (k + 1) = max (eDpk l k) (eDepth l[k]) := by
 unfold eDpk
 rw [List.take_succ_eq_append_getElem h, eDepths_app]; simp [eDepths]
theorem eDpk_i {l : List TSExpr} {k : Nat} (h : k < l.length) : (if eDpk l k < eDepth l[k] then (eDepth l[k] : Int) else (eDpk l k : Int)) = (eDpk l (k + 1) : Int) := by
 rw [eDpk_step h]; split <;> omega
theorem eDpk_s {l : List TSExpr} {k : Nat} (h : k < l.length) : (if eDepth l[k] < eDpk l k then (eDpk l k : Int) else (eDepth l[k] : Int)) = (eDpk l (k + 1) : Int) := by
 rw [eDpk_step h]; split <;> omega
theorem ieDepth_a (x : TSExpr) (hz : x.sz ≤ 134217728) (hc : ∀ y ∈ x.fList, ∀ h, CS cx.P 115 [.d (y.dd false)] h (.d (.lf (.int .i64 ((eDepth y : Nat) : Int)))) h) (h : HP) : CS cx.P 115 [.d (x.dd false)] h (.d (.lf (.int .i64 ((eDepth x : Nat) : Int)))) h := by
 have hz2 := x.sz_eq; unfold szs at hz2
 have hle := eDepth_le x
 refine Ze Tryz.func115 rfl 23 ?_
 apply Zr; intros
 iterate 2 (refine Zo ?_; simp)
 exact Zx
 refine W.seq ?_
 apply Zr; intros
 iterate 3 (refine Zo ?_; simp)
 exact Zx
 refine Zc rfl ?_ ?_ <;> intro hb0 <;> try simp at hb0
 have hres := eDepth_atom hb0
 have hw := hb0
 apply Zr; intros
 refine Zo ?_; simp
 exact Zx
 refine W.ret (Zq ?_)
 simp [Tryz.f115, hres, hw]
 refine W.skip ?_
 apply Zr; intros
 refine Zo ?_; simp
 exact Zx
 refine W.seq ?_
 apply Zr; intros
 iterate 4 (refine Zo ?_; simp)
 exact Zx
 refine W.block ?_
 refine W.loopk [10, 11] [] (fun k0 => [(12, .d (.lf (.int .i64 (k0 : Int)))), (3, .d (.lf (.int .i64 ((eDpk x.fList k0 : Nat) : Int))))]) (fun _ => []) x.fList.length rfl (by simp [eDpk_zero]) fun k0 hk0 T hT => ?_
 simp at hT; subst hT
 apply Zr; intros
 refine Zo ?_; simp
 exact Zx
 refine Zv rfl ?_ ?_ <;> intro hb1 <;> try simp at hb1
 have hx := ixNext hb1 (by omega)
 have hw := eDpk_i hb1
 refine W.skip ?_
 refine Zb ?_
 apply Zr; intros
 refine Zo ?_ (by simp [hb1, hx, hw] <;> omega); simp [hb1, hx, hw]
 refine Zm [15] ?_ (by simp [hb1, hx, hw] <;> omega); simp [hb1, hx, hw]
 iterate 2 (refine Zo ?_ (by simp [hb1, hx, hw] <;> omega); simp [hb1, hx, hw])
 exact Zx
 apply Zs; intros
 iterate 2 (refine Zo ?_ (by simp [hb1, hx, hw] <;> omega); simp [hb1, hx, hw])
 refine Zl [] rfl Tryz.func115 (hc x.fList[k0] (gm hb1) _) ?_ (by simp [hb1, hx, hw]); simp [hb1, hx, hw]
 iterate 2 (refine Zo ?_ (by simp [hb1, hx, hw] <;> omega); simp [hb1, hx, hw])
 exact Zx
 apply Zs; intros
 iterate 2 (refine Zo ?_ (by simp [hb1, hx, hw] <;> omega); simp [hb1, hx, hw])
 exact Zx
 refine ⟨hb1, Wz.to rfl rfl rfl ?_⟩
 simp
 have hkl : k0 = x.fList.length := by omega
 subst hkl
 have hres := (eDpk_full hb0).symm
 have hw := i64w (n := (eDpk x.fList x.fList.length : Int) + 1) (by omega) (by omega)
 refine W.exit ?_
 apply Zr; intros
 iterate 3 (refine Zo ?_; simp)
 exact Zx
 refine W.ret (Zq ?_)
 simp [Tryz.f115, hres, hw]
theorem seDepth_a (x : TSExpr) (hz : x.sz ≤ 134217728) (hc : ∀ y ∈ x.fList, ∀ h, CS cx.P 94 [.d (y.dd false)] h (.d (.lf (.int .i64 ((eDepth y : Nat) : Int)))) h) (h : HP) : CS cx.P 94 [.d (x.dd false)] h (.d (.lf (.int .i64 ((eDepth x : Nat) : Int)))) h := by
 have hz2 := x.sz_eq; unfold szs at hz2
 have hle := eDepth_le x
 refine Ze Tryz.func94 rfl 25 ?_
 apply Zr; intros
 iterate 2 (refine Zo ?_; simp)
 exact Zx
 refine W.seq ?_
 apply Zr; intros
 iterate 3 (refine Zo ?_; simp)
 exact Zx
 refine Zc rfl ?_ ?_ <;> intro hb0 <;> try simp at hb0
 have hres := eDepth_atom hb0
 have hw := hb0
 apply Zr; intros
 refine Zo ?_; simp
 exact Zx
 refine W.ret (Zq ?_)
 simp [Tryz.f94, hres, hw]
 refine W.skip ?_
 apply Zr; intros
 refine Zo ?_; simp
 exact Zx
 refine W.seq ?_
 apply Zr; intros
 refine Zo ?_; simp
 exact Zx
 refine W.block ?_
 refine W.loopk [1] [1] (fun k0 => [(4, .d (.lf (.int .i64 (k0 : Int)))), (3, .d (.lf (.int .i64 ((eDpk x.fList k0 : Nat) : Int))))]) (fun _ => []) x.fList.length rfl (by simp [eDpk_zero]) fun k0 hk0 T hT => ?_
 simp at hT; subst hT
 refine W.seq ?_
 apply Zr; intros
 iterate 5 (refine Zo ?_; simp)
 exact Zx
 refine Zc rfl ?_ ?_ <;> intro hb1 <;> try simp at hb1
 have hx := ixNext hb1 (by omega)
 have hw := eDpk_s hb1
 refine W.skip ?_
 refine Zb ?_
 apply Zs; intros
 iterate 6 (refine Zo ?_ (by simp [hb1, hx, hw] <;> omega); simp [hb1, hx, hw])
 refine Zl [] rfl Tryz.func94 (hc x.fList[k0] (gm hb1) _) ?_ (by simp [hb1, hx, hw]); simp [hb1, hx, hw]
 refine Zl [] rfl Tryz.func142 (l1Max_d (eDpk x.fList k0) (eDepth x.fList[k0]) _) ?_ (by simp [hb1, hx, hw]); simp [hb1, hx, hw]
 refine Zo ?_ (by simp [hb1, hx, hw] <;> omega); simp [hb1, hx, hw]
 exact Zx
 apply Zs; intros
 iterate 3 (refine Zo ?_ (by simp [hb1, hx, hw] <;> omega); simp [hb1, hx, hw])
 exact Zx
 refine ⟨hb1, Wz.to rfl rfl rfl ?_⟩
 simp
 have hkl : k0 = x.fList.length := by omega
 subst hkl
 have hres := (eDpk_full hb0).symm
 have hw := i64w (n := (eDpk x.fList x.fList.length : Int) + 1) (by omega) (by omega)
 refine W.exit ?_
 apply Zr; intros
 iterate 3 (refine Zo ?_; simp)
 exact Zx
 refine W.ret (Zq ?_)
 simp [Tryz.f94, hres, hw]
theorem idxByte0 (s : ByteArray) (c : Int) (w : World) : Calls Tryz.prog 284 #[.string s, .int .u8 c] w fun e w' => e = .returned (.int .i64 (Lib.indexByte s.data.toList c.toNat.toUInt8)) ∧ w' = w := by
 go_enter Tryz.func284, Tryz.ntmps284
 go_wp2
 rw [run_callFunc_extern Tryz.func292 (by kernel_rfl) (by kernel_rfl) (by kernel_rfl) (e := Extern.BytealgIndexByte.indexByte) (by kernel_rfl), Lib.run_indexByteString]
 simp only [Result.andThen]
 rw [Oper.upon_value]
 go_wp2
 go_ret
 exact ⟨rfl, rfl⟩
def atS : ByteArray := ⟨#[39, 45, 43, 42, 60, 61, 46]⟩
def ixB (n : Int) : Int := Lib.indexByte atS.data.toList n.toNat.toUInt8
theorem ixB_all : ∀ k : Fin 256, (-1 ≤ ixB (k.val : Int) ∧ ixB (k.val : Int) < 7) ∧ decide (0 ≤ ixB (k.val : Int)) = (decide ((k.val : Int) = 39) || decide ((k.val : Int) = 45) || decide ((k.val : Int) = 43) || decide ((k.val : Int) = 42) || decide ((k.val : Int) = 60) || decide ((k.val : Int) = 61) || decide ((k.val : Int) = 46)) := by decide +kernel
theorem idxByte_d (k : Fin 256) (h : HP) : CS cx.P 284 [.d (.lf (.string atS)), .d (.lf (.int .u8 (k.val : Int)))] h (.d (.lf (.int .i64 (ixB (k.val : Int))))) h := by
 refine CS.ofVal (c := cx) (args := [.lf (.string atS), .lf (.int .u8 (k.val : Int))]) (v := .int .i64 (ixB (k.val : Int))) (fun w F => ⟨?_, rfl⟩) (fun w vs ⟨F, _, _, hl, hv⟩ => ?_) h
 ·have := (ixB_all k).1
  simp only [rp, okLeaf, i64mn, i64mx]
  exact ⟨trivial, by omega, trivial⟩
 ·obtain ⟨c0, h0, e0⟩ := hv 0 _ rfl
  obtain ⟨c1, h1, e1⟩ := hv 1 _ rfl
  simp only [DD.vw, rp] at h0 h1
  obtain ⟨rfl, -⟩ := h0
  obtain ⟨rfl, -⟩ := h1
  match vs, hl, e0, e1 with
  | [a, b], _, e0, e1 =>
   simp [DD.mk] at e0 e1
   subst e0; subst e1
   refine (idxByte0 atS (k.val : Int) w).mono fun e w' ⟨h1, h2⟩ => ⟨h1, ?_⟩
   subst h2; exact Below.refl _ _
theorem strIdx_d (k : Fin 256) (h : HP) : CS cx.P 263 [.d (.lf (.string atS)), .d (.lf (.int .u8 (k.val : Int)))] h (.d (.lf (.int .i64 (ixB (k.val : Int))))) h := by
 refine Ze Tryz.func263 rfl 8 ?_
 apply Zr; intros
 refine Zo ?_; simp
 exact Zx
 apply Zr; intros
 iterate 2 (refine Zo ?_; simp)
 refine Zl [] rfl Tryz.func284 (idxByte_d k _) ?_; simp
 refine Zo ?_; simp
 exact Zx
 refine W.ret (Zq ?_)
 simp [Tryz.f263]
theorem isAtomByte_d (k : Fin 256) (h : HP) : CS cx.P 230 [.d (.lf (.int .u8 (k.val : Int)))] h (.d (.lf (.bool (atB (k.val : Int))))) h := by
 have hi := (ixB_all k).2
 refine Ze Tryz.func230 rfl 14 ?_
 apply Zr; intros
 refine Zo ?_ (by simp [atS] <;> omega); simp [atS]
 exact Zx
 refine W.seq ?_
 refine W.regJ0 (D := _) rfl fun _ K hD hK => ?_
 refine Zo ?_ (by simp [atS] <;> omega); simp [atS]
 refine Zl [] rfl Tryz.func154 (isLower_d (k.val : Int) _) ?_ (by simp [atS]); simp [atS]
 refine Zo ?_ (by simp [atS] <;> omega); simp [atS]
 refine WL.split 5 _ rfl (fun g5 => ?_) fun g5 => ?_ <;> try simp at g5
 simp [atS]
 iterate 2 (refine Zn hD rfl rfl ?_; simp [atS])
 iterate 2 (refine Zo ?_ (by simp [atS] <;> omega); simp [atS])
 iterate 3 (refine Zn hD rfl rfl ?_; simp [atS])
 iterate 2 (refine Zo ?_ (by simp [atS] <;> omega); simp [atS])
 refine WL.nil (hK _ ?_)
 refine W.ret (Zq ?_)
 simp [Tryz.f230, atB, hi, g5]
 simp [atS]
 refine Zg hD rfl rfl ?_ (by simp [atS] <;> omega); simp [atS]
 refine Zk hD rfl rfl [] rfl Tryz.func155 (isDigit_d (k.val : Int) _) ?_ (by simp [atS]); simp [atS]
 iterate 2 (refine Zo ?_ (by simp [atS] <;> omega); simp [atS])
 refine WL.split 9 _ rfl (fun g9 => ?_) fun g9 => ?_ <;> try simp at g9
 simp [atS]
 iterate 3 (refine Zn hD rfl rfl ?_; simp [atS])
 iterate 2 (refine Zo ?_ (by simp [atS] <;> omega); simp [atS])
 refine WL.nil (hK _ ?_)
 refine W.ret (Zq ?_)
 simp [Tryz.f230, atB, hi, g5, g9]
 simp [atS]
 refine Zg hD rfl rfl ?_ (by simp [atS] <;> omega); simp [atS]
 refine Zk hD rfl rfl [] rfl Tryz.func263 (strIdx_d k _) ?_ (by simp [atS]); simp [atS]
 refine Zg hD rfl rfl ?_ (by simp [atS] <;> omega); simp [atS]
 iterate 2 (refine Zo ?_ (by simp [atS] <;> omega); simp [atS])
 refine WL.nil (hK _ ?_)
 refine W.ret (Zq ?_)
 simp [Tryz.f230, atB, hi, g5, g9]
theorem iAtom_d (s : ByteArray) (hs : s.size ≤ 134217728) (h : HP) : CS cx.P 174 [.d (.lf (.string s))] h (.d (.lf (.bool (isAt s)))) h := by
 refine Ze Tryz.func174 rfl 23 ?_
 apply Zr; intros
 refine Zo ?_; simp
 exact Zx
 refine W.seq ?_
 apply Zr; intros
 iterate 3 (refine Zo ?_; simp)
 exact Zx
 refine W.block ?_
 refine W.loopI [0, 5] [] (fun k0 => [(6, .d (.lf (.int .i64 (k0 : Int))))]) (fun _ => []) s.size (fun k0 => ∀ j, j < k0 → (fun i => atB (bt s i)) j = true) rfl (by simp) (by simp) fun k0 hk0 hi0 T hT => ?_
 simp at hT; subst hT
 apply Zr; intros
 refine Zo ?_; simp
 exact Zx
 refine Zv rfl ?_ ?_ <;> intro hb0 <;> try simp at hb0
 have hx := ixNext hb0 (by omega)
 refine W.skip ?_
 refine Zb ?_
 apply Zr; intros
 iterate 2 (refine Zo ?_ (by simp [hb0, hx] <;> omega); simp [hb0, hx])
 exact Zx
 apply Zr; intros
 iterate 3 (refine Zo ?_ (by simp [hb0, hx] <;> omega); simp [hb0, hx])
 refine Zl [] rfl Tryz.func230 (isAtomByte_d ⟨bt s k0, bt_lt s k0⟩ _) ?_ (by simp [hb0, hx]); simp [hb0, hx]
 refine Zo ?_ (by simp [hb0, hx] <;> omega); simp [hb0, hx]
 exact Zx
 refine Zc rfl ?_ ?_ <;> intro hb1 <;> try simp at hb1
 have hall := allB_false (n := s.size) (p := fun i => atB (bt s i)) hb0 (by simpa using hb1)
 apply Zr; intros
 refine Zo ?_ (by simp [hb0, hx] <;> omega); simp [hb0, hx]
 exact Zx
 refine W.ret (Zq ?_)
 simp [Tryz.f174, isAt, within, hall] <;> omega
 refine W.skip ?_
 apply Zs; intros
 iterate 2 (refine Zo ?_ (by simp [hb0, hx] <;> omega); simp [hb0, hx])
 exact Zx
 refine ⟨hb0, step_all hi0 (by simpa using hb1), Wz.to rfl rfl rfl ?_⟩
 simp
 have hkl : k0 = s.size := by omega
 subst hkl
 have hall := allB_true hi0
 refine W.exit ?_
 refine W.seq ?_
 refine W.regJ0 (D := _) rfl fun _ K hD hK => ?_
 iterate 4 (refine Zo ?_; simp)
 refine WL.split 18 _ rfl (fun g18 => ?_) fun g18 => ?_ <;> try simp at g18
 simp
 iterate 3 (refine Zg hD rfl rfl ?_; simp)
 iterate 2 (refine Zo ?_; simp)
 refine WL.nil (hK _ ?_)
 refine W.ret (Zq ?_)
 simp [Tryz.f174, isAt, within, hall, g18] <;> omega
 simp
 iterate 3 (refine Zn hD rfl rfl ?_; simp)
 iterate 2 (refine Zo ?_; simp)
 refine WL.nil (hK _ ?_)
 refine W.ret (Zq ?_)
 simp [Tryz.f174, isAt, within, hall, g18] <;> omega
end Go.Proofs.YtkadbimpaplnmaaGreatDoor
