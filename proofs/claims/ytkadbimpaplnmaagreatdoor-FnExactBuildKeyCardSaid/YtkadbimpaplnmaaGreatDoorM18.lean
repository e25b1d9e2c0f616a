/- Walks by the Den rules. No condition but sizes. -/
import Derived.Test.YtkadbimpaplnmaaGreatDoorM16
import Derived.Test.YtkadbimpaplnmaaGreatDoorM17
namespace Go.Proofs.YtkadbimpaplnmaaGreatDoor
open Go.RowKit
set_option maxRecDepth 10000
set_option linter.unusedSimpArgs false
set_option maxHeartbeats 4000000
def low (n : Int) : Bool := decide (97 ≤ n) && decide (n ≤ 122)
def dig (n : Int) : Bool := decide (48 ≤ n) && decide (n ≤ 57)
def within (x lo hi : Int) : Bool := decide (lo ≤ x) && decide (x ≤ hi)
def base (s : ByteArray) : Bool := s.toList == [105, 110, 116] || s.toList == [98, 111, 111, 108]
theorem isLower_d (n : Int) (h : HP) : CS cx.P 154 [.d (.lf (.int .u8 (n : Int)))] h (.d (.lf (.bool (low n)))) h := by
 refine Ze Tryz.func154 rfl 9 ?_
 apply Zr; intros
 refine Zo ?_; simp
 exact Zx
 refine W.seq ?_
 refine W.regJ0 (D := _) rfl fun _ K hD hK => ?_
 iterate 3 (refine Zo ?_; simp)
 refine WL.split 5 _ rfl (fun g5 => ?_) fun g5 => ?_ <;> try simp at g5
 simp
 iterate 2 (refine Zg hD rfl rfl ?_; simp)
 iterate 2 (refine Zo ?_; simp)
 refine WL.nil (hK _ ?_)
 refine W.ret (Zq ?_)
 simp [Tryz.f154, low, g5] <;> omega
 simp
 iterate 2 (refine Zn hD rfl rfl ?_; simp)
 iterate 2 (refine Zo ?_; simp)
 refine WL.nil (hK _ ?_)
 refine W.ret (Zq ?_)
 simp [Tryz.f154, low, g5] <;> omega
theorem isDigit_d (n : Int) (h : HP) : CS cx.P 155 [.d (.lf (.int .u8 (n : Int)))] h (.d (.lf (.bool (dig n)))) h := by
 refine Ze Tryz.func155 rfl 9 ?_
 apply Zr; intros
 refine Zo ?_; simp
 exact Zx
 refine W.seq ?_
 refine W.regJ0 (D := _) rfl fun _ K hD hK => ?_
 iterate 3 (refine Zo ?_; simp)
 refine WL.split 5 _ rfl (fun g5 => ?_) fun g5 => ?_ <;> try simp at g5
 simp
 iterate 2 (refine Zg hD rfl rfl ?_; simp)
 iterate 2 (refine Zo ?_; simp)
 refine WL.nil (hK _ ?_)
 refine W.ret (Zq ?_)
 simp [Tryz.f155, dig, g5] <;> omega
 simp
 iterate 2 (refine Zn hD rfl rfl ?_; simp)
 iterate 2 (refine Zo ?_; simp)
 refine WL.nil (hK _ ?_)
 refine W.ret (Zq ?_)
 simp [Tryz.f155, dig, g5] <;> omega
theorem l1In_d (x lo hi : Int) (h : HP) : CS cx.P 19 [.d (.lf (.int .i64 (x))), .d (.lf (.int .i64 (lo))), .d (.lf (.int .i64 (hi)))] h (.d (.lf (.bool (within x lo hi)))) h := by
 refine Ze Tryz.func19 rfl 15 ?_
 apply Zr; intros
 refine Zo ?_; simp
 exact Zx
 refine W.seq ?_
 refine W.regJ0 (D := _) rfl fun _ K hD hK => ?_
 iterate 4 (refine Zo ?_; simp)
 refine WL.split 10 _ rfl (fun g10 => ?_) fun g10 => ?_ <;> try simp at g10
 simp
 iterate 3 (refine Zg hD rfl rfl ?_; simp)
 iterate 2 (refine Zo ?_; simp)
 refine WL.nil (hK _ ?_)
 refine W.ret (Zq ?_)
 simp [Tryz.f19, within, g10] <;> omega
 simp
 iterate 3 (refine Zn hD rfl rfl ?_; simp)
 iterate 2 (refine Zo ?_; simp)
 refine WL.nil (hK _ ?_)
 refine W.ret (Zq ?_)
 simp [Tryz.f19, within, g10] <;> omega
theorem isBuiltIn_d (s : ByteArray) (h : HP) : CS cx.P 275 [.d (.lf (.string s))] h (.d (.lf (.bool (base s)))) h := by
 refine Ze Tryz.func275 rfl 9 ?_
 apply Zr; intros
 refine Zo ?_; simp
 exact Zx
 refine W.seq ?_
 refine W.regJ0 (D := _) rfl fun _ K hD hK => ?_
 iterate 3 (refine Zo ?_; simp)
 refine WL.split 5 _ rfl (fun g5 => ?_) fun g5 => ?_ <;> try simp at g5
 simp
 iterate 2 (refine Zn hD rfl rfl ?_; simp)
 iterate 2 (refine Zo ?_; simp)
 refine WL.nil (hK _ ?_)
 refine W.ret (Zq ?_)
 simp [Tryz.f275, base, g5]
 simp
 iterate 2 (refine Zg hD rfl rfl ?_; simp)
 iterate 2 (refine Zo ?_; simp)
 refine WL.nil (hK _ ?_)
 refine W.ret (Zq ?_)
 simp [Tryz.f275, base, g5]
theorem l4Base_d (s : ByteArray) (h : HP) : CS cx.P 267 [.d (.lf (.string s))] h (.d (.lf (.bool (base s)))) h := by
 refine Ze Tryz.func267 rfl 9 ?_
 apply Zr; intros
 refine Zo ?_; simp
 exact Zx
 refine W.seq ?_
 refine W.regJ0 (D := _) rfl fun _ K hD hK => ?_
 iterate 3 (refine Zo ?_; simp)
 refine WL.split 5 _ rfl (fun g5 => ?_) fun g5 => ?_ <;> try simp at g5
 simp
 iterate 2 (refine Zn hD rfl rfl ?_; simp)
 iterate 2 (refine Zo ?_; simp)
 refine WL.nil (hK _ ?_)
 refine W.ret (Zq ?_)
 simp [Tryz.f267, base, g5]
 simp
 iterate 2 (refine Zg hD rfl rfl ?_; simp)
 iterate 2 (refine Zo ?_; simp)
 refine WL.nil (hK _ ?_)
 refine W.ret (Zq ?_)
 simp [Tryz.f267, base, g5]
theorem notAt_step {l : List ByteArray} {s : ByteArray} {k : Nat} (h : ∀ j, j < k → l[j]? ≠ some s) (hk : k < l.length) (hn : ¬ l[k] = s) : ∀ j, j < k + 1 → l[j]? ≠ some s := fun j hj => by
 rcases Nat.lt_or_ge j k with q | q
 ·exact h j q
 ·have : j = k := by omega
  subst this
  rw [List.getElem?_eq_getElem hk]; simpa using hn
theorem notAt_all {l : List ByteArray} {s : ByteArray} (h : ∀ j, j < l.length → l[j]? ≠ some s) : s ∉ l := fun hs => by
 obtain ⟨j, hj⟩ := List.mem_iff_getElem?.1 hs
 exact h j (List.getElem?_eq_some_iff.1 hj).1 hj
theorem l1Has_d (l : List ByteArray) (s : ByteArray) (hm : l.length ≤ 4294967296) (h : HP) : CS cx.P 80 [.d (.sl false .one (l.map dS)), .d (.lf (.string s))] h (.d (.lf (.bool (hasS l s)))) h := by
 refine Ze Tryz.func80 rfl 18 ?_
 apply Zr; intros
 refine Zo ?_; simp
 exact Zx
 refine W.seq ?_
 apply Zr; intros
 refine Zo ?_; simp
 exact Zx
 refine W.block ?_
 refine W.loopI [0, 1] [] (fun k0 => [(5, .d (.lf (.int .i64 (k0 : Int))))]) (fun _ => []) l.length (fun k0 => ∀ j, j < k0 → l[j]? ≠ some s) rfl (by simp) (by simp) fun k0 hk0 hi0 T hT => ?_
 simp at hT; subst hT
 refine W.seq ?_
 apply Zr; intros
 iterate 4 (refine Zo ?_; simp)
 exact Zx
 refine Zc rfl ?_ ?_ <;> intro hb0 <;> try simp at hb0
 have hx := ixNext hb0 (by omega)
 refine W.skip ?_
 refine Zb ?_
 apply Zr; intros
 iterate 6 (refine Zo ?_ (by simp [hb0, hx] <;> omega); simp [hb0, hx])
 exact Zx
 refine Zc rfl ?_ ?_ <;> intro hb1 <;> try simp at hb1
 have hres := hasS_true (hb1 ▸ gm hb0 : s ∈ l)
 apply Zr; intros
 refine Zo ?_ (by simp [hb0, hx] <;> omega); simp [hb0, hx]
 exact Zx
 refine W.ret (Zq ?_)
 simp [Tryz.f80, hres]
 refine W.skip ?_
 apply Zs; intros
 iterate 3 (refine Zo ?_ (by simp [hb0, hx] <;> omega); simp [hb0, hx])
 exact Zx
 refine ⟨hb0, notAt_step hi0 hb0 hb1, Wz.to rfl rfl rfl ?_⟩
 simp
 have hkl : k0 = l.length := by omega
 subst hkl
 have hres := hasS_false (notAt_all hi0)
 refine W.exit ?_
 apply Zr; intros
 refine Zo ?_; simp
 exact Zx
 refine W.ret (Zq ?_)
 simp [Tryz.f80, hres]
def rsv : List ByteArray := [⟨#[105, 110, 116]⟩, ⟨#[98, 111, 111, 108]⟩, ⟨#[97, 115, 115, 111, 99]⟩, ⟨#[100, 121, 110]⟩, ⟨#[105, 102]⟩, ⟨#[108, 101, 116]⟩, ⟨#[99, 97, 115, 101]⟩, ⟨#[110, 101, 119]⟩, ⟨#[109, 101, 116, 104, 111, 100]⟩, ⟨#[112, 97, 99, 107]⟩, ⟨#[116, 114, 117, 101]⟩, ⟨#[102, 97, 108, 115, 101]⟩]
def nameAt (s : ByteArray) (i : Nat) : Bool := low (bt s i) || !(decide (i = 0)) && dig (bt s i)
def isNm (s : ByteArray) : Bool := allB s.size (nameAt s) && within s.size 1 8 && !hasS rsv s
theorem isNm_no {s : ByteArray} {k : Nat} (hk : k < s.size) (h : nameAt s k = false) : isNm s = false := by
 unfold isNm; rw [allB_false hk h]; rfl
theorem sReserved_d (s : ByteArray) (h : HP) : CS cx.P 130 [.d (.lf (.string s))] h (.d (.lf (.bool (hasS rsv s)))) h := by
 refine Ze Tryz.func130 rfl 6 ?_
 apply Zr; intros
 refine Zo ?_ (by simp [rsv] <;> omega); simp [rsv]
 exact Zx
 apply Zr; intros
 iterate 2 (refine Zo ?_ (by simp [rsv] <;> omega); simp [rsv])
 refine Zl [] rfl Tryz.func80 (l1Has_d rsv s (by decide) _) ?_ (by simp [rsv]); simp [rsv]
 refine Zo ?_ (by simp [rsv] <;> omega); simp [rsv]
 exact Zx
 refine W.ret (Zq ?_)
 simp [Tryz.f130, rsv]
theorem sName_d (s : ByteArray) (hs : s.size ≤ 134217728) (h : HP) : CS cx.P 78 [.d (.lf (.string s))] h (.d (.lf (.bool (isNm s)))) h := by
 refine Ze Tryz.func78 rfl 47 ?_
 apply Zr; intros
 refine Zo ?_; simp
 exact Zx
 refine W.seq ?_
 refine W.seq ?_
 refine W.regJ0 (D := _) rfl fun _ K hD hK => ?_
 iterate 2 (refine Zo ?_; simp)
 refine Zl [] rfl Tryz.func19 (l1In_d s.size 1 8 _) ?_; simp
 iterate 2 (refine Zo ?_; simp)
 refine WL.split 9 _ rfl (fun g9 => ?_) fun g9 => ?_ <;> try simp at g9
 have hres : isNm s = false := by simp [isNm, g9]
 simp
 iterate 2 (refine Zn hD rfl rfl ?_; simp)
 refine Zo ?_; simp
 refine WL.nil (hK _ ?_)
 refine W.condT rfl trivial ?_
 apply Zr; intros
 refine Zo ?_; simp
 exact Zx
 refine W.ret (Zq ?_)
 simp [Tryz.f78, hres]
 simp
 refine Zg hD rfl rfl ?_; simp
 refine Zk hD rfl rfl [] rfl Tryz.func130 (sReserved_d s _) ?_; simp
 refine Zo ?_; simp
 refine WL.nil (hK _ ?_)
 refine Zc rfl ?_ ?_ <;> intro hb0 <;> try simp at hb0
 have hres : isNm s = false := by simp [isNm, hb0]
 apply Zr; intros
 refine Zo ?_; simp
 exact Zx
 refine W.ret (Zq ?_)
 simp [Tryz.f78, hres]
 refine W.skip ?_
 refine W.seq ?_
 apply Zr; intros
 refine Zo ?_; simp
 exact Zx
 refine W.block ?_
 refine W.loopI [0] [] (fun k0 => [(3, .d (.lf (.int .i64 (k0 : Int))))]) (fun _ => []) s.size (fun k0 => ∀ j, j < k0 → nameAt s j = true) rfl (by simp) (by simp) fun k0 hk0 hi0 T hT => ?_
 simp at hT; subst hT
 refine W.seq ?_
 apply Zr; intros
 iterate 4 (refine Zo ?_; simp)
 exact Zx
 refine Zc rfl ?_ ?_ <;> intro hb1 <;> try simp at hb1
 have hx := ixNext hb1 (by omega)
 refine W.skip ?_
 refine Zb ?_
 refine W.seq ?_
 refine W.regJ (D := _) [0, 3] [] [(4, .d (.lf (.bool (low ((bt s k0 : Nat) : Int)))))] [] rfl (fun _ K hD hK => ?_) fun T hT => ?_
 iterate 5 (refine Zo ?_ (by simp [hb1, hx] <;> omega); simp [hb1, hx])
 refine WL.split 23 _ rfl (fun g23 => ?_) fun g23 => ?_ <;> try simp at g23
 simp [hb1, hx]
 iterate 4 (refine Zg hD rfl rfl ?_ (by simp [hb1, hx] <;> omega); simp [hb1, hx])
 iterate 2 (refine Zo ?_ (by simp [hb1, hx] <;> omega); simp [hb1, hx])
 refine WL.nil (hK _ (Wz.to rfl rfl rfl ?_))
 simp [low, g9, g23] <;> omega
 simp [hb1, hx]
 iterate 4 (refine Zn hD rfl rfl ?_; simp [hb1, hx])
 iterate 2 (refine Zo ?_ (by simp [hb1, hx] <;> omega); simp [hb1, hx])
 refine WL.nil (hK _ (Wz.to rfl rfl rfl ?_))
 simp [low, g9, g23] <;> omega
 simp at hT; subst hT
 refine W.seq ?_
 refine W.regJ (D := _) [0, 3] [] [(46, .d (.lf (.bool (!nameAt s k0))))] [] rfl (fun _ K hD hK => ?_) fun T hT => ?_
 iterate 3 (refine Zo ?_ (by simp [hb1, hx] <;> omega); simp [hb1, hx])
 refine WL.split 31 _ rfl (fun g31 => ?_) fun g31 => ?_ <;> try simp at g31
 simp [hb1, hx]
 iterate 3 (refine Zg hD rfl rfl ?_ (by simp [hb1, hx] <;> omega); simp [hb1, hx])
 refine WL.split 34 _ rfl (fun g34 => ?_) fun g34 => ?_ <;> try simp at g34
 have e0 := g34
 subst e0
 simp [hb1, hx]
 iterate 4 (refine Zn hD rfl rfl ?_; simp [hb1, hx])
 iterate 2 (refine Zg hD rfl rfl ?_ (by simp [hb1, hx] <;> omega); simp [hb1, hx])
 iterate 4 (refine Zn hD rfl rfl ?_; simp [hb1, hx])
 refine Zg hD rfl rfl ?_ (by simp [hb1, hx] <;> omega); simp [hb1, hx]
 refine Zo ?_ (by simp [hb1, hx] <;> omega); simp [hb1, hx]
 refine WL.nil (hK _ (Wz.to rfl rfl rfl ?_))
 simp [nameAt, dig, g9, g31, g34] <;> first | omega | grind
 simp [hb1, hx]
 iterate 6 (refine Zg hD rfl rfl ?_ (by simp [hb1, hx] <;> omega); simp [hb1, hx])
 refine WL.split 40 _ rfl (fun g40 => ?_) fun g40 => ?_ <;> try simp at g40
 simp [hb1, hx]
 iterate 4 (refine Zn hD rfl rfl ?_; simp [hb1, hx])
 refine Zg hD rfl rfl ?_ (by simp [hb1, hx] <;> omega); simp [hb1, hx]
 refine Zo ?_ (by simp [hb1, hx] <;> omega); simp [hb1, hx]
 refine WL.nil (hK _ (Wz.to rfl rfl rfl ?_))
 simp [nameAt, dig, g9, g31, g34, g40] <;> first | omega | grind
 simp [hb1, hx]
 iterate 5 (refine Zg hD rfl rfl ?_ (by simp [hb1, hx] <;> omega); simp [hb1, hx])
 refine Zo ?_ (by simp [hb1, hx] <;> omega); simp [hb1, hx]
 refine WL.nil (hK _ (Wz.to rfl rfl rfl ?_))
 simp [nameAt, dig, g9, g31, g34, g40] <;> first | omega | grind
 simp [hb1, hx]
 iterate 14 (refine Zn hD rfl rfl ?_; simp [hb1, hx])
 refine Zo ?_ (by simp [hb1, hx] <;> omega); simp [hb1, hx]
 refine WL.nil (hK _ (Wz.to rfl rfl rfl ?_))
 simp [nameAt, dig, g9, g31] <;> first | omega | grind
 simp at hT; subst hT
 refine Zc rfl ?_ ?_ <;> intro hb2 <;> try simp at hb2
 have hres := isNm_no hb1 (by simpa using hb2)
 apply Zr; intros
 refine Zo ?_ (by simp [hb1, hx] <;> omega); simp [hb1, hx]
 exact Zx
 refine W.ret (Zq ?_)
 simp [Tryz.f78, hres]
 refine W.skip ?_
 apply Zs; intros
 iterate 3 (refine Zo ?_ (by simp [hb1, hx] <;> omega); simp [hb1, hx])
 exact Zx
 refine ⟨hb1, step_all hi0 (by simpa using hb2), Wz.to rfl rfl rfl ?_⟩
 simp
 have hkl : k0 = s.size := by omega
 subst hkl
 have hres : isNm s = true := by simp [isNm, allB_true hi0, g9, hb0]
 refine W.exit ?_
 apply Zr; intros
 refine Zo ?_; simp
 exact Zx
 refine W.ret (Zq ?_)
 simp [Tryz.f78, hres]
def idxP {α : Type} (l : List α) (p : α → Bool) : Int := match l.findIdx? p with
 | some i => (i : Int)
 | none => -1
theorem idxP_at {α : Type} {l : List α} {p : α → Bool} {k : Nat} (h : ∀ j, j < k → ∀ y, l[j]? = some y → p y = false) (hk : k < l.length) (e : p l[k] = true) : idxP l p = (k : Int) := by
 have : l.findIdx? p = some k := by
  rw [List.findIdx?_eq_some_iff_getElem]
  refine ⟨hk, e, fun j hj => ?_⟩
  rw [h j hj l[j] (List.getElem?_eq_getElem (by omega))]; simp
 unfold idxP; rw [this]
theorem idxP_no {α : Type} {l : List α} {p : α → Bool} (h : ∀ j, j < l.length → ∀ y, l[j]? = some y → p y = false) : idxP l p = -1 := by
 have : l.findIdx? p = none := by
  rw [List.findIdx?_eq_none_iff]
  intro x hx
  obtain ⟨j, hj⟩ := List.mem_iff_getElem?.1 hx
  exact h j (List.getElem?_eq_some_iff.1 hj).1 x hj
 unfold idxP; rw [this]
theorem idxP_any {α : Type} (l : List α) (p : α → Bool) : decide (0 ≤ idxP l p) = l.any p := by
 unfold idxP
 cases h : l.findIdx? p with
 | none =>
  rw [List.findIdx?_eq_none_iff] at h
  have : l.any p = false := by rw [List.any_eq_false]; intro x hx; simp [h x hx]
  rw [this]; rfl
 | some i =>
  rw [List.findIdx?_eq_some_iff_getElem] at h
  obtain ⟨h1, h2, -⟩ := h
  have : l.any p = true := List.any_eq_true.2 ⟨l[i], gm h1, h2⟩
  rw [this]; simp
theorem noP_step {α : Type} {l : List α} {p : α → Bool} {k : Nat} (h : ∀ j, j < k → ∀ y, l[j]? = some y → p y = false) (hk : k < l.length) (hn : p l[k] = false) : ∀ j, j < k + 1 → ∀ y, l[j]? = some y → p y = false := fun j hj y hy => by
 rcases Nat.lt_or_ge j k with q | q
 ·exact h j q y hy
 ·have : j = k := by omega
  subst this
  rw [List.getElem?_eq_getElem hk] at hy
  cases hy; exact hn
theorem IndexFuncType_d (l : List TType) (hm : l.length ≤ 134217728) (g : Nat) (fn : Func) (body : Code) (hg : FnOk cx.P g fn body) (p : TType → Bool) (hp : ∀ y ∈ l, ∀ h, CS cx.P g [.d (y.dd false)] h (.d (.lf (.bool (p y)))) h) (h : HP) : CS cx.P 254 [.d (.sl false sh88 (l.map (TType.dd false))), .fn g []] h (.d (.lf (.int .i64 (idxP l p)))) h := by
 refine Ze Tryz.func254 rfl 19 ?_
 apply Zr; intros
 refine Zo ?_; simp
 exact Zx
 refine W.seq ?_
 apply Zr; intros
 iterate 3 (refine Zo ?_; simp)
 exact Zx
 refine W.block ?_
 refine W.loopI [0, 1, 7] [] (fun k0 => [(8, .d (.lf (.int .i64 (k0 : Int))))]) (fun _ => []) l.length (fun k0 => ∀ j, j < k0 → ∀ y, l[j]? = some y → p y = false) rfl (by simp) (by simp) fun k0 hk0 hi0 T hT => ?_
 simp at hT; subst hT
 apply Zr; intros
 refine Zo ?_; simp
 exact Zx
 refine Zv rfl ?_ ?_ <;> intro hb0 <;> try simp at hb0
 have hx := ixNext hb0 (by omega)
 refine W.skip ?_
 refine Zb ?_
 apply Zr; intros
 iterate 2 (refine Zo ?_ (by simp [hb0, hx] <;> omega); simp [hb0, hx])
 exact Zx
 apply Zr; intros
 iterate 5 (refine Zo ?_ (by simp [hb0, hx] <;> omega); simp [hb0, hx])
 refine WL.call [] _ _ _ rfl rfl (by simp) (g := g) (caps := []) (by simp) (by simp) hg rfl (by simp [hb0, hx]) (by simp) (by simp [hb0, hx]) (hp l[k0] (gm hb0) _) rfl ?_; simp [hb0, hx]
 exact Zx
 refine Zc rfl ?_ ?_ <;> intro hb1 <;> try simp at hb1
 have hres := idxP_at hi0 hb0 hb1
 apply Zr; intros
 iterate 2 (refine Zo ?_ (by simp [hb0, hx] <;> omega); simp [hb0, hx])
 exact Zx
 refine W.ret (Zq ?_)
 simp [Tryz.f254, hres]
 refine W.skip ?_
 apply Zs; intros
 iterate 2 (refine Zo ?_ (by simp [hb0, hx] <;> omega); simp [hb0, hx])
 exact Zx
 refine ⟨hb0, noP_step hi0 hb0 hb1, Wz.to rfl rfl rfl ?_⟩
 simp
 have hkl : k0 = l.length := by omega
 subst hkl
 have hres := idxP_no hi0
 refine W.exit ?_
 apply Zr; intros
 refine Zo ?_; simp
 exact Zx
 refine W.ret (Zq ?_)
 simp [Tryz.f254, hres]
theorem ContainsFuncType_d (l : List TType) (hm : l.length ≤ 134217728) (g : Nat) (fn : Func) (body : Code) (hg : FnOk cx.P g fn body) (p : TType → Bool) (hp : ∀ y ∈ l, ∀ h, CS cx.P g [.d (y.dd false)] h (.d (.lf (.bool (p y)))) h) (h : HP) : CS cx.P 217 [.d (.sl false sh88 (l.map (TType.dd false))), .fn g []] h (.d (.lf (.bool (l.any p)))) h := by
 refine Ze Tryz.func217 rfl 9 ?_
 apply Zr; intros
 refine Zo ?_; simp
 exact Zx
 apply Zr; intros
 iterate 2 (refine Zo ?_; simp)
 refine Zl [] rfl Tryz.func254 (IndexFuncType_d l hm g fn body hg p hp _) ?_; simp
 iterate 2 (refine Zo ?_; simp)
 exact Zx
 refine W.ret (Zq ?_)
 simp [Tryz.f217, ← idxP_any]
theorem IndexFuncSExpr_d (l : List TSExpr) (hm : l.length ≤ 134217728) (g : Nat) (fn : Func) (body : Code) (hg : FnOk cx.P g fn body) (p : TSExpr → Bool) (hp : ∀ y ∈ l, ∀ h, CS cx.P g [.d (y.dd false)] h (.d (.lf (.bool (p y)))) h) (h : HP) : CS cx.P 231 [.d (.sl false sh61 (l.map (TSExpr.dd false))), .fn g []] h (.d (.lf (.int .i64 (idxP l p)))) h := by
 refine Ze Tryz.func231 rfl 19 ?_
 apply Zr; intros
 refine Zo ?_; simp
 exact Zx
 refine W.seq ?_
 apply Zr; intros
 iterate 3 (refine Zo ?_; simp)
 exact Zx
 refine W.block ?_
 refine W.loopI [0, 1, 7] [] (fun k0 => [(8, .d (.lf (.int .i64 (k0 : Int))))]) (fun _ => []) l.length (fun k0 => ∀ j, j < k0 → ∀ y, l[j]? = some y → p y = false) rfl (by simp) (by simp) fun k0 hk0 hi0 T hT => ?_
 simp at hT; subst hT
 apply Zr; intros
 refine Zo ?_; simp
 exact Zx
 refine Zv rfl ?_ ?_ <;> intro hb0 <;> try simp at hb0
 have hx := ixNext hb0 (by omega)
 refine W.skip ?_
 refine Zb ?_
 apply Zr; intros
 iterate 2 (refine Zo ?_ (by simp [hb0, hx] <;> omega); simp [hb0, hx])
 exact Zx
 apply Zr; intros
 iterate 5 (refine Zo ?_ (by simp [hb0, hx] <;> omega); simp [hb0, hx])
 refine WL.call [] _ _ _ rfl rfl (by simp) (g := g) (caps := []) (by simp) (by simp) hg rfl (by simp [hb0, hx]) (by simp) (by simp [hb0, hx]) (hp l[k0] (gm hb0) _) rfl ?_; simp [hb0, hx]
 exact Zx
 refine Zc rfl ?_ ?_ <;> intro hb1 <;> try simp at hb1
 have hres := idxP_at hi0 hb0 hb1
 apply Zr; intros
 iterate 2 (refine Zo ?_ (by simp [hb0, hx] <;> omega); simp [hb0, hx])
 exact Zx
 refine W.ret (Zq ?_)
 simp [Tryz.f231, hres]
 refine W.skip ?_
 apply Zs; intros
 iterate 2 (refine Zo ?_ (by simp [hb0, hx] <;> omega); simp [hb0, hx])
 exact Zx
 refine ⟨hb0, noP_step hi0 hb0 hb1, Wz.to rfl rfl rfl ?_⟩
 simp
 have hkl : k0 = l.length := by omega
 subst hkl
 have hres := idxP_no hi0
 refine W.exit ?_
 apply Zr; intros
 refine Zo ?_; simp
 exact Zx
 refine W.ret (Zq ?_)
 simp [Tryz.f231, hres]
theorem ContainsFuncSExpr_d (l : List TSExpr) (hm : l.length ≤ 134217728) (g : Nat) (fn : Func) (body : Code) (hg : FnOk cx.P g fn body) (p : TSExpr → Bool) (hp : ∀ y ∈ l, ∀ h, CS cx.P g [.d (y.dd false)] h (.d (.lf (.bool (p y)))) h) (h : HP) : CS cx.P 175 [.d (.sl false sh61 (l.map (TSExpr.dd false))), .fn g []] h (.d (.lf (.bool (l.any p)))) h := by
 refine Ze Tryz.func175 rfl 9 ?_
 apply Zr; intros
 refine Zo ?_; simp
 exact Zx
 apply Zr; intros
 iterate 2 (refine Zo ?_; simp)
 refine Zl [] rfl Tryz.func231 (IndexFuncSExpr_d l hm g fn body hg p hp _) ?_; simp
 iterate 2 (refine Zo ?_; simp)
 exact Zx
 refine W.ret (Zq ?_)
 simp [Tryz.f175, ← idxP_any]
def atB (n : Int) : Bool := low n || dig n || decide (n = 39) || decide (n = 45) || decide (n = 43) || decide (n = 42) || decide (n = 60) || decide (n = 61) || decide (n = 46)
def isAt (s : ByteArray) : Bool := allB s.size (fun i => atB (bt s i)) && within s.size 1 12
theorem l2Byte_d (n : Int) (h : HP) : CS cx.P 200 [.d (.lf (.int .u8 (n : Int)))] h (.d (.lf (.bool (atB n)))) h := by
 refine Ze Tryz.func200 rfl 45 ?_
 apply Zr; intros
 refine Zo ?_; simp
 exact Zx
 refine W.seq ?_
 refine W.regJ0 (D := _) rfl fun _ K hD hK => ?_
 refine WL.mid 6 [0] [] [(8, .d (.lf (.bool (low n))))] [] (fun hr => ?_) fun T hT => ?_
 iterate 3 (refine Zo ?_; simp)
 refine WL.split 5 _ rfl (fun g5 => ?_) fun g5 => ?_ <;> try simp at g5
 simp
 iterate 2 (refine Zg hD rfl rfl ?_; simp)
 refine Zo ?_; simp
 exact hr _ (Wz.to rfl rfl rfl (by simp [low, g5] <;> omega))
 simp
 iterate 2 (refine Zn hD rfl rfl ?_; simp)
 refine Zo ?_; simp
 exact hr _ (Wz.to rfl rfl rfl (by simp [low, g5] <;> omega))
 simp at hT; subst hT
 refine WL.mid 8 [0] [] [(16, .d (.lf (.bool (low n || dig n))))] [] (fun hr => ?_) fun T hT => ?_
 refine Zo ?_; simp
 refine WL.split 9 _ rfl (fun g9 => ?_) fun g9 => ?_ <;> try simp at g9
 simp
 iterate 6 (refine Zn hD rfl rfl ?_; simp)
 refine Zo ?_; simp
 exact hr _ (Wz.to rfl rfl rfl (by simp [dig, g9] <;> first | omega | grind))
 simp
 iterate 3 (refine Zg hD rfl rfl ?_; simp)
 refine WL.split 12 _ rfl (fun g12 => ?_) fun g12 => ?_ <;> try simp at g12
 simp
 iterate 3 (refine Zg hD rfl rfl ?_; simp)
 refine Zo ?_; simp
 exact hr _ (Wz.to rfl rfl rfl (by simp [dig, g9, g12] <;> first | omega | grind))
 simp
 iterate 2 (refine Zn hD rfl rfl ?_; simp)
 refine Zg hD rfl rfl ?_; simp
 refine Zo ?_; simp
 exact hr _ (Wz.to rfl rfl rfl (by simp [dig, g9, g12] <;> first | omega | grind))
 simp at hT; subst hT
 refine WL.mid 4 [0] [] [(20, .d (.lf (.bool (low n || dig n || decide (n = 39)))))] [] (fun hr => ?_) fun T hT => ?_
 refine Zo ?_; simp
 refine WL.split 17 _ rfl (fun g17 => ?_) fun g17 => ?_ <;> try simp at g17
 simp
 iterate 2 (refine Zn hD rfl rfl ?_; simp)
 refine Zo ?_; simp
 exact hr _ (Wz.to rfl rfl rfl (by simp [g17]))
 simp
 iterate 2 (refine Zg hD rfl rfl ?_; simp)
 refine Zo ?_; simp
 exact hr _ (Wz.to rfl rfl rfl (by simp [g17]))
 simp at hT; subst hT
 refine WL.mid 4 [0] [] [(24, .d (.lf (.bool (low n || dig n || decide (n = 39) || decide (n = 45)))))] [] (fun hr => ?_) fun T hT => ?_
 refine Zo ?_; simp
 refine WL.split 21 _ rfl (fun g21 => ?_) fun g21 => ?_ <;> try simp at g21
 simp
 iterate 2 (refine Zn hD rfl rfl ?_; simp)
 refine Zo ?_; simp
 exact hr _ (Wz.to rfl rfl rfl (by simp [g21]))
 simp
 iterate 2 (refine Zg hD rfl rfl ?_; simp)
 refine Zo ?_; simp
 exact hr _ (Wz.to rfl rfl rfl (by simp [g21]))
 simp at hT; subst hT
 refine WL.mid 4 [0] [] [(28, .d (.lf (.bool (low n || dig n || decide (n = 39) || decide (n = 45) || decide (n = 43)))))] [] (fun hr => ?_) fun T hT => ?_
 refine Zo ?_; simp
 refine WL.split 25 _ rfl (fun g25 => ?_) fun g25 => ?_ <;> try simp at g25
 simp
 iterate 2 (refine Zn hD rfl rfl ?_; simp)
 refine Zo ?_; simp
 exact hr _ (Wz.to rfl rfl rfl (by simp [g25]))
 simp
 iterate 2 (refine Zg hD rfl rfl ?_; simp)
 refine Zo ?_; simp
 exact hr _ (Wz.to rfl rfl rfl (by simp [g25]))
 simp at hT; subst hT
 refine WL.mid 4 [0] [] [(32, .d (.lf (.bool (low n || dig n || decide (n = 39) || decide (n = 45) || decide (n = 43) || decide (n = 42)))))] [] (fun hr => ?_) fun T hT => ?_
 refine Zo ?_; simp
 refine WL.split 29 _ rfl (fun g29 => ?_) fun g29 => ?_ <;> try simp at g29
 simp
 iterate 2 (refine Zn hD rfl rfl ?_; simp)
 refine Zo ?_; simp
 exact hr _ (Wz.to rfl rfl rfl (by simp [g29]))
 simp
 iterate 2 (refine Zg hD rfl rfl ?_; simp)
 refine Zo ?_; simp
 exact hr _ (Wz.to rfl rfl rfl (by simp [g29]))
 simp at hT; subst hT
 refine WL.mid 4 [0] [] [(36, .d (.lf (.bool (low n || dig n || decide (n = 39) || decide (n = 45) || decide (n = 43) || decide (n = 42) || decide (n = 60)))))] [] (fun hr => ?_) fun T hT => ?_
 refine Zo ?_; simp
 refine WL.split 33 _ rfl (fun g33 => ?_) fun g33 => ?_ <;> try simp at g33
 simp
 iterate 2 (refine Zn hD rfl rfl ?_; simp)
 refine Zo ?_; simp
 exact hr _ (Wz.to rfl rfl rfl (by simp [g33]))
 simp
 iterate 2 (refine Zg hD rfl rfl ?_; simp)
 refine Zo ?_; simp
 exact hr _ (Wz.to rfl rfl rfl (by simp [g33]))
 simp at hT; subst hT
 refine WL.mid 4 [0] [] [(40, .d (.lf (.bool (low n || dig n || decide (n = 39) || decide (n = 45) || decide (n = 43) || decide (n = 42) || decide (n = 60) || decide (n = 61)))))] [] (fun hr => ?_) fun T hT => ?_
 refine Zo ?_; simp
 refine WL.split 37 _ rfl (fun g37 => ?_) fun g37 => ?_ <;> try simp at g37
 simp
 iterate 2 (refine Zn hD rfl rfl ?_; simp)
 refine Zo ?_; simp
 exact hr _ (Wz.to rfl rfl rfl (by simp [g37]))
 simp
 iterate 2 (refine Zg hD rfl rfl ?_; simp)
 refine Zo ?_; simp
 exact hr _ (Wz.to rfl rfl rfl (by simp [g37]))
 simp at hT; subst hT
 refine WL.mid 4 [] [] [(44, .d (.lf (.bool (low n || dig n || decide (n = 39) || decide (n = 45) || decide (n = 43) || decide (n = 42) || decide (n = 60) || decide (n = 61) || decide (n = 46)))))] [] (fun hr => ?_) fun T hT => ?_
 refine Zo ?_; simp
 refine WL.split 41 _ rfl (fun g41 => ?_) fun g41 => ?_ <;> try simp at g41
 simp
 iterate 2 (refine Zn hD rfl rfl ?_; simp)
 refine Zo ?_; simp
 exact hr _ (Wz.to rfl rfl rfl (by simp [g41]))
 simp
 iterate 2 (refine Zg hD rfl rfl ?_; simp)
 refine Zo ?_; simp
 exact hr _ (Wz.to rfl rfl rfl (by simp [g41]))
 simp at hT; subst hT
 refine Zo ?_; simp
 refine WL.nil (hK _ ?_)
 refine W.ret (Zq ?_)
 simp [Tryz.f200, atB]
theorem sAtom_d (s : ByteArray) (hs : s.size ≤ 134217728) (h : HP) : CS cx.P 141 [.d (.lf (.string s))] h (.d (.lf (.bool (isAt s)))) h := by
 refine Ze Tryz.func141 rfl 18 ?_
 apply Zr; intros
 refine Zo ?_; simp
 exact Zx
 refine W.seq ?_
 apply Zr; intros
 refine Zo ?_; simp
 exact Zx
 refine W.block ?_
 refine W.loopI [0] [] (fun k0 => [(3, .d (.lf (.int .i64 (k0 : Int))))]) (fun _ => []) s.size (fun k0 => ∀ j, j < k0 → (fun i => atB (bt s i)) j = true) rfl (by simp) (by simp) fun k0 hk0 hi0 T hT => ?_
 simp at hT; subst hT
 refine W.seq ?_
 apply Zr; intros
 iterate 4 (refine Zo ?_; simp)
 exact Zx
 refine Zc rfl ?_ ?_ <;> intro hb0 <;> try simp at hb0
 have hx := ixNext hb0 (by omega)
 refine W.skip ?_
 refine Zb ?_
 apply Zr; intros
 iterate 3 (refine Zo ?_ (by simp [hb0, hx] <;> omega); simp [hb0, hx])
 refine Zl [] rfl Tryz.func200 (l2Byte_d ((bt s k0 : Nat) : Int) _) ?_ (by simp [hb0, hx]); simp [hb0, hx]
 refine Zo ?_ (by simp [hb0, hx] <;> omega); simp [hb0, hx]
 exact Zx
 refine Zc rfl ?_ ?_ <;> intro hb1 <;> try simp at hb1
 have hall := allB_false (n := s.size) (p := fun i => atB (bt s i)) hb0 (by simpa using hb1)
 apply Zr; intros
 refine Zo ?_ (by simp [hb0, hx] <;> omega); simp [hb0, hx]
 exact Zx
 refine W.ret (Zq ?_)
 simp [Tryz.f141, isAt, hall]
 refine W.skip ?_
 apply Zs; intros
 iterate 3 (refine Zo ?_ (by simp [hb0, hx] <;> omega); simp [hb0, hx])
 exact Zx
 refine ⟨hb0, step_all hi0 (by simpa using hb1), Wz.to rfl rfl rfl ?_⟩
 simp
 have hkl : k0 = s.size := by omega
 subst hkl
 have hall := allB_true hi0
 refine W.exit ?_
 apply Zr; intros
 iterate 2 (refine Zo ?_; simp)
 refine Zl [] rfl Tryz.func19 (l1In_d s.size 1 12 _) ?_; simp
 refine Zo ?_; simp
 exact Zx
 refine W.ret (Zq ?_)
 simp [Tryz.f141, isAt, hall]
def idxS (l : List ByteArray) (s : ByteArray) : Int := match l.findIdx? fun x => decide (x = s) with
 | some i => (i : Int)
 | none => -1
theorem idxS_at {l : List ByteArray} {s : ByteArray} {k : Nat} (h : ∀ j, j < k → l[j]? ≠ some s) (hk : k < l.length) (e : l[k] = s) : idxS l s = (k : Int) := by
 have : l.findIdx? (fun x => decide (x = s)) = some k := by
  rw [List.findIdx?_eq_some_iff_getElem]
  refine ⟨hk, by simp [e], fun j hj => ?_⟩
  have := h j hj
  rw [List.getElem?_eq_getElem (by omega)] at this
  simpa using this
 unfold idxS; rw [this]
theorem idxS_no {l : List ByteArray} {s : ByteArray} (h : s ∉ l) : idxS l s = -1 := by
 have : l.findIdx? (fun x => decide (x = s)) = none := by
  rw [List.findIdx?_eq_none_iff]
  intro x hx
  have : x ≠ s := fun e => h (e ▸ hx)
  simpa using this
 unfold idxS; rw [this]
theorem idxS_has (l : List ByteArray) (s : ByteArray) : decide (0 ≤ idxS l s) = hasS l s := by
 unfold idxS
 cases h : l.findIdx? fun x => decide (x = s) with
 | none =>
  rw [List.findIdx?_eq_none_iff] at h
  rw [hasS_false (fun q => by simpa using h s q)]; rfl
 | some i =>
  rw [List.findIdx?_eq_some_iff_getElem] at h
  obtain ⟨h1, h2, -⟩ := h
  have h3 : l[i] = s := by simpa using h2
  rw [hasS_true (h3 ▸ gm h1)]
  simp
theorem Index_d (l : List ByteArray) (s : ByteArray) (hm : l.length ≤ 4294967296) (h : HP) : CS cx.P 160 [.d (.sl false .one (l.map dS)), .d (.lf (.string s))] h (.d (.lf (.int .i64 (idxS l s)))) h := by
 refine Ze Tryz.func160 rfl 19 ?_
 apply Zr; intros
 refine Zo ?_; simp
 exact Zx
 refine W.seq ?_
 apply Zr; intros
 iterate 3 (refine Zo ?_; simp)
 exact Zx
 refine W.block ?_
 refine W.loopI [0, 1, 7] [] (fun k0 => [(8, .d (.lf (.int .i64 (k0 : Int))))]) (fun _ => []) l.length (fun k0 => ∀ j, j < k0 → l[j]? ≠ some s) rfl (by simp) (by simp) fun k0 hk0 hi0 T hT => ?_
 simp at hT; subst hT
 apply Zr; intros
 refine Zo ?_; simp
 exact Zx
 refine Zv rfl ?_ ?_ <;> intro hb0 <;> try simp at hb0
 have hx := ixNext hb0 (by omega)
 refine W.skip ?_
 refine Zb ?_
 apply Zr; intros
 iterate 2 (refine Zo ?_ (by simp [hb0, hx] <;> omega); simp [hb0, hx])
 exact Zx
 apply Zr; intros
 iterate 6 (refine Zo ?_ (by simp [hb0, hx] <;> omega); simp [hb0, hx])
 exact Zx
 refine Zc rfl ?_ ?_ <;> intro hb1 <;> try simp at hb1
 have hres := idxS_at hi0 hb0 hb1.symm
 apply Zr; intros
 iterate 2 (refine Zo ?_ (by simp [hb0, hx] <;> omega); simp [hb0, hx])
 exact Zx
 refine W.ret (Zq ?_)
 simp [Tryz.f160, hres]
 refine W.skip ?_
 apply Zs; intros
 iterate 2 (refine Zo ?_ (by simp [hb0, hx] <;> omega); simp [hb0, hx])
 exact Zx
 refine ⟨hb0, notAt_step hi0 hb0 (fun e => hb1 e.symm), Wz.to rfl rfl rfl ?_⟩
 simp
 have hkl : k0 = l.length := by omega
 subst hkl
 have hres := idxS_no (notAt_all hi0)
 refine W.exit ?_
 apply Zr; intros
 refine Zo ?_; simp
 exact Zx
 refine W.ret (Zq ?_)
 simp [Tryz.f160, hres]
theorem Contains_d (l : List ByteArray) (s : ByteArray) (hm : l.length ≤ 4294967296) (h : HP) : CS cx.P 214 [.d (.sl false .one (l.map dS)), .d (.lf (.string s))] h (.d (.lf (.bool (hasS l s)))) h := by
 refine Ze Tryz.func214 rfl 9 ?_
 apply Zr; intros
 refine Zo ?_; simp
 exact Zx
 apply Zr; intros
 iterate 2 (refine Zo ?_; simp)
 refine Zl [] rfl Tryz.func160 (Index_d l s hm _) ?_; simp
 iterate 2 (refine Zo ?_; simp)
 exact Zx
 refine W.ret (Zq ?_)
 simp [Tryz.f214, ← idxS_has]
theorem iReserved_d (s : ByteArray) (h : HP) : CS cx.P 156 [.d (.lf (.string s))] h (.d (.lf (.bool (hasS rsv s)))) h := by
 refine Ze Tryz.func156 rfl 6 ?_
 apply Zr; intros
 refine Zo ?_ (by simp [rsv] <;> omega); simp [rsv]
 exact Zx
 apply Zr; intros
 iterate 2 (refine Zo ?_ (by simp [rsv] <;> omega); simp [rsv])
 refine Zl [] rfl Tryz.func214 (Contains_d rsv s (by decide) _) ?_ (by simp [rsv]); simp [rsv]
 refine Zo ?_ (by simp [rsv] <;> omega); simp [rsv]
 exact Zx
 refine W.ret (Zq ?_)
 simp [Tryz.f156, rsv]
theorem iName_d (s : ByteArray) (hs : s.size ≤ 134217728) (h : HP) : CS cx.P 101 [.d (.lf (.string s))] h (.d (.lf (.bool (isNm s)))) h := by
 refine Ze Tryz.func101 rfl 39 ?_
 apply Zr; intros
 refine Zo ?_; simp
 exact Zx
 refine W.seq ?_
 apply Zr; intros
 iterate 3 (refine Zo ?_; simp)
 exact Zx
 refine W.block ?_
 refine W.loopI [0, 5] [] (fun k0 => [(6, .d (.lf (.int .i64 (k0 : Int))))]) (fun _ => []) s.size (fun k0 => ∀ j, j < k0 → nameAt s j = true) rfl (by simp) (by simp) fun k0 hk0 hi0 T hT => ?_
 simp at hT; subst hT
 apply Zr; intros
 refine Zo ?_; simp
 exact Zx
 refine Zv rfl ?_ ?_ <;> intro hb0 <;> try simp at hb0
 have hx := ixNext hb0 (by omega)
 refine W.skip ?_
 refine Zb ?_
 apply Zr; intros
 iterate 2 (refine Zo ?_ (by simp [hb0, hx] <;> omega); simp [hb0, hx])
 exact Zx
 refine W.seq ?_
 refine W.regJ (D := _) [0, 5, 6] [] [(24, .d (.lf (.bool (!nameAt s k0))))] [] rfl (fun _ K hD hK => ?_) fun T hT => ?_
 iterate 3 (refine Zo ?_ (by simp [hb0, hx] <;> omega); simp [hb0, hx])
 refine Zl [] rfl Tryz.func154 (isLower_d ((bt s k0 : Nat) : Int) _) ?_ (by simp [hb0, hx]); simp [hb0, hx]
 iterate 2 (refine Zo ?_ (by simp [hb0, hx] <;> omega); simp [hb0, hx])
 refine WL.split 14 _ rfl (fun g14 => ?_) fun g14 => ?_ <;> try simp at g14
 simp [hb0, hx]
 iterate 3 (refine Zg hD rfl rfl ?_ (by simp [hb0, hx] <;> omega); simp [hb0, hx])
 refine WL.split 17 _ rfl (fun g17 => ?_) fun g17 => ?_ <;> try simp at g17
 have e0 := g17
 subst e0
 simp [hb0, hx]
 iterate 5 (refine Zn hD rfl rfl ?_; simp [hb0, hx])
 refine Zg hD rfl rfl ?_ (by simp [hb0, hx] <;> omega); simp [hb0, hx]
 refine Zo ?_ (by simp [hb0, hx] <;> omega); simp [hb0, hx]
 refine WL.nil (hK _ (Wz.to rfl rfl rfl ?_))
 simp [nameAt, g14, g17]
 simp [hb0, hx]
 iterate 3 (refine Zg hD rfl rfl ?_ (by simp [hb0, hx] <;> omega); simp [hb0, hx])
 refine Zk hD rfl rfl [] rfl Tryz.func155 (isDigit_d ((bt s k0 : Nat) : Int) _) ?_ (by simp [hb0, hx]); simp [hb0, hx]
 iterate 2 (refine Zg hD rfl rfl ?_ (by simp [hb0, hx] <;> omega); simp [hb0, hx])
 refine Zo ?_ (by simp [hb0, hx] <;> omega); simp [hb0, hx]
 refine WL.nil (hK _ (Wz.to rfl rfl rfl ?_))
 simp [nameAt, g14, g17]
 simp [hb0, hx]
 iterate 9 (refine Zn hD rfl rfl ?_; simp [hb0, hx])
 refine Zo ?_ (by simp [hb0, hx] <;> omega); simp [hb0, hx]
 refine WL.nil (hK _ (Wz.to rfl rfl rfl ?_))
 simp [nameAt, g14]
 simp at hT; subst hT
 refine Zc rfl ?_ ?_ <;> intro hb1 <;> try simp at hb1
 have hall := allB_false (n := s.size) hb0 (by simpa using hb1 : nameAt s k0 = false)
 apply Zr; intros
 refine Zo ?_ (by simp [hb0, hx] <;> omega); simp [hb0, hx]
 exact Zx
 refine W.ret (Zq ?_)
 simp [Tryz.f101, isNm, within, hall] <;> omega
 refine W.skip ?_
 apply Zs; intros
 iterate 2 (refine Zo ?_ (by simp [hb0, hx] <;> omega); simp [hb0, hx])
 exact Zx
 refine ⟨hb0, step_all hi0 (by simpa using hb1), Wz.to rfl rfl rfl ?_⟩
 simp
 have hkl : k0 = s.size := by omega
 subst hkl
 have hall := allB_true hi0
 refine W.exit ?_
 refine W.seq ?_
 refine W.regJ0 (D := _) rfl fun _ K hD hK => ?_
 iterate 4 (refine Zo ?_; simp)
 refine WL.split 29 _ rfl (fun g29 => ?_) fun g29 => ?_ <;> try simp at g29
 simp
 iterate 3 (refine Zg hD rfl rfl ?_; simp)
 iterate 2 (refine Zo ?_; simp)
 refine WL.split 34 _ rfl (fun g34 => ?_) fun g34 => ?_ <;> try simp at g34
 simp
 refine Zg hD rfl rfl ?_; simp
 refine Zk hD rfl rfl [] rfl Tryz.func156 (iReserved_d s _) ?_; simp
 refine Zg hD rfl rfl ?_; simp
 iterate 2 (refine Zo ?_; simp)
 refine WL.nil (hK _ ?_)
 refine W.ret (Zq ?_)
 simp [Tryz.f101, isNm, within, hall, g29, g34] <;> omega
 simp
 iterate 3 (refine Zn hD rfl rfl ?_; simp)
 iterate 2 (refine Zo ?_; simp)
 refine WL.nil (hK _ ?_)
 refine W.ret (Zq ?_)
 simp [Tryz.f101, isNm, within, hall, g29, g34] <;> omega
 simp
 iterate 3 (refine Zn hD rfl rfl ?_; simp)
 iterate 2 (refine Zo ?_; simp)
 iterate 3 (refine Zn hD rfl rfl ?_; simp)
 iterate 2 (refine Zo ?_; simp)
 refine WL.nil (hK _ ?_)
 refine W.ret (Zq ?_)
 simp [Tryz.f101, isNm, within, hall, g29] <;> omega
end Go.Proofs.YtkadbimpaplnmaaGreatDoor
