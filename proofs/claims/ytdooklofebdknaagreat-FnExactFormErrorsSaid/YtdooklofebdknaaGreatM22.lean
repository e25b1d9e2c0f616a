/- Walks by the Den rules. No condition but sizes. -/
import Derived.Test.YtdooklofebdknaaGreatM20
import Derived.Test.YtdooklofebdknaaGreatM21
namespace Go.Proofs.YtdooklofebdknaaGreat
open Go.RowKit
set_option maxRecDepth 10000
set_option linter.unusedSimpArgs false
set_option maxHeartbeats 4000000
def low (n : Int) : Bool := decide (97 ≤ n) && decide (n ≤ 122)
def dig (n : Int) : Bool := decide (48 ≤ n) && decide (n ≤ 57)
def within (x lo hi : Int) : Bool := decide (lo ≤ x) && decide (x ≤ hi)
def base (s : ByteArray) : Bool := s.toList == [105, 110, 116] || s.toList == [98, 111, 111, 108]
theorem isLower_d (n : Int) (h : HP) : CS cx.P 174 [.d (.lf (.int .u8 (n : Int)))] h (.d (.lf (.bool (low n)))) h := by
 refine Ze Tryz.func174 rfl 9 ?_
 apply Zr; intros
 refine Zo ?_; simp
 exact Zx
 refine W.seq ?_
 refine W.regJ0 (D := _) rfl fun _ K hD hK => ?_
 iterate 3 (refine Zo ?_; simp)
 refine WL.split 5 _ rfl (fun g5 => ?_) fun g5 => ?_ <;> try simp at g5
 simp
 iterate 2 (refine Zg hD rfl rfl ?_; simp)
 iterate 2 (refine Zo ?_; simp)
 refine WL.nil (hK _ ?_)
 refine W.ret (Zq ?_)
 simp [Tryz.f174, low, g5] <;> omega
 simp
 iterate 2 (refine Zn hD rfl rfl ?_; simp)
 iterate 2 (refine Zo ?_; simp)
 refine WL.nil (hK _ ?_)
 refine W.ret (Zq ?_)
 simp [Tryz.f174, low, g5] <;> omega
theorem isDigit_d (n : Int) (h : HP) : CS cx.P 175 [.d (.lf (.int .u8 (n : Int)))] h (.d (.lf (.bool (dig n)))) h := by
 refine Ze Tryz.func175 rfl 9 ?_
 apply Zr; intros
 refine Zo ?_; simp
 exact Zx
 refine W.seq ?_
 refine W.regJ0 (D := _) rfl fun _ K hD hK => ?_
 iterate 3 (refine Zo ?_; simp)
 refine WL.split 5 _ rfl (fun g5 => ?_) fun g5 => ?_ <;> try simp at g5
 simp
 iterate 2 (refine Zg hD rfl rfl ?_; simp)
 iterate 2 (refine Zo ?_; simp)
 refine WL.nil (hK _ ?_)
 refine W.ret (Zq ?_)
 simp [Tryz.f175, dig, g5] <;> omega
 simp
 iterate 2 (refine Zn hD rfl rfl ?_; simp)
 iterate 2 (refine Zo ?_; simp)
 refine WL.nil (hK _ ?_)
 refine W.ret (Zq ?_)
 simp [Tryz.f175, dig, g5] <;> omega
theorem l1In_d (x lo hi : Int) (h : HP) : CS cx.P 38 [.d (.lf (.int .i64 (x))), .d (.lf (.int .i64 (lo))), .d (.lf (.int .i64 (hi)))] h (.d (.lf (.bool (within x lo hi)))) h := by
 refine Ze Tryz.func38 rfl 15 ?_
 apply Zr; intros
 refine Zo ?_; simp
 exact Zx
 refine W.seq ?_
 refine W.regJ0 (D := _) rfl fun _ K hD hK => ?_
 iterate 4 (refine Zo ?_; simp)
 refine WL.split 10 _ rfl (fun g10 => ?_) fun g10 => ?_ <;> try simp at g10
 simp
 iterate 3 (refine Zg hD rfl rfl ?_; simp)
 iterate 2 (refine Zo ?_; simp)
 refine WL.nil (hK _ ?_)
 refine W.ret (Zq ?_)
 simp [Tryz.f38, within, g10] <;> omega
 simp
 iterate 3 (refine Zn hD rfl rfl ?_; simp)
 iterate 2 (refine Zo ?_; simp)
 refine WL.nil (hK _ ?_)
 refine W.ret (Zq ?_)
 simp [Tryz.f38, within, g10] <;> omega
theorem isBuiltIn_d (s : ByteArray) (h : HP) : CS cx.P 192 [.d (.lf (.string s))] h (.d (.lf (.bool (base s)))) h := by
 refine Ze Tryz.func192 rfl 9 ?_
 apply Zr; intros
 refine Zo ?_; simp
 exact Zx
 refine W.seq ?_
 refine W.regJ0 (D := _) rfl fun _ K hD hK => ?_
 iterate 3 (refine Zo ?_; simp)
 refine WL.split 5 _ rfl (fun g5 => ?_) fun g5 => ?_ <;> try simp at g5
 simp
 iterate 2 (refine Zn hD rfl rfl ?_; simp)
 iterate 2 (refine Zo ?_; simp)
 refine WL.nil (hK _ ?_)
 refine W.ret (Zq ?_)
 simp [Tryz.f192, base, g5]
 simp
 iterate 2 (refine Zg hD rfl rfl ?_; simp)
 iterate 2 (refine Zo ?_; simp)
 refine WL.nil (hK _ ?_)
 refine W.ret (Zq ?_)
 simp [Tryz.f192, base, g5]
theorem l4Base_d (s : ByteArray) (h : HP) : CS cx.P 239 [.d (.lf (.string s))] h (.d (.lf (.bool (base s)))) h := by
 refine Ze Tryz.func239 rfl 9 ?_
 apply Zr; intros
 refine Zo ?_; simp
 exact Zx
 refine W.seq ?_
 refine W.regJ0 (D := _) rfl fun _ K hD hK => ?_
 iterate 3 (refine Zo ?_; simp)
 refine WL.split 5 _ rfl (fun g5 => ?_) fun g5 => ?_ <;> try simp at g5
 simp
 iterate 2 (refine Zn hD rfl rfl ?_; simp)
 iterate 2 (refine Zo ?_; simp)
 refine WL.nil (hK _ ?_)
 refine W.ret (Zq ?_)
 simp [Tryz.f239, base, g5]
 simp
 iterate 2 (refine Zg hD rfl rfl ?_; simp)
 iterate 2 (refine Zo ?_; simp)
 refine WL.nil (hK _ ?_)
 refine W.ret (Zq ?_)
 simp [Tryz.f239, base, g5]
theorem notAt_step {l : List ByteArray} {s : ByteArray} {k : Nat} (h : ∀ j, j < k → l[j]? ≠ some s) (hk : k < l.length) (hn : ¬ l[k] = s) : ∀ j, j < k + 1 → l[j]? ≠ some s := fun j hj => by
 rcases Nat.lt_or_ge j k with q | q
 ·exact h j q
 ·have : j = k := by omega
  subst this
  rw [List.getElem?_eq_getElem hk]; simpa using hn
theorem notAt_all {l : List ByteArray} {s : ByteArray} (h : ∀ j, j < l.length → l[j]? ≠ some s) : s ∉ l := fun hs => by
 obtain ⟨j, hj⟩ := List.mem_iff_getElem?.1 hs
 exact h j (List.getElem?_eq_some_iff.1 hj).1 hj
theorem l1Has_d (l : List ByteArray) (s : ByteArray) (hm : l.length ≤ 4294967296) (h : HP) : CS cx.P 92 [.d (.sl false .one (l.map dS)), .d (.lf (.string s))] h (.d (.lf (.bool (hasS l s)))) h := by
 refine Ze Tryz.func92 rfl 18 ?_
 apply Zr; intros
 refine Zo ?_; simp
 exact Zx
 refine W.seq ?_
 apply Zr; intros
 refine Zo ?_; simp
 exact Zx
 refine W.block ?_
 refine W.loopI [0, 1] [] (fun k0 => [(5, .d (.lf (.int .i64 (k0 : Int))))]) (fun _ => []) l.length (fun k0 => ∀ j, j < k0 → l[j]? ≠ some s) rfl (by simp) (by simp) fun k0 hk0 hi0 T hT => ?_
 simp at hT; subst hT
 refine W.seq ?_
 apply Zr; intros
 iterate 4 (refine Zo ?_; simp)
 exact Zx
 refine Zc rfl ?_ ?_ <;> intro hb0 <;> try simp at hb0
 have hx := ixNext hb0 (by omega)
 refine W.skip ?_
 refine Zb ?_
 apply Zr; intros
 iterate 6 (refine Zo ?_ (by simp [hb0, hx] <;> omega); simp [hb0, hx])
 exact Zx
 refine Zc rfl ?_ ?_ <;> intro hb1 <;> try simp at hb1
 have hres := hasS_true (hb1 ▸ gm hb0 : s ∈ l)
 apply Zr; intros
 refine Zo ?_ (by simp [hb0, hx] <;> omega); simp [hb0, hx]
 exact Zx
 refine W.ret (Zq ?_)
 simp [Tryz.f92, hres]
 refine W.skip ?_
 apply Zs; intros
 iterate 3 (refine Zo ?_ (by simp [hb0, hx] <;> omega); simp [hb0, hx])
 exact Zx
 refine ⟨hb0, notAt_step hi0 hb0 hb1, Wz.to rfl rfl rfl ?_⟩
 simp
 have hkl : k0 = l.length := by omega
 subst hkl
 have hres := hasS_false (notAt_all hi0)
 refine W.exit ?_
 apply Zr; intros
 refine Zo ?_; simp
 exact Zx
 refine W.ret (Zq ?_)
 simp [Tryz.f92, hres]
def rsv : List ByteArray := [⟨#[105, 110, 116]⟩, ⟨#[98, 111, 111, 108]⟩, ⟨#[97, 115, 115, 111, 99]⟩, ⟨#[100, 121, 110]⟩, ⟨#[105, 102]⟩, ⟨#[108, 101, 116]⟩, ⟨#[99, 97, 115, 101]⟩, ⟨#[110, 101, 119]⟩, ⟨#[109, 101, 116, 104, 111, 100]⟩, ⟨#[112, 97, 99, 107]⟩, ⟨#[116, 114, 117, 101]⟩, ⟨#[102, 97, 108, 115, 101]⟩]
def nameAt (s : ByteArray) (i : Nat) : Bool := low (bt s i) || !(decide (i = 0)) && dig (bt s i)
def isNm (s : ByteArray) : Bool := allB s.size (nameAt s) && within s.size 1 8 && !hasS rsv s
theorem isNm_no {s : ByteArray} {k : Nat} (hk : k < s.size) (h : nameAt s k = false) : isNm s = false := by
 unfold isNm; rw [allB_false hk h]; rfl
theorem sReserved_d (s : ByteArray) (h : HP) : CS cx.P 158 [.d (.lf (.string s))] h (.d (.lf (.bool (hasS rsv s)))) h := by
 refine Ze Tryz.func158 rfl 6 ?_
 apply Zr; intros
 refine Zo ?_ (by simp [rsv] <;> omega); simp [rsv]
 exact Zx
 apply Zr; intros
 iterate 2 (refine Zo ?_ (by simp [rsv] <;> omega); simp [rsv])
 refine Zl [] rfl Tryz.func92 (l1Has_d rsv s (by decide) _) ?_ (by simp [rsv]); simp [rsv]
 refine Zo ?_ (by simp [rsv] <;> omega); simp [rsv]
 exact Zx
 refine W.ret (Zq ?_)
 simp [Tryz.f158, rsv]
theorem sName_d (s : ByteArray) (hs : s.size ≤ 134217728) (h : HP) : CS cx.P 90 [.d (.lf (.string s))] h (.d (.lf (.bool (isNm s)))) h := by
 refine Ze Tryz.func90 rfl 47 ?_
 apply Zr; intros
 refine Zo ?_; simp
 exact Zx
 refine W.seq ?_
 refine W.seq ?_
 refine W.regJ0 (D := _) rfl fun _ K hD hK => ?_
 iterate 2 (refine Zo ?_; simp)
 refine Zl [] rfl Tryz.func38 (l1In_d s.size 1 8 _) ?_; simp
 iterate 2 (refine Zo ?_; simp)
 refine WL.split 9 _ rfl (fun g9 => ?_) fun g9 => ?_ <;> try simp at g9
 have hres : isNm s = false := by simp [isNm, g9]
 simp
 iterate 2 (refine Zn hD rfl rfl ?_; simp)
 refine Zo ?_; simp
 refine WL.nil (hK _ ?_)
 refine W.condT rfl trivial ?_
 apply Zr; intros
 refine Zo ?_; simp
 exact Zx
 refine W.ret (Zq ?_)
 simp [Tryz.f90, hres]
 simp
 refine Zg hD rfl rfl ?_; simp
 refine Zk hD rfl rfl [] rfl Tryz.func158 (sReserved_d s _) ?_; simp
 refine Zo ?_; simp
 refine WL.nil (hK _ ?_)
 refine Zc rfl ?_ ?_ <;> intro hb0 <;> try simp at hb0
 have hres : isNm s = false := by simp [isNm, hb0]
 apply Zr; intros
 refine Zo ?_; simp
 exact Zx
 refine W.ret (Zq ?_)
 simp [Tryz.f90, hres]
 refine W.skip ?_
 refine W.seq ?_
 apply Zr; intros
 refine Zo ?_; simp
 exact Zx
 refine W.block ?_
 refine W.loopI [0] [] (fun k0 => [(3, .d (.lf (.int .i64 (k0 : Int))))]) (fun _ => []) s.size (fun k0 => ∀ j, j < k0 → nameAt s j = true) rfl (by simp) (by simp) fun k0 hk0 hi0 T hT => ?_
 simp at hT; subst hT
 refine W.seq ?_
 apply Zr; intros
 iterate 4 (refine Zo ?_; simp)
 exact Zx
 refine Zc rfl ?_ ?_ <;> intro hb1 <;> try simp at hb1
 have hx := ixNext hb1 (by omega)
 refine W.skip ?_
 refine Zb ?_
 refine W.seq ?_
 refine W.regJ (D := _) [0, 3] [] [(4, .d (.lf (.bool (low ((bt s k0 : Nat) : Int)))))] [] rfl (fun _ K hD hK => ?_) fun T hT => ?_
 iterate 5 (refine Zo ?_ (by simp [hb1, hx] <;> omega); simp [hb1, hx])
 refine WL.split 23 _ rfl (fun g23 => ?_) fun g23 => ?_ <;> try simp at g23
 simp [hb1, hx]
 iterate 4 (refine Zg hD rfl rfl ?_ (by simp [hb1, hx] <;> omega); simp [hb1, hx])
 iterate 2 (refine Zo ?_ (by simp [hb1, hx] <;> omega); simp [hb1, hx])
 refine WL.nil (hK _ (Wz.to rfl rfl rfl ?_))
 simp [low, g9, g23] <;> omega
 simp [hb1, hx]
 iterate 4 (refine Zn hD rfl rfl ?_; simp [hb1, hx])
 iterate 2 (refine Zo ?_ (by simp [hb1, hx] <;> omega); simp [hb1, hx])
 refine WL.nil (hK _ (Wz.to rfl rfl rfl ?_))
 simp [low, g9, g23] <;> omega
 simp at hT; subst hT
 refine W.seq ?_
 refine W.regJ (D := _) [0, 3] [] [(46, .d (.lf (.bool (!nameAt s k0))))] [] rfl (fun _ K hD hK => ?_) fun T hT => ?_
 iterate 3 (refine Zo ?_ (by simp [hb1, hx] <;> omega); simp [hb1, hx])
 refine WL.split 31 _ rfl (fun g31 => ?_) fun g31 => ?_ <;> try simp at g31
 simp [hb1, hx]
 iterate 3 (refine Zg hD rfl rfl ?_ (by simp [hb1, hx] <;> omega); simp [hb1, hx])
 refine WL.split 34 _ rfl (fun g34 => ?_) fun g34 => ?_ <;> try simp at g34
 have e0 := g34
 subst e0
 simp [hb1, hx]
 iterate 4 (refine Zn hD rfl rfl ?_; simp [hb1, hx])
 iterate 2 (refine Zg hD rfl rfl ?_ (by simp [hb1, hx] <;> omega); simp [hb1, hx])
 iterate 4 (refine Zn hD rfl rfl ?_; simp [hb1, hx])
 refine Zg hD rfl rfl ?_ (by simp [hb1, hx] <;> omega); simp [hb1, hx]
 refine Zo ?_ (by simp [hb1, hx] <;> omega); simp [hb1, hx]
 refine WL.nil (hK _ (Wz.to rfl rfl rfl ?_))
 simp [nameAt, dig, g9, g31, g34] <;> first | omega | grind
 simp [hb1, hx]
 iterate 6 (refine Zg hD rfl rfl ?_ (by simp [hb1, hx] <;> omega); simp [hb1, hx])
 refine WL.split 40 _ rfl (fun g40 => ?_) fun g40 => ?_ <;> try simp at g40
 simp [hb1, hx]
 iterate 4 (refine Zn hD rfl rfl ?_; simp [hb1, hx])
 refine Zg hD rfl rfl ?_ (by simp [hb1, hx] <;> omega); simp [hb1, hx]
 refine Zo ?_ (by simp [hb1, hx] <;> omega); simp [hb1, hx]
 refine WL.nil (hK _ (Wz.to rfl rfl rfl ?_))
 simp [nameAt, dig, g9, g31, g34, g40] <;> first | omega | grind
 simp [hb1, hx]
 iterate 5 (refine Zg hD rfl rfl ?_ (by simp [hb1, hx] <;> omega); simp [hb1, hx])
 refine Zo ?_ (by simp [hb1, hx] <;> omega); simp [hb1, hx]
 refine WL.nil (hK _ (Wz.to rfl rfl rfl ?_))
 simp [nameAt, dig, g9, g31, g34, g40] <;> first | omega | grind
 simp [hb1, hx]
 iterate 14 (refine Zn hD rfl rfl ?_; simp [hb1, hx])
 refine Zo ?_ (by simp [hb1, hx] <;> omega); simp [hb1, hx]
 refine WL.nil (hK _ (Wz.to rfl rfl rfl ?_))
 simp [nameAt, dig, g9, g31] <;> first | omega | grind
 simp at hT; subst hT
 refine Zc rfl ?_ ?_ <;> intro hb2 <;> try simp at hb2
 have hres := isNm_no hb1 (by simpa using hb2)
 apply Zr; intros
 refine Zo ?_ (by simp [hb1, hx] <;> omega); simp [hb1, hx]
 exact Zx
 refine W.ret (Zq ?_)
 simp [Tryz.f90, hres]
 refine W.skip ?_
 apply Zs; intros
 iterate 3 (refine Zo ?_ (by simp [hb1, hx] <;> omega); simp [hb1, hx])
 exact Zx
 refine ⟨hb1, step_all hi0 (by simpa using hb2), Wz.to rfl rfl rfl ?_⟩
 simp
 have hkl : k0 = s.size := by omega
 subst hkl
 have hres : isNm s = true := by simp [isNm, allB_true hi0, g9, hb0]
 refine W.exit ?_
 apply Zr; intros
 refine Zo ?_; simp
 exact Zx
 refine W.ret (Zq ?_)
 simp [Tryz.f90, hres]
def idxP {α : Type} (l : List α) (p : α → Bool) : Int := match l.findIdx? p with
 | some i => (i : Int)
 | none => -1
theorem idxP_at {α : Type} {l : List α} {p : α → Bool} {k : Nat} (h : ∀ j, j < k → ∀ y, l[j]? = some y → p y = false) (hk : k < l.length) (e : p l[k] = true) : idxP l p = (k : Int) := by
 have : l.findIdx? p = some k := by
  rw [List.findIdx?_eq_some_iff_getElem]
  refine ⟨hk, e, fun j hj => ?_⟩
  rw [h j hj l[j] (List.getElem?_eq_getElem (by omega))]; simp
 unfold idxP; rw [this]
theorem idxP_no {α : Type} {l : List α} {p : α → Bool} (h : ∀ j, j < l.length → ∀ y, l[j]? = some y → p y = false) : idxP l p = -1 := by
 have : l.findIdx? p = none := by
  rw [List.findIdx?_eq_none_iff]
  intro x hx
  obtain ⟨j, hj⟩ := List.mem_iff_getElem?.1 hx
  exact h j (List.getElem?_eq_some_iff.1 hj).1 x hj
 unfold idxP; rw [this]
theorem idxP_any {α : Type} (l : List α) (p : α → Bool) : decide (0 ≤ idxP l p) = l.any p := by
 unfold idxP
 cases h : l.findIdx? p with
 | none =>
  rw [List.findIdx?_eq_none_iff] at h
  have : l.any p = false := by rw [List.any_eq_false]; intro x hx; simp [h x hx]
  rw [this]; rfl
 | some i =>
  rw [List.findIdx?_eq_some_iff_getElem] at h
  obtain ⟨h1, h2, -⟩ := h
  have : l.any p = true := List.any_eq_true.2 ⟨l[i], gm h1, h2⟩
  rw [this]; simp
theorem noP_step {α : Type} {l : List α} {p : α → Bool} {k : Nat} (h : ∀ j, j < k → ∀ y, l[j]? = some y → p y = false) (hk : k < l.length) (hn : p l[k] = false) : ∀ j, j < k + 1 → ∀ y, l[j]? = some y → p y = false := fun j hj y hy => by
 rcases Nat.lt_or_ge j k with q | q
 ·exact h j q y hy
 ·have : j = k := by omega
  subst this
  rw [List.getElem?_eq_getElem hk] at hy
  cases hy; exact hn
theorem IndexFuncType_d (l : List TType) (hm : l.length ≤ 134217728) (g : Nat) (fn : Func) (body : Code) (hg : FnOk cx.P g fn body) (p : TType → Bool) (hp : ∀ y ∈ l, ∀ h, CS cx.P g [.d (y.dd false)] h (.d (.lf (.bool (p y)))) h) (h : HP) : CS cx.P 321 [.d (.sl false sh65 (l.map (TType.dd false))), .fn g []] h (.d (.lf (.int .i64 (idxP l p)))) h := by
 refine Ze Tryz.func321 rfl 19 ?_
 apply Zr; intros
 refine Zo ?_; simp
 exact Zx
 refine W.seq ?_
 apply Zr; intros
 iterate 3 (refine Zo ?_; simp)
 exact Zx
 refine W.block ?_
 refine W.loopI [0, 1, 7] [] (fun k0 => [(8, .d (.lf (.int .i64 (k0 : Int))))]) (fun _ => []) l.length (fun k0 => ∀ j, j < k0 → ∀ y, l[j]? = some y → p y = false) rfl (by simp) (by simp) fun k0 hk0 hi0 T hT => ?_
 simp at hT; subst hT
 apply Zr; intros
 refine Zo ?_; simp
 exact Zx
 refine Zv rfl ?_ ?_ <;> intro hb0 <;> try simp at hb0
 have hx := ixNext hb0 (by omega)
 refine W.skip ?_
 refine Zb ?_
 apply Zr; intros
 iterate 2 (refine Zo ?_ (by simp [hb0, hx] <;> omega); simp [hb0, hx])
 exact Zx
 apply Zr; intros
 iterate 5 (refine Zo ?_ (by simp [hb0, hx] <;> omega); simp [hb0, hx])
 refine WL.call [] _ _ _ rfl rfl (by simp) (g := g) (caps := []) (by simp) (by simp) hg rfl (by simp [hb0, hx]) (by simp) (by simp [hb0, hx]) (hp l[k0] (gm hb0) _) rfl ?_; simp [hb0, hx]
 exact Zx
 refine Zc rfl ?_ ?_ <;> intro hb1 <;> try simp at hb1
 have hres := idxP_at hi0 hb0 hb1
 apply Zr; intros
 iterate 2 (refine Zo ?_ (by simp [hb0, hx] <;> omega); simp [hb0, hx])
 exact Zx
 refine W.ret (Zq ?_)
 simp [Tryz.f321, hres]
 refine W.skip ?_
 apply Zs; intros
 iterate 2 (refine Zo ?_ (by simp [hb0, hx] <;> omega); simp [hb0, hx])
 exact Zx
 refine ⟨hb0, noP_step hi0 hb0 hb1, Wz.to rfl rfl rfl ?_⟩
 simp
 have hkl : k0 = l.length := by omega
 subst hkl
 have hres := idxP_no hi0
 refine W.exit ?_
 apply Zr; intros
 refine Zo ?_; simp
 exact Zx
 refine W.ret (Zq ?_)
 simp [Tryz.f321, hres]
theorem ContainsFuncType_d (l : List TType) (hm : l.length ≤ 134217728) (g : Nat) (fn : Func) (body : Code) (hg : FnOk cx.P g fn body) (p : TType → Bool) (hp : ∀ y ∈ l, ∀ h, CS cx.P g [.d (y.dd false)] h (.d (.lf (.bool (p y)))) h) (h : HP) : CS cx.P 252 [.d (.sl false sh65 (l.map (TType.dd false))), .fn g []] h (.d (.lf (.bool (l.any p)))) h := by
 refine Ze Tryz.func252 rfl 9 ?_
 apply Zr; intros
 refine Zo ?_; simp
 exact Zx
 apply Zr; intros
 iterate 2 (refine Zo ?_; simp)
 refine Zl [] rfl Tryz.func321 (IndexFuncType_d l hm g fn body hg p hp _) ?_; simp
 iterate 2 (refine Zo ?_; simp)
 exact Zx
 refine W.ret (Zq ?_)
 simp [Tryz.f252, ← idxP_any]
def idxS (l : List ByteArray) (s : ByteArray) : Int := match l.findIdx? fun x => decide (x = s) with
 | some i => (i : Int)
 | none => -1
theorem idxS_at {l : List ByteArray} {s : ByteArray} {k : Nat} (h : ∀ j, j < k → l[j]? ≠ some s) (hk : k < l.length) (e : l[k] = s) : idxS l s = (k : Int) := by
 have : l.findIdx? (fun x => decide (x = s)) = some k := by
  rw [List.findIdx?_eq_some_iff_getElem]
  refine ⟨hk, by simp [e], fun j hj => ?_⟩
  have := h j hj
  rw [List.getElem?_eq_getElem (by omega)] at this
  simpa using this
 unfold idxS; rw [this]
theorem idxS_no {l : List ByteArray} {s : ByteArray} (h : s ∉ l) : idxS l s = -1 := by
 have : l.findIdx? (fun x => decide (x = s)) = none := by
  rw [List.findIdx?_eq_none_iff]
  intro x hx
  have : x ≠ s := fun e => h (e ▸ hx)
  simpa using this
 unfold idxS; rw [this]
theorem idxS_has (l : List ByteArray) (s : ByteArray) : decide (0 ≤ idxS l s) = hasS l s := by
 unfold idxS
 cases h : l.findIdx? fun x => decide (x = s) with
 | none =>
  rw [List.findIdx?_eq_none_iff] at h
  rw [hasS_false (fun q => by simpa using h s q)]; rfl
 | some i =>
  rw [List.findIdx?_eq_some_iff_getElem] at h
  obtain ⟨h1, h2, -⟩ := h
  have h3 : l[i] = s := by simpa using h2
  rw [hasS_true (h3 ▸ gm h1)]
  simp
theorem Index_d (l : List ByteArray) (s : ByteArray) (hm : l.length ≤ 4294967296) (h : HP) : CS cx.P 178 [.d (.sl false .one (l.map dS)), .d (.lf (.string s))] h (.d (.lf (.int .i64 (idxS l s)))) h := by
 refine Ze Tryz.func178 rfl 19 ?_
 apply Zr; intros
 refine Zo ?_; simp
 exact Zx
 refine W.seq ?_
 apply Zr; intros
 iterate 3 (refine Zo ?_; simp)
 exact Zx
 refine W.block ?_
 refine W.loopI [0, 1, 7] [] (fun k0 => [(8, .d (.lf (.int .i64 (k0 : Int))))]) (fun _ => []) l.length (fun k0 => ∀ j, j < k0 → l[j]? ≠ some s) rfl (by simp) (by simp) fun k0 hk0 hi0 T hT => ?_
 simp at hT; subst hT
 apply Zr; intros
 refine Zo ?_; simp
 exact Zx
 refine Zv rfl ?_ ?_ <;> intro hb0 <;> try simp at hb0
 have hx := ixNext hb0 (by omega)
 refine W.skip ?_
 refine Zb ?_
 apply Zr; intros
 iterate 2 (refine Zo ?_ (by simp [hb0, hx] <;> omega); simp [hb0, hx])
 exact Zx
 apply Zr; intros
 iterate 6 (refine Zo ?_ (by simp [hb0, hx] <;> omega); simp [hb0, hx])
 exact Zx
 refine Zc rfl ?_ ?_ <;> intro hb1 <;> try simp at hb1
 have hres := idxS_at hi0 hb0 hb1.symm
 apply Zr; intros
 iterate 2 (refine Zo ?_ (by simp [hb0, hx] <;> omega); simp [hb0, hx])
 exact Zx
 refine W.ret (Zq ?_)
 simp [Tryz.f178, hres]
 refine W.skip ?_
 apply Zs; intros
 iterate 2 (refine Zo ?_ (by simp [hb0, hx] <;> omega); simp [hb0, hx])
 exact Zx
 refine ⟨hb0, notAt_step hi0 hb0 (fun e => hb1 e.symm), Wz.to rfl rfl rfl ?_⟩
 simp
 have hkl : k0 = l.length := by omega
 subst hkl
 have hres := idxS_no (notAt_all hi0)
 refine W.exit ?_
 apply Zr; intros
 refine Zo ?_; simp
 exact Zx
 refine W.ret (Zq ?_)
 simp [Tryz.f178, hres]
theorem Contains_d (l : List ByteArray) (s : ByteArray) (hm : l.length ≤ 4294967296) (h : HP) : CS cx.P 115 [.d (.sl false .one (l.map dS)), .d (.lf (.string s))] h (.d (.lf (.bool (hasS l s)))) h := by
 refine Ze Tryz.func115 rfl 9 ?_
 apply Zr; intros
 refine Zo ?_; simp
 exact Zx
 apply Zr; intros
 iterate 2 (refine Zo ?_; simp)
 refine Zl [] rfl Tryz.func178 (Index_d l s hm _) ?_; simp
 iterate 2 (refine Zo ?_; simp)
 exact Zx
 refine W.ret (Zq ?_)
 simp [Tryz.f115, ← idxS_has]
theorem iReserved_d (s : ByteArray) (h : HP) : CS cx.P 176 [.d (.lf (.string s))] h (.d (.lf (.bool (hasS rsv s)))) h := by
 refine Ze Tryz.func176 rfl 6 ?_
 apply Zr; intros
 refine Zo ?_ (by simp [rsv] <;> omega); simp [rsv]
 exact Zx
 apply Zr; intros
 iterate 2 (refine Zo ?_ (by simp [rsv] <;> omega); simp [rsv])
 refine Zl [] rfl Tryz.func115 (Contains_d rsv s (by decide) _) ?_ (by simp [rsv]); simp [rsv]
 refine Zo ?_ (by simp [rsv] <;> omega); simp [rsv]
 exact Zx
 refine W.ret (Zq ?_)
 simp [Tryz.f176, rsv]
theorem iName_d (s : ByteArray) (hs : s.size ≤ 134217728) (h : HP) : CS cx.P 106 [.d (.lf (.string s))] h (.d (.lf (.bool (isNm s)))) h := by
 refine Ze Tryz.func106 rfl 39 ?_
 apply Zr; intros
 refine Zo ?_; simp
 exact Zx
 refine W.seq ?_
 apply Zr; intros
 iterate 3 (refine Zo ?_; simp)
 exact Zx
 refine W.block ?_
 refine W.loopI [0, 5] [] (fun k0 => [(6, .d (.lf (.int .i64 (k0 : Int))))]) (fun _ => []) s.size (fun k0 => ∀ j, j < k0 → nameAt s j = true) rfl (by simp) (by simp) fun k0 hk0 hi0 T hT => ?_
 simp at hT; subst hT
 apply Zr; intros
 refine Zo ?_; simp
 exact Zx
 refine Zv rfl ?_ ?_ <;> intro hb0 <;> try simp at hb0
 have hx := ixNext hb0 (by omega)
 refine W.skip ?_
 refine Zb ?_
 apply Zr; intros
 iterate 2 (refine Zo ?_ (by simp [hb0, hx] <;> omega); simp [hb0, hx])
 exact Zx
 refine W.seq ?_
 refine W.regJ (D := _) [0, 5, 6] [] [(24, .d (.lf (.bool (!nameAt s k0))))] [] rfl (fun _ K hD hK => ?_) fun T hT => ?_
 iterate 3 (refine Zo ?_ (by simp [hb0, hx] <;> omega); simp [hb0, hx])
 refine Zl [] rfl Tryz.func174 (isLower_d ((bt s k0 : Nat) : Int) _) ?_ (by simp [hb0, hx]); simp [hb0, hx]
 iterate 2 (refine Zo ?_ (by simp [hb0, hx] <;> omega); simp [hb0, hx])
 refine WL.split 14 _ rfl (fun g14 => ?_) fun g14 => ?_ <;> try simp at g14
 simp [hb0, hx]
 iterate 3 (refine Zg hD rfl rfl ?_ (by simp [hb0, hx] <;> omega); simp [hb0, hx])
 refine WL.split 17 _ rfl (fun g17 => ?_) fun g17 => ?_ <;> try simp at g17
 have e0 := g17
 subst e0
 simp [hb0, hx]
 iterate 5 (refine Zn hD rfl rfl ?_; simp [hb0, hx])
 refine Zg hD rfl rfl ?_ (by simp [hb0, hx] <;> omega); simp [hb0, hx]
 refine Zo ?_ (by simp [hb0, hx] <;> omega); simp [hb0, hx]
 refine WL.nil (hK _ (Wz.to rfl rfl rfl ?_))
 simp [nameAt, g14, g17]
 simp [hb0, hx]
 iterate 3 (refine Zg hD rfl rfl ?_ (by simp [hb0, hx] <;> omega); simp [hb0, hx])
 refine Zk hD rfl rfl [] rfl Tryz.func175 (isDigit_d ((bt s k0 : Nat) : Int) _) ?_ (by simp [hb0, hx]); simp [hb0, hx]
 iterate 2 (refine Zg hD rfl rfl ?_ (by simp [hb0, hx] <;> omega); simp [hb0, hx])
 refine Zo ?_ (by simp [hb0, hx] <;> omega); simp [hb0, hx]
 refine WL.nil (hK _ (Wz.to rfl rfl rfl ?_))
 simp [nameAt, g14, g17]
 simp [hb0, hx]
 iterate 9 (refine Zn hD rfl rfl ?_; simp [hb0, hx])
 refine Zo ?_ (by simp [hb0, hx] <;> omega); simp [hb0, hx]
 refine WL.nil (hK _ (Wz.to rfl rfl rfl ?_))
 simp [nameAt, g14]
 simp at hT; subst hT
 refine Zc rfl ?_ ?_ <;> intro hb1 <;> try simp at hb1
 have hall := allB_false (n := s.size) hb0 (by simpa using hb1 : nameAt s k0 = false)
 apply Zr; intros
 refine Zo ?_ (by simp [hb0, hx] <;> omega); simp [hb0, hx]
 exact Zx
 refine W.ret (Zq ?_)
 simp [Tryz.f106, isNm, within, hall] <;> omega
 refine W.skip ?_
 apply Zs; intros
 iterate 2 (refine Zo ?_ (by simp [hb0, hx] <;> omega); simp [hb0, hx])
 exact Zx
 refine ⟨hb0, step_all hi0 (by simpa using hb1), Wz.to rfl rfl rfl ?_⟩
 simp
 have hkl : k0 = s.size := by omega
 subst hkl
 have hall := allB_true hi0
 refine W.exit ?_
 refine W.seq ?_
 refine W.regJ0 (D := _) rfl fun _ K hD hK => ?_
 iterate 4 (refine Zo ?_; simp)
 refine WL.split 29 _ rfl (fun g29 => ?_) fun g29 => ?_ <;> try simp at g29
 simp
 iterate 3 (refine Zg hD rfl rfl ?_; simp)
 iterate 2 (refine Zo ?_; simp)
 refine WL.split 34 _ rfl (fun g34 => ?_) fun g34 => ?_ <;> try simp at g34
 simp
 refine Zg hD rfl rfl ?_; simp
 refine Zk hD rfl rfl [] rfl Tryz.func176 (iReserved_d s _) ?_; simp
 refine Zg hD rfl rfl ?_; simp
 iterate 2 (refine Zo ?_; simp)
 refine WL.nil (hK _ ?_)
 refine W.ret (Zq ?_)
 simp [Tryz.f106, isNm, within, hall, g29, g34] <;> omega
 simp
 iterate 3 (refine Zn hD rfl rfl ?_; simp)
 iterate 2 (refine Zo ?_; simp)
 refine WL.nil (hK _ ?_)
 refine W.ret (Zq ?_)
 simp [Tryz.f106, isNm, within, hall, g29, g34] <;> omega
 simp
 iterate 3 (refine Zn hD rfl rfl ?_; simp)
 iterate 2 (refine Zo ?_; simp)
 iterate 3 (refine Zn hD rfl rfl ?_; simp)
 iterate 2 (refine Zo ?_; simp)
 refine WL.nil (hK _ ?_)
 refine W.ret (Zq ?_)
 simp [Tryz.f106, isNm, within, hall, g29] <;> omega
mutual
def tSize : TType → Nat
 | ⟨_, _, l⟩ => 1 + tSizes l
def tSizes : List TType → Nat
 | [] => 0
 | x :: l => tSize x + tSizes l
end
mutual
def tDepth : TType → Nat
 | ⟨_, _, l⟩ => tDepths l
def tDepths : List TType → Nat
 | [] => 0
 | x :: l => max (tDepth x + 1) (tDepths l)
end
theorem tSizes_app : ∀ a b : List TType, tSizes (a ++ b) = tSizes a + tSizes b
 | [], b => by simp [tSizes]
 | x :: a, b => by simp only [List.cons_append, tSizes, tSizes_app a b]; omega
theorem tDepths_app : ∀ a b : List TType, tDepths (a ++ b) = max (tDepths a) (tDepths b)
 | [], b => by simp [tDepths]
 | x :: a, b => by simp only [List.cons_append, tDepths, tDepths_app a b]; exact (Nat.max_assoc _ _ _).symm
mutual
theorem tSize_le : ∀ x : TType, tSize x ≤ 1 + x.sz
 | ⟨_, _, l⟩ => by simp only [tSize, TType.sz]; have := tSizes_le l; omega
theorem tSizes_le : ∀ l : List TType, tSizes l ≤ l.length + TType.szLs l
 | [] => by simp [tSizes, TType.szLs]
 | x :: l => by simp only [tSizes, TType.szLs, List.length_cons]; have := tSize_le x; have := tSizes_le l; omega
end
mutual
theorem tDepth_le : ∀ x : TType, tDepth x ≤ x.sz
 | ⟨_, _, l⟩ => by simp only [tDepth, TType.sz]; have := tDepths_le l; omega
theorem tDepths_le : ∀ l : List TType, tDepths l ≤ l.length + TType.szLs l
 | [] => by simp [tDepths, TType.szLs]
 | x :: l => by simp only [tDepths, TType.szLs, List.length_cons]; have := tDepth_le x; have := tDepths_le l; omega
end
def tSzk (l : List TType) (k : Nat) : Nat := 1 + tSizes (l.take k)
theorem tSzk_zero (l : List TType) : tSzk l 0 = 1 := rfl
theorem tSzk_full (x : TType) : tSzk x.fArgs x.fArgs.length = tSize x := by cases x; simp [tSzk, tSize]
theorem tSzk_step {l : List TType} {k : Nat} (h : k < l.length) (hz : szs TType.sz l ≤ 134217728) : IntKind.i64.wrap ((tSzk l k : Int) + (tSize l[k] : Int)) = (tSzk l (k + 1) : Int) := by
 have h1 : tSzk l (k + 1) = tSzk l k + tSize l[k] := by
  unfold tSzk
  rw [List.take_succ_eq_append_getElem h, tSizes_app]; simp [tSizes]; omega
 have h2 : tSzk l (k + 1) ≤ 1 + tSizes l := by
  unfold tSzk
  have := tSizes_app (l.take (k + 1)) (l.drop (k + 1))
  rw [List.take_append_drop] at this; omega
 have h3 := tSizes_le l
 rw [TType.szLs_eq] at h3
 unfold szs at hz
 rw [i64w (by omega) (by omega)]; omega
def tDpk (l : List TType) (k : Nat) : Nat := tDepths (l.take k)
theorem tDpk_zero (l : List TType) : tDpk l 0 = 0 := rfl
theorem tDpk_full (x : TType) : tDpk x.fArgs x.fArgs.length = tDepth x := by cases x; simp [tDpk, tDepth]
theorem tDpk_step {l : List TType} {k : Nat} (h : k < l.length) : tDpk l (k + 1) = max (tDpk l k) (tDepth l[k] + 1) := by
 unfold tDpk
 rw [List.take_succ_eq_append_getElem h, tDepths_app]; simp [tDepths]
theorem TypeSize_a (x : TType) (hz : x.sz ≤ 134217728) (hc : ∀ y ∈ x.fArgs, ∀ h, CS cx.P 290 [.d (y.dd false)] h (.d (.lf (.int .i64 ((tSize y : Nat) : Int)))) h) (h : HP) : CS cx.P 290 [.d (x.dd false)] h (.d (.lf (.int .i64 ((tSize x : Nat) : Int)))) h := by
 have hz2 := x.sz_eq; unfold szs at hz2
 refine Ze Tryz.func290 rfl 19 ?_
 apply Zr; intros
 iterate 2 (refine Zo ?_; simp)
 exact Zx
 apply Zr; intros
 refine Zo ?_; simp
 exact Zx
 refine W.seq ?_
 apply Zr; intros
 iterate 4 (refine Zo ?_; simp)
 exact Zx
 refine W.block ?_
 refine W.loopk [7, 8] [] (fun k0 => [(9, .d (.lf (.int .i64 (k0 : Int)))), (3, .d (.lf (.int .i64 ((tSzk x.fArgs k0 : Nat) : Int))))]) (fun _ => []) x.fArgs.length rfl (by simp [tSzk_zero]) fun k0 hk0 T hT => ?_
 simp at hT; subst hT
 apply Zr; intros
 refine Zo ?_; simp
 exact Zx
 refine Zv rfl ?_ ?_ <;> intro hb0 <;> try simp at hb0
 have hx := ixNext hb0 (by omega)
 have hw := tSzk_step hb0 (by unfold szs; omega)
 refine W.skip ?_
 refine Zb ?_
 apply Zr; intros
 refine Zo ?_ (by simp [hb0, hx, hw] <;> omega); simp [hb0, hx, hw]
 refine Zm [12] ?_ (by simp [hb0, hx, hw] <;> omega); simp [hb0, hx, hw]
 iterate 2 (refine Zo ?_ (by simp [hb0, hx, hw] <;> omega); simp [hb0, hx, hw])
 exact Zx
 apply Zs; intros
 iterate 2 (refine Zo ?_ (by simp [hb0, hx, hw] <;> omega); simp [hb0, hx, hw])
 refine Zl [] rfl Tryz.func290 (hc x.fArgs[k0] (gm hb0) _) ?_ (by simp [hb0, hx, hw]); simp [hb0, hx, hw]
 iterate 2 (refine Zo ?_ (by simp [hb0, hx, hw] <;> omega); simp [hb0, hx, hw])
 exact Zx
 apply Zs; intros
 iterate 2 (refine Zo ?_ (by simp [hb0, hx, hw] <;> omega); simp [hb0, hx, hw])
 exact Zx
 refine ⟨hb0, Wz.to rfl rfl rfl ?_⟩
 simp
 have hkl : k0 = x.fArgs.length := by omega
 subst hkl
 refine W.exit ?_
 apply Zr; intros
 iterate 2 (refine Zo ?_; simp)
 exact Zx
 refine W.ret (Zq ?_)
 simp [Tryz.f290, tSzk_full]
theorem tDpk_i {l : List TType} {k : Nat} (h : k < l.length) : (if (tDpk l k : Int) < (tDepth l[k] : Int) + 1 then (tDepth l[k] : Int) + 1 else (tDpk l k : Int)) = (tDpk l (k + 1) : Int) := by
 rw [tDpk_step h]; split <;> omega
theorem tDpk_s {l : List TType} {k : Nat} (h : k < l.length) : (if 1 + (tDepth l[k] : Int) < (tDpk l k : Int) then (tDpk l k : Int) else 1 + (tDepth l[k] : Int)) = (tDpk l (k + 1) : Int) := by
 rw [tDpk_step h]; split <;> omega
theorem l1Max_d (x y : Int) (h : HP) : CS cx.P 420 [.d (.lf (.int .i64 (x))), .d (.lf (.int .i64 (y)))] h (.d (.lf (.int .i64 (if y < x then x else y)))) h := by
 refine Ze Tryz.func420 rfl 10 ?_
 apply Zr; intros
 refine Zo ?_; simp
 exact Zx
 refine W.seq ?_
 apply Zr; intros
 iterate 3 (refine Zo ?_; simp)
 exact Zx
 refine Zc rfl ?_ ?_ <;> intro hb0 <;> try simp at hb0
 apply Zr; intros
 iterate 2 (refine Zo ?_; simp)
 exact Zx
 refine W.ret (Zq ?_)
 simp [Tryz.f420]
 omega
 refine W.skip ?_
 apply Zr; intros
 iterate 2 (refine Zo ?_; simp)
 exact Zx
 refine W.ret (Zq ?_)
 simp [Tryz.f420]
 omega
theorem iDepth_a (x : TType) (hz : x.sz ≤ 134217728) (hc : ∀ y ∈ x.fArgs, ∀ h, CS cx.P 323 [.d (y.dd false)] h (.d (.lf (.int .i64 ((tDepth y : Nat) : Int)))) h) (h : HP) : CS cx.P 323 [.d (x.dd false)] h (.d (.lf (.int .i64 ((tDepth x : Nat) : Int)))) h := by
 have hz2 := x.sz_eq; unfold szs at hz2
 refine Ze Tryz.func323 rfl 20 ?_
 apply Zr; intros
 iterate 2 (refine Zo ?_; simp)
 exact Zx
 apply Zr; intros
 refine Zo ?_; simp
 exact Zx
 refine W.seq ?_
 apply Zr; intros
 iterate 4 (refine Zo ?_; simp)
 exact Zx
 refine W.block ?_
 refine W.loopk [7, 8] [] (fun k0 => [(9, .d (.lf (.int .i64 (k0 : Int)))), (3, .d (.lf (.int .i64 ((tDpk x.fArgs k0 : Nat) : Int))))]) (fun _ => []) x.fArgs.length rfl (by simp [tDpk_zero]) fun k0 hk0 T hT => ?_
 simp at hT; subst hT
 apply Zr; intros
 refine Zo ?_; simp
 exact Zx
 refine Zv rfl ?_ ?_ <;> intro hb0 <;> try simp at hb0
 have hx := ixNext hb0 (by omega)
 have hd := tDepth_le x.fArgs[k0]; have hs := szL_le TType.sz (gm hb0)
 have hv := i64w (n := (tDepth x.fArgs[k0] : Int) + 1) (by omega) (by omega)
 have hw := tDpk_i hb0
 refine W.skip ?_
 refine Zb ?_
 apply Zr; intros
 refine Zo ?_ (by simp [hb0, hx, hw, hv] <;> omega); simp [hb0, hx, hw, hv]
 refine Zm [12] ?_ (by simp [hb0, hx, hw, hv] <;> omega); simp [hb0, hx, hw, hv]
 iterate 2 (refine Zo ?_ (by simp [hb0, hx, hw, hv] <;> omega); simp [hb0, hx, hw, hv])
 exact Zx
 apply Zs; intros
 iterate 2 (refine Zo ?_ (by simp [hb0, hx, hw, hv] <;> omega); simp [hb0, hx, hw, hv])
 refine Zl [] rfl Tryz.func323 (hc x.fArgs[k0] (gm hb0) _) ?_ (by simp [hb0, hx, hw, hv]); simp [hb0, hx, hw, hv]
 iterate 3 (refine Zo ?_ (by simp [hb0, hx, hw, hv] <;> omega); simp [hb0, hx, hw, hv])
 exact Zx
 apply Zs; intros
 iterate 2 (refine Zo ?_ (by simp [hb0, hx, hw, hv] <;> omega); simp [hb0, hx, hw, hv])
 exact Zx
 refine ⟨hb0, Wz.to rfl rfl rfl ?_⟩
 simp
 have hkl : k0 = x.fArgs.length := by omega
 subst hkl
 refine W.exit ?_
 apply Zr; intros
 iterate 2 (refine Zo ?_; simp)
 exact Zx
 refine W.ret (Zq ?_)
 simp [Tryz.f323, tDpk_full]
theorem sDepth_a (x : TType) (hz : x.sz ≤ 134217728) (hc : ∀ y ∈ x.fArgs, ∀ h, CS cx.P 370 [.d (y.dd false)] h (.d (.lf (.int .i64 ((tDepth y : Nat) : Int)))) h) (h : HP) : CS cx.P 370 [.d (x.dd false)] h (.d (.lf (.int .i64 ((tDepth x : Nat) : Int)))) h := by
 have hz2 := x.sz_eq; unfold szs at hz2
 refine Ze Tryz.func370 rfl 22 ?_
 apply Zr; intros
 iterate 2 (refine Zo ?_; simp)
 exact Zx
 apply Zr; intros
 refine Zo ?_; simp
 exact Zx
 refine W.seq ?_
 apply Zr; intros
 refine Zo ?_; simp
 exact Zx
 refine W.block ?_
 refine W.loopk [1] [1] (fun k0 => [(4, .d (.lf (.int .i64 (k0 : Int)))), (3, .d (.lf (.int .i64 ((tDpk x.fArgs k0 : Nat) : Int))))]) (fun _ => []) x.fArgs.length rfl (by simp [tDpk_zero]) fun k0 hk0 T hT => ?_
 simp at hT; subst hT
 refine W.seq ?_
 apply Zr; intros
 iterate 5 (refine Zo ?_; simp)
 exact Zx
 refine Zc rfl ?_ ?_ <;> intro hb0 <;> try simp at hb0
 have hx := ixNext hb0 (by omega)
 have hd := tDepth_le x.fArgs[k0]; have hs := szL_le TType.sz (gm hb0)
 have hv := i64w (n := 1 + (tDepth x.fArgs[k0] : Int)) (by omega) (by omega)
 have hw := tDpk_s hb0
 refine W.skip ?_
 refine Zb ?_
 apply Zs; intros
 iterate 6 (refine Zo ?_ (by simp [hb0, hx, hw, hv] <;> omega); simp [hb0, hx, hw, hv])
 refine Zl [] rfl Tryz.func370 (hc x.fArgs[k0] (gm hb0) _) ?_ (by simp [hb0, hx, hw, hv]); simp [hb0, hx, hw, hv]
 refine Zo ?_ (by simp [hb0, hx, hw, hv] <;> omega); simp [hb0, hx, hw, hv]
 refine Zl [] rfl Tryz.func420 (l1Max_d (tDpk x.fArgs k0) (1 + (tDepth x.fArgs[k0] : Int)) _) ?_ (by simp [hb0, hx, hw, hv]); simp [hb0, hx, hw, hv]
 refine Zo ?_ (by simp [hb0, hx, hw, hv] <;> omega); simp [hb0, hx, hw, hv]
 exact Zx
 apply Zs; intros
 iterate 3 (refine Zo ?_ (by simp [hb0, hx, hw, hv] <;> omega); simp [hb0, hx, hw, hv])
 exact Zx
 refine ⟨hb0, Wz.to rfl rfl rfl ?_⟩
 simp
 have hkl : k0 = x.fArgs.length := by omega
 subst hkl
 refine W.exit ?_
 apply Zr; intros
 iterate 2 (refine Zo ?_; simp)
 exact Zx
 refine W.ret (Zq ?_)
 simp [Tryz.f370, tDpk_full]
end Go.Proofs.YtdooklofebdknaaGreat
