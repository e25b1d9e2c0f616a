/- Walks by the Den rules. No condition but sizes. -/
import Derived.Test.YtdooklofebdknaaGreatM20
import Derived.Test.YtdooklofebdknaaGreatM38
namespace Go.Proofs.YtdooklofebdknaaGreat
open Go.RowKit
set_option maxRecDepth 10000
set_option linter.unusedSimpArgs false
set_option maxHeartbeats 4000000
def opsB : ByteArray := ⟨#[43, 45, 42, 60, 61]⟩
def ixO (n : Int) : Int := Lib.indexByte opsB.data.toList n.toNat.toUInt8
theorem ixO_all : ∀ k : Fin 256, (-1 ≤ ixO (k.val : Int) ∧ ixO (k.val : Int) < 5) ∧ decide (0 ≤ ixO (k.val : Int)) = hasS prims ⟨#[UInt8.ofNat k.val]⟩ := by decide +kernel
theorem prims_one {s : ByteArray} (h : hasS prims s = true) : s.size = 1 := by
 unfold hasS prims at h
 simp at h
 rcases h with h | h | h | h | h <;> subst h <;> rfl
theorem one_eq {s : ByteArray} (h : s.size = 1) : s = ⟨#[UInt8.ofNat (bt s 0)]⟩ := by
 cases s with
 | mk d =>
  have h1 : d.size = 1 := h
  have h2 : d = #[d[0]] := by
   refine Array.ext (by simp [h1]) fun i h3 h4 => ?_
   have : i = 0 := by omega
   subst this; simp
  have h3 : bt ⟨d⟩ 0 = d[0].toNat := by
   unfold bt
   simp [Array.getD_eq_getD_getElem?, Array.getElem?_eq_getElem (show 0 < d.size by omega)]
  rw [h3, UInt8.ofNat_toNat]
  exact congrArg ByteArray.mk h2
theorem ixO_prims {s : ByteArray} (h : s.size = 1) : decide (0 ≤ ixO ((bt s 0 : Nat) : Int)) = hasS prims s := by
 have := (ixO_all ⟨bt s 0, bt_lt s 0⟩).2
 rw [← one_eq h] at this
 exact this
theorem idxByteO_d (k : Fin 256) (h : HP) : CS cx.P 444 [.d (.lf (.string opsB)), .d (.lf (.int .u8 (k.val : Int)))] h (.d (.lf (.int .i64 (ixO (k.val : Int))))) h := by
 refine CS.ofVal (c := cx) (args := [.lf (.string opsB), .lf (.int .u8 (k.val : Int))]) (v := .int .i64 (ixO (k.val : Int))) (fun w F => ⟨?_, rfl⟩) (fun w vs ⟨F, _, _, hl, hv⟩ => ?_) h
 ·have := (ixO_all k).1
  simp only [rp, okLeaf, i64mn, i64mx]
  exact ⟨trivial, by omega, trivial⟩
 ·obtain ⟨c0, h0, e0⟩ := hv 0 _ rfl
  obtain ⟨c1, h1, e1⟩ := hv 1 _ rfl
  simp only [DD.vw, rp] at h0 h1
  obtain ⟨rfl, -⟩ := h0
  obtain ⟨rfl, -⟩ := h1
  match vs, hl, e0, e1 with
  | [a, b], _, e0, e1 =>
   simp [DD.mk] at e0 e1
   subst e0; subst e1
   refine (idxByte0 opsB (k.val : Int) w).mono fun e w' ⟨h1, h2⟩ => ⟨h1, ?_⟩
   subst h2; exact Below.refl _ _
theorem slIx_d (s : ByteArray) (hs : s.size = 1) (h : HP) : CS cx.P 443 [.d (.lf (.string opsB)), .d (.lf (.string s))] h (.d (.lf (.int .i64 (ixO ((bt s 0 : Nat) : Int))))) h := by
 refine Ze Tryz.func443 rfl 143 ?_
 apply Zr; intros
 refine Zo ?_; simp
 exact Zx
 apply Zr; intros
 iterate 3 (refine Zo ?_; simp)
 exact Zx
 refine Zb ?_
 refine W.seq ?_
 refine W.regJ0 (D := _) rfl fun _ K hD hK => ?_
 iterate 3 (refine Zo ?_; simp)
 refine WL.split 19 _ rfl (fun g19 => ?_) fun g19 => ?_ <;> try simp at g19
 simp
 iterate 3 (refine Zn hD rfl rfl ?_; simp)
 iterate 2 (refine Zo ?_; simp)
 refine WL.nil (hK _ ?_)
 refine W.condT rfl trivial ?_
 apply Zr; intros
 refine Zo ?_; simp
 exact Zx
 refine W.ret (Zq ?_)
 first | (exfalso; rw [g19] at hs; revert hs; decide) | simp [Tryz.f443]
 simp
 iterate 3 (refine Zg hD rfl rfl ?_; simp)
 iterate 2 (refine Zo ?_; simp)
 refine WL.nil (hK _ ?_)
 refine Zc rfl ?_ ?_ <;> intro hb0 <;> try simp at hb0
 exfalso
 subst hb0
 revert hs
 decide
 apply Zr; intros
 iterate 3 (refine Zo ?_; simp)
 exact Zx
 refine Zc rfl ?_ ?_ <;> intro hb1 <;> try simp at hb1
 apply Zr; intros
 iterate 3 (refine Zo ?_; simp)
 refine Zl [] rfl Tryz.func444 (idxByteO_d ⟨bt s 0, bt_lt s 0⟩ _) ?_; simp
 refine Zo ?_; simp
 exact Zx
 refine W.ret (Zq ?_)
 first | (exfalso; rw [g19] at hs; revert hs; decide) | simp [Tryz.f443]
 exfalso; omega
theorem strIx_d (s : ByteArray) (hs : s.size = 1) (h : HP) : CS cx.P 441 [.d (.lf (.string opsB)), .d (.lf (.string s))] h (.d (.lf (.int .i64 (ixO ((bt s 0 : Nat) : Int))))) h := by
 refine Ze Tryz.func441 rfl 8 ?_
 apply Zr; intros
 refine Zo ?_; simp
 exact Zx
 apply Zr; intros
 iterate 2 (refine Zo ?_; simp)
 refine Zl [] rfl Tryz.func443 (slIx_d s hs _) ?_; simp
 refine Zo ?_; simp
 exact Zx
 refine W.ret (Zq ?_)
 simp [Tryz.f441]
theorem ctn_d (s : ByteArray) (hs : s.size = 1) (h : HP) : CS cx.P 438 [.d (.lf (.string opsB)), .d (.lf (.string s))] h (.d (.lf (.bool (hasS prims s)))) h := by
 have hp := ixO_prims hs
 refine Ze Tryz.func438 rfl 9 ?_
 apply Zr; intros
 refine Zo ?_; simp
 exact Zx
 apply Zr; intros
 iterate 2 (refine Zo ?_; simp)
 refine Zl [] rfl Tryz.func441 (strIx_d s hs _) ?_; simp
 iterate 2 (refine Zo ?_; simp)
 exact Zx
 refine W.ret (Zq ?_)
 simp [Tryz.f438, hp]
theorem isOp_d (s : ByteArray) (_ : s.size ≤ 134217728) (h : HP) : CS cx.P 424 [.d (.lf (.string s))] h (.d (.lf (.bool (hasS prims s)))) h := by
 refine Ze Tryz.func424 rfl 10 ?_
 apply Zr; intros
 refine Zo ?_ (by simp [opsB] <;> omega); simp [opsB]
 exact Zx
 refine W.seq ?_
 refine W.regJ0 (D := _) rfl fun _ K hD hK => ?_
 iterate 4 (refine Zo ?_ (by simp [opsB] <;> omega); simp [opsB])
 refine WL.split 6 _ rfl (fun g6 => ?_) fun g6 => ?_ <;> try simp at g6
 simp [opsB]
 refine Zg hD rfl rfl ?_ (by simp [opsB] <;> omega); simp [opsB]
 refine Zk hD rfl rfl [] rfl Tryz.func438 (ctn_d s (by omega) _) ?_ (by simp [opsB]); simp [opsB]
 iterate 2 (refine Zo ?_ (by simp [opsB] <;> omega); simp [opsB])
 refine WL.nil (hK _ ?_)
 refine W.ret (Zq ?_)
 simp [Tryz.f424] <;> (try (have := prims_one (s := s); grind))
 simp [opsB]
 iterate 2 (refine Zn hD rfl rfl ?_; simp [opsB])
 iterate 2 (refine Zo ?_ (by simp [opsB] <;> omega); simp [opsB])
 refine WL.nil (hK _ ?_)
 refine W.ret (Zq ?_)
 simp [Tryz.f424] <;> (try (have := prims_one (s := s); grind))
theorem hasF_d (x : TExpr) (hz : x.sz ≤ 134217728) (h : HP) : CS cx.P 381 [.d (x.dd false)] h (.d (.lf (.bool (iF0 x)))) h := by
 have hz2 := x.sz_eq; unfold szs at hz2
 have hac := ac_rng x.fKind
 refine Ze Tryz.func381 rfl 131 ?_
 apply Zr; intros
 iterate 2 (refine Zo ?_; simp)
 exact Zx
 apply Zr; intros
 iterate 2 (refine Zo ?_; simp)
 refine Zl [] rfl Tryz.func423 (argc_d x.fKind _) ?_; simp
 iterate 5 (refine Zo ?_; simp)
 exact Zx
 refine W.seq ?_
 refine W.seq ?_
 refine W.regJ (D := _) [1] [1] [(35, .d (.lf (.bool (!if1 x))))] [] rfl (fun _ K hD hK => ?_) fun T hT => ?_
 iterate 4 (refine Zo ?_; simp)
 refine WL.split 17 _ rfl (fun g17 => ?_) fun g17 => ?_ <;> try simp at g17
 simp
 iterate 3 (refine Zn hD rfl rfl ?_; simp)
 iterate 2 (refine Zo ?_; simp)
 iterate 5 (refine Zn hD rfl rfl ?_; simp)
 iterate 2 (refine Zo ?_; simp)
 iterate 5 (refine Zn hD rfl rfl ?_; simp)
 refine Zo ?_; simp
 refine WL.nil (hK _ (Wz.to rfl rfl rfl ?_))
 simp [if1, within, g17] <;> first | omega | grind
 simp
 iterate 3 (refine Zg hD rfl rfl ?_; simp)
 iterate 2 (refine Zo ?_; simp)
 refine WL.split 22 _ rfl (fun g22 => ?_) fun g22 => ?_ <;> try simp at g22
 simp
 iterate 5 (refine Zn hD rfl rfl ?_; simp)
 iterate 2 (refine Zo ?_; simp)
 iterate 5 (refine Zn hD rfl rfl ?_; simp)
 refine Zo ?_; simp
 refine WL.nil (hK _ (Wz.to rfl rfl rfl ?_))
 simp [if1, within, g17, g22] <;> first | omega | grind
 simp
 iterate 5 (refine Zg hD rfl rfl ?_; simp)
 iterate 2 (refine Zo ?_; simp)
 refine WL.split 29 _ rfl (fun g29 => ?_) fun g29 => ?_ <;> try simp at g29
 simp
 iterate 5 (refine Zn hD rfl rfl ?_; simp)
 refine Zo ?_; simp
 refine WL.nil (hK _ (Wz.to rfl rfl rfl ?_))
 simp [if1, within, g17, g22, g29] <;> first | omega | grind
 simp
 iterate 5 (refine Zg hD rfl rfl ?_; simp)
 refine Zo ?_; simp
 refine WL.nil (hK _ (Wz.to rfl rfl rfl ?_))
 simp [if1, within, g17, g22, g29] <;> first | omega | grind
 simp at hT; subst hT
 refine Zc rfl ?_ ?_ <;> intro hb0 <;> try simp at hb0
 have hres : iF0 x = false := by unfold iF0; rw [show if1 x = false by simpa using hb0]; simp
 apply Zr; intros
 refine Zo ?_; simp
 exact Zx
 refine W.ret (Zq ?_)
 simp [Tryz.f381, hres] <;> grind
 have h1 : if1 x = true := by simpa using hb0
 refine W.skip ?_
 apply Yr rfl; intro K hK
 iterate 8 (refine Yo ?_; simp)
 exact DL.nil rfl hK
 refine W.seq ?_
 apply Zr; intros
 iterate 2 (refine Zo ?_; simp)
 exact Zx
 refine W.join [1] [1] [(5, .d (.lf (.bool (ifT x)))), (6, .d (.lf (.bool (ifN x))))] [] ?_ fun T hT => ?_
 refine W.block ?_
 refine W.seq ?_
 apply Zr; intros
 iterate 2 (refine Zo ?_; simp)
 exact Zx
 refine Zc rfl ?_ ?_ <;> intro hb1 <;> try simp at hb1
 refine W.skip ?_
 refine W.condT (by simp [hb1]) trivial ?_
 apply Zs; intros
 iterate 2 (refine Zo ?_; simp)
 refine Zl [] rfl Tryz.func106 (iName_d x.fName (by omega) _) ?_; simp
 refine Zo ?_; simp
 exact Zx
 refine Wz.to rfl rfl rfl ?_
 simp [ifT, ifN, noS_ie, hb0, hb1]
 apply Zr; intros
 iterate 2 (refine Zo ?_; simp)
 exact Zx
 refine Zc rfl ?_ ?_ <;> intro hb2 <;> try simp at hb2
 refine W.skip ?_
 refine W.condT (by simp [hb2]) trivial ?_
 apply Zs; intros
 iterate 2 (refine Zo ?_; simp)
 refine Zl [] rfl Tryz.func106 (iName_d x.fName (by omega) _) ?_; simp
 refine Zo ?_; simp
 exact Zx
 refine Wz.to rfl rfl rfl ?_
 simp [ifT, ifN, noS_ie, hb0, hb1, hb2]
 apply Zr; intros
 iterate 2 (refine Zo ?_; simp)
 exact Zx
 refine Zc rfl ?_ ?_ <;> intro hb3 <;> try simp at hb3
 refine W.skip ?_
 refine W.condT (by simp [hb3]) trivial ?_
 apply Zs; intros
 iterate 2 (refine Zo ?_; simp)
 refine Zl [] rfl Tryz.func106 (iName_d x.fName (by omega) _) ?_; simp
 refine Zo ?_; simp
 exact Zx
 refine Wz.to rfl rfl rfl ?_
 simp [ifT, ifN, noS_ie, hb0, hb1, hb2, hb3]
 apply Zs; intros
 iterate 2 (refine Zo ?_; simp)
 exact Zx
 refine Zc rfl ?_ ?_ <;> intro hb4 <;> try simp at hb4
 apply Zs; intros
 iterate 2 (refine Zo ?_; simp)
 refine Zl [] rfl Tryz.func106 (iName_d x.fName (by omega) _) ?_; simp
 refine Zo ?_; simp
 exact Zx
 refine Wz.to rfl rfl rfl ?_
 simp [ifT, ifN, noS_ie, hb0, hb1, hb2, hb3, hb4]
 apply Zr; intros
 iterate 2 (refine Zo ?_; simp)
 exact Zx
 refine Zc rfl ?_ ?_ <;> intro hb5 <;> try simp at hb5
 apply W.regSD rfl; intro K hK
 iterate 2 (refine Yo ?_; simp)
 refine Yl [] rfl Tryz.func106 (iName_d x.fTrait (by omega)) ?_; simp
 iterate 2 (refine Yo ?_; simp)
 refine Yl [] rfl Tryz.func106 (iName_d x.fName (by omega)) ?_; simp
 iterate 2 (refine Yo ?_; simp)
 exact DL.nil rfl hK
 refine Wz.to rfl rfl rfl ?_
 simp [ifT, ifN, noS_ie, hb0, hb1, hb2, hb3, hb4, hb5]
 apply Zr; intros
 iterate 2 (refine Zo ?_; simp)
 exact Zx
 refine Zc rfl ?_ ?_ <;> intro hb6 <;> try simp at hb6
 apply Zs; intros
 iterate 2 (refine Zo ?_; simp)
 refine Zl [] rfl Tryz.func424 (isOp_d x.fName (by omega) _) ?_; simp
 refine Zo ?_; simp
 exact Zx
 refine Wz.to rfl rfl rfl ?_
 simp [ifT, ifN, noS_ie, hb0, hb1, hb2, hb3, hb4, hb5, hb6]
 apply Zr; intros
 iterate 2 (refine Zo ?_; simp)
 exact Zx
 refine Zc rfl ?_ ?_ <;> intro hb7 <;> try simp at hb7
 apply Zs; intros
 iterate 2 (refine Zo ?_; simp)
 refine Zl [] rfl Tryz.func106 (iName_d x.fTrait (by omega) _) ?_; simp
 refine Zo ?_; simp
 exact Zx
 refine Wz.to rfl rfl rfl ?_
 simp [ifT, ifN, noS_ie, hb0, hb1, hb2, hb3, hb4, hb5, hb6, hb7]
 refine W.skip ?_
 refine Wz.to rfl rfl rfl ?_
 simp [ifT, ifN, noS_ie, hb0, hb1, hb2, hb3, hb4, hb5, hb6, hb7]
 simp at hT; subst hT
 apply Zr; intros
 iterate 4 (refine Zo ?_; simp)
 exact Zx
 refine W.seq ?_
 apply Zr; intros
 iterate 2 (refine Zo ?_; simp)
 exact Zx
 refine W.join [1, 5, 6] [1] [(7, .d (.lf (.bool (ifI x))))] [] ?_ fun T hT => ?_
 refine W.block ?_
 apply Zr; intros
 iterate 2 (refine Zo ?_; simp)
 exact Zx
 refine Zc rfl ?_ ?_ <;> intro hb8 <;> try simp at hb8
 refine W.regJ0 (D := _) rfl fun _ K hD hK => ?_
 iterate 4 (refine Zo ?_; simp)
 refine WL.split 80 _ rfl (fun g80 => ?_) fun g80 => ?_ <;> try simp at g80
 simp
 iterate 3 (refine Zg hD rfl rfl ?_; simp)
 iterate 2 (refine Zo ?_; simp)
 refine WL.nil (hK _ ?_)
 refine Wz.to rfl rfl rfl ?_
 simp [ifI, within, hb0, hb8, g80] <;> first | omega | grind
 simp
 iterate 3 (refine Zn hD rfl rfl ?_; simp)
 iterate 2 (refine Zo ?_; simp)
 refine WL.nil (hK _ ?_)
 refine Wz.to rfl rfl rfl ?_
 simp [ifI, within, hb0, hb8, g80] <;> first | omega | grind
 apply Zr; intros
 iterate 2 (refine Zo ?_; simp)
 exact Zx
 refine Zc rfl ?_ ?_ <;> intro hb9 <;> try simp at hb9
 refine W.regJ0 (D := _) rfl fun _ K hD hK => ?_
 iterate 4 (refine Zo ?_; simp)
 refine WL.split 90 _ rfl (fun g90 => ?_) fun g90 => ?_ <;> try simp at g90
 simp
 iterate 3 (refine Zn hD rfl rfl ?_; simp)
 iterate 2 (refine Zo ?_; simp)
 refine WL.nil (hK _ ?_)
 refine Wz.to rfl rfl rfl ?_
 simp [ifI, within, hb0, hb8, hb9, g90] <;> first | omega | grind
 simp
 iterate 3 (refine Zg hD rfl rfl ?_; simp)
 iterate 2 (refine Zo ?_; simp)
 refine WL.nil (hK _ ?_)
 refine Wz.to rfl rfl rfl ?_
 simp [ifI, within, hb0, hb8, hb9, g90] <;> first | omega | grind
 refine W.skip ?_
 refine Wz.to rfl rfl rfl ?_
 simp [ifI, within, hb0, hb8, hb9] <;> first | omega | grind
 simp at hT; subst hT
 refine W.seq ?_
 refine W.seq ?_
 refine W.regDJ (D := _) rfl [1, 5, 6, 7] [1] [(113, .d (.lf (.bool (ifY x))))] [] rfl (fun K hD hK => ?_) fun T hT => ?_
 iterate 5 (refine Yo ?_; simp)
 refine Yl [] rfl Tryz.func185 (iZeroT_d x.fType) ?_; simp
 iterate 3 (refine Yo ?_; simp)
 refine DL.split 103 _ rfl (fun g103 => ?_) fun g103 => ?_ <;> try simp at g103
 simp
 iterate 9 (refine Yn hD rfl rfl ?_; simp)
 refine Yo ?_; simp
 refine DL.nil rfl (hK _ (Wz.to rfl rfl rfl ?_))
 simp [ifY, g103] <;> grind
 simp
 iterate 4 (refine Yg hD rfl rfl ?_; simp)
 refine DL.split 107 _ rfl (fun g107 => ?_) fun g107 => ?_ <;> try simp at g107
 simp
 iterate 2 (refine Yg hD rfl rfl ?_; simp)
 refine Yk hD rfl rfl [] rfl Tryz.func254 (iValidT_d x.fType (by omega)) ?_; simp
 iterate 2 (refine Yg hD rfl rfl ?_; simp)
 refine Yo ?_; simp
 refine DL.nil rfl (hK _ (Wz.to rfl rfl rfl ?_))
 simp [ifY, g103, g107] <;> grind
 simp
 iterate 4 (refine Yn hD rfl rfl ?_; simp)
 refine Yg hD rfl rfl ?_; simp
 refine Yo ?_; simp
 refine DL.nil rfl (hK _ (Wz.to rfl rfl rfl ?_))
 simp [ifY, g103, g107] <;> grind
 simp at hT; subst hT
 refine Zc rfl ?_ ?_ <;> intro hb10 <;> try simp at hb10
 have hres : iF0 x = false := by unfold iF0; rw [show ifY x = true by simpa using hb10]; simp
 apply Zr; intros
 refine Zo ?_; simp
 exact Zx
 refine W.ret (Zq ?_)
 simp [Tryz.f381, hres] <;> grind
 have h2 : ifY x = false := by simpa using hb10
 have hres : iF0 x = (ifT x && ifN x && ifI x && (decide (x.fKind = 7) == decide (0 < x.fArms.length))) := by unfold iF0; rw [h1, h2]; simp
 refine W.skip ?_
 refine W.seq ?_
 refine W.regJ0 (D := _) rfl fun _ K hD hK => ?_
 iterate 2 (refine Zo ?_; simp)
 refine WL.split 115 _ rfl (fun g115 => ?_) fun g115 => ?_ <;> try simp at g115
 simp
 refine Zg hD rfl rfl ?_; simp
 iterate 2 (refine Zo ?_; simp)
 refine WL.split 118 _ rfl (fun g118 => ?_) fun g118 => ?_ <;> try simp at g118
 simp
 refine Zg hD rfl rfl ?_; simp
 iterate 2 (refine Zo ?_; simp)
 refine WL.split 121 _ rfl (fun g121 => ?_) fun g121 => ?_ <;> try simp at g121
 simp
 iterate 8 (refine Zg hD rfl rfl ?_; simp)
 iterate 2 (refine Zo ?_; simp)
 refine WL.nil (hK _ ?_)
 refine W.ret (Zq ?_)
 simp [Tryz.f381, hres, g115, g118, g121] <;> grind
 simp
 iterate 8 (refine Zn hD rfl rfl ?_; simp)
 iterate 2 (refine Zo ?_; simp)
 refine WL.nil (hK _ ?_)
 refine W.ret (Zq ?_)
 simp [Tryz.f381, hres, g115, g118, g121] <;> grind
 simp
 refine Zn hD rfl rfl ?_; simp
 iterate 2 (refine Zo ?_; simp)
 iterate 8 (refine Zn hD rfl rfl ?_; simp)
 iterate 2 (refine Zo ?_; simp)
 refine WL.nil (hK _ ?_)
 refine W.ret (Zq ?_)
 simp [Tryz.f381, hres, g115, g118] <;> grind
 simp
 refine Zn hD rfl rfl ?_; simp
 iterate 2 (refine Zo ?_; simp)
 refine Zn hD rfl rfl ?_; simp
 iterate 2 (refine Zo ?_; simp)
 iterate 8 (refine Zn hD rfl rfl ?_; simp)
 iterate 2 (refine Zo ?_; simp)
 refine WL.nil (hK _ ?_)
 refine W.ret (Zq ?_)
 simp [Tryz.f381, hres, g115] <;> grind
theorem xClo_d (x : TExpr) (hc : ∀ h, CS cx.P 326 [.d (x.dd false)] h (.d (.lf (.bool (iF x)))) h) (h : HP) : CS cx.P 383 [.d (x.dd false)] h (.d (.lf (.bool (!iF x)))) h := by
 refine Ze Tryz.func383 rfl 6 ?_
 apply Zr; intros
 iterate 2 (refine Zo ?_; simp)
 exact Zx
 apply Zr; intros
 refine Zo ?_; simp
 refine Zl [] rfl Tryz.func326 (hc _) ?_; simp
 iterate 2 (refine Zo ?_; simp)
 exact Zx
 refine W.ret (Zq ?_)
 simp [Tryz.f383]
theorem aClo_d (x : TArm) (hz : x.sz ≤ 134217728) (hc : ∀ h, CS cx.P 326 [.d (x.fBody.dd false)] h (.d (.lf (.bool (iF x.fBody)))) h) (h : HP) : CS cx.P 385 [.d (x.dd false)] h (.d (.lf (.bool (!iFa x)))) h := by
 have hz2 := x.sz_eq; unfold szs at hz2
 have hvs : ∀ s ∈ x.fVars, s.size ≤ 134217728 := fun s hs => by have := szL_le ByteArray.size hs; omega
 refine Ze Tryz.func385 rfl 19 ?_
 apply Zr; intros
 iterate 2 (refine Zo ?_; simp)
 exact Zx
 refine W.seq ?_
 refine W.regJ0 (D := _) rfl fun _ K hD hK => ?_
 iterate 2 (refine Zo ?_; simp)
 refine Zl [] rfl Tryz.func106 (iName_d x.fConstructor (by omega) _) ?_; simp
 iterate 2 (refine Zo ?_; simp)
 refine WL.split 7 _ rfl (fun g7 => ?_) fun g7 => ?_ <;> try simp at g7
 simp
 iterate 4 (refine Zn hD rfl rfl ?_; simp)
 iterate 2 (refine Zo ?_; simp)
 iterate 4 (refine Zn hD rfl rfl ?_; simp)
 iterate 2 (refine Zo ?_; simp)
 refine WL.nil (hK _ ?_)
 refine W.ret (Zq ?_)
 simp [Tryz.f385, iFa_eq, g7] <;> grind
 simp
 iterate 2 (refine Zg hD rfl rfl ?_; simp)
 refine Zk hD rfl rfl [] rfl Tryz.func107 (areNames_d x.fVars hvs (by omega) _) ?_; simp
 refine Zg hD rfl rfl ?_; simp
 iterate 2 (refine Zo ?_; simp)
 refine WL.split 13 _ rfl (fun g13 => ?_) fun g13 => ?_ <;> try simp at g13
 simp
 iterate 4 (refine Zn hD rfl rfl ?_; simp)
 iterate 2 (refine Zo ?_; simp)
 refine WL.nil (hK _ ?_)
 refine W.ret (Zq ?_)
 simp [Tryz.f385, iFa_eq, g7, g13] <;> grind
 simp
 iterate 2 (refine Zg hD rfl rfl ?_; simp)
 refine Zk hD rfl rfl [] rfl Tryz.func326 (hc _) ?_; simp
 refine Zg hD rfl rfl ?_; simp
 iterate 2 (refine Zo ?_; simp)
 refine WL.nil (hK _ ?_)
 refine W.ret (Zq ?_)
 simp [Tryz.f385, iFa_eq, g7, g13] <;> grind
theorem isX_a (x : TExpr) (hz : x.sz ≤ 134217728) (hc : ∀ y ∈ x.fArgs, ∀ h, CS cx.P 326 [.d (y.dd false)] h (.d (.lf (.bool (iF y)))) h) (hc2 : ∀ a ∈ x.fArms, ∀ h, CS cx.P 326 [.d (a.fBody.dd false)] h (.d (.lf (.bool (iF a.fBody)))) h) (h : HP) : CS cx.P 326 [.d (x.dd false)] h (.d (.lf (.bool (iF x)))) h := by
 have hz2 := x.sz_eq; unfold szs at hz2
 refine Ze Tryz.func326 rfl 15 ?_
 apply Zr; intros
 iterate 2 (refine Zo ?_; simp)
 exact Zx
 refine W.seq ?_
 refine W.seq ?_
 refine W.regJ (D := _) [1] [1] [(10, .d (.lf (.bool (!(iF0 x && !(x.fArgs.any fun y => !iF y))))))] [] rfl (fun _ K hD hK => ?_) fun T hT => ?_
 refine Zo ?_; simp
 refine Zl [] rfl Tryz.func381 (hasF_d x hz _) ?_; simp
 iterate 2 (refine Zo ?_; simp)
 refine WL.split 6 _ rfl (fun g6 => ?_) fun g6 => ?_ <;> try simp at g6
 simp
 iterate 3 (refine Zn hD rfl rfl ?_; simp)
 refine Zo ?_; simp
 refine WL.nil (hK _ (Wz.to rfl rfl rfl ?_))
 simp [g6] <;> grind
 simp
 iterate 2 (refine Zg hD rfl rfl ?_; simp)
 refine Zk hD rfl rfl [] rfl Tryz.func382 (ContainsFuncExpr_d x.fArgs (by omega) 383 Tryz.f383 _ ⟨Tryz.func383, rfl, rfl⟩ (fun y => !iF y) (fun y hy h => xClo_d y (hc y hy) h) _) ?_; simp
 refine Zo ?_; simp
 refine WL.nil (hK _ (Wz.to rfl rfl rfl ?_))
 simp [g6] <;> grind
 simp at hT; subst hT
 refine Zc rfl ?_ ?_ <;> intro hb0 <;> try simp at hb0
 have hres : iF x = false := by rw [iF_eq]; simp at hb0 ⊢; grind
 apply Zr; intros
 refine Zo ?_; simp
 exact Zx
 refine W.ret (Zq ?_)
 simp [Tryz.f326, hres]
 have hres : iF x = !(x.fArms.any fun y => !iFa y) := by rw [iF_eq]; simp at hb0 ⊢; grind
 refine W.skip ?_
 apply Zr; intros
 iterate 2 (refine Zo ?_; simp)
 refine Zl [] rfl Tryz.func384 (ContainsFuncArm_d x.fArms (by omega) 385 Tryz.f385 _ ⟨Tryz.func385, rfl, rfl⟩ (fun y => !iFa y) (fun y hy h => aClo_d y (by have := szL_le TArm.sz hy; omega) (hc2 y hy) h) _) ?_; simp
 iterate 2 (refine Zo ?_; simp)
 exact Zx
 refine W.ret (Zq ?_)
 simp [Tryz.f326, hres]
theorem isX_d (x : TExpr) (hz : x.sz ≤ 134217728) (h : HP) : CS cx.P 326 [.d (x.dd false)] h (.d (.lf (.bool (iF x)))) h := isX_a x hz (fun y hy h => isX_d y (by have h1 := szL_le TExpr.sz hy; have h2 := x.sz_eq; unfold szs at h2; omega) h) (fun a ha h => isX_d a.fBody (by have h1 := szL_le TArm.sz ha; have h2 := x.sz_eq; have h3 := a.sz_eq; unfold szs at h2; omega) h) h
termination_by SizeOf.sizeOf x
decreasing_by
 ·have := List.sizeOf_lt_of_mem hy; have := x.lt_fArgs; omega
 ·have := List.sizeOf_lt_of_mem ha; have := x.lt_fArms; have := a.lt_fBody; omega
theorem iValidX_d (x : TExpr) (hz : x.sz ≤ 134217728) (h : HP) : CS cx.P 260 [.d (x.dd false)] h (.d (.lf (.bool (exV x)))) h := by
 refine Ze Tryz.func260 rfl 10 ?_
 apply Zr; intros
 iterate 2 (refine Zo ?_; simp)
 exact Zx
 refine W.seq ?_
 refine W.regJ0 (D := _) rfl fun _ K hD hK => ?_
 refine Zo ?_; simp
 refine Zl [] rfl Tryz.func325 (iSzX_d x hz _) ?_; simp
 iterate 2 (refine Zo ?_; simp)
 refine WL.split 6 _ rfl (fun g6 => ?_) fun g6 => ?_ <;> try simp at g6
 simp
 refine Zg hD rfl rfl ?_; simp
 refine Zk hD rfl rfl [] rfl Tryz.func326 (isX_d x hz _) ?_; simp
 iterate 2 (refine Zo ?_; simp)
 refine WL.nil (hK _ ?_)
 refine W.ret (Zq ?_)
 simp [Tryz.f260, exV_iF, g6] <;> omega
 simp
 iterate 2 (refine Zn hD rfl rfl ?_; simp)
 iterate 2 (refine Zo ?_; simp)
 refine WL.nil (hK _ ?_)
 refine W.ret (Zq ?_)
 simp [Tryz.f260, exV_iF, g6] <;> omega
theorem iFree_a (ob : Bool) (x : TExpr) (b o : List ByteArray) (hz : x.sz ≤ 134217728) (hb : b.length + x.sz ≤ 1073741824) (ho : o.length + szX x ≤ 1073741824) (hc : ∀ y ∈ x.fArgs, ∀ b o : List ByteArray, b.length + y.sz ≤ 1073741824 → o.length + szX y ≤ 1073741824 → ∀ h, CS cx.P 327 [.d (.sl true .one (o.map dS)), .d (y.dd false), .d (.sl false .one (b.map dS))] h (.d (.sl true .one ((fvE y b o).map dS))) h) (hc2 : ∀ a ∈ x.fArms, ∀ b o : List ByteArray, b.length + a.fBody.sz ≤ 1073741824 → o.length + szX a.fBody ≤ 1073741824 → ∀ h, CS cx.P 327 [.d (.sl true .one (o.map dS)), .d (a.fBody.dd false), .d (.sl false .one (b.map dS))] h (.d (.sl true .one ((fvE a.fBody b o).map dS))) h) (h : HP) : CS cx.P 327 [.d (.sl true .one (o.map dS)), .d (x.dd false), .d (.sl ob .one (b.map dS))] h (.d (.sl true .one ((fvE x b o).map dS))) h := by
 have hz2 := x.sz_eq; unfold szs at hz2
 refine Ze Tryz.func327 rfl 80 ?_
 apply Zr; intros
 iterate 2 (refine Zo ?_; simp)
 exact Zx
 refine W.seq ?_
 refine W.seq ?_
 refine W.regJ (D := _) [0, 2, 4] [4] [(27, .d (.lf (.bool (decide (x.fKind = 3) && (!hasS b x.fName && !hasS o x.fName)))))] [] rfl (fun _ K hD hK => ?_) fun T hT => ?_
 iterate 4 (refine Zo ?_; simp)
 refine WL.split 14 _ rfl (fun g14 => ?_) fun g14 => ?_ <;> try simp at g14
 simp
 iterate 3 (refine Zg hD rfl rfl ?_; simp)
 refine Zk hD rfl rfl [] rfl Tryz.func115 (Contains_d b x.fName (by omega) _) ?_; simp
 refine Zg hD rfl rfl ?_; simp
 iterate 2 (refine Zo ?_; simp)
 refine WL.split 21 _ rfl (fun g21 => ?_) fun g21 => ?_ <;> try simp at g21
 simp
 iterate 3 (refine Zg hD rfl rfl ?_; simp)
 refine Zk hD rfl rfl [] rfl Tryz.func115 (Contains_d o x.fName (by omega) _) ?_; simp
 refine Zg hD rfl rfl ?_; simp
 refine Zo ?_; simp
 refine WL.nil (hK _ (Wz.to rfl rfl rfl ?_))
 simp [g14, g21]
 simp
 iterate 5 (refine Zn hD rfl rfl ?_; simp)
 refine Zo ?_; simp
 refine WL.nil (hK _ (Wz.to rfl rfl rfl ?_))
 simp [g14, g21]
 simp
 iterate 5 (refine Zn hD rfl rfl ?_; simp)
 iterate 2 (refine Zo ?_; simp)
 iterate 5 (refine Zn hD rfl rfl ?_; simp)
 refine Zo ?_; simp
 refine WL.nil (hK _ (Wz.to rfl rfl rfl ?_))
 simp [g14]
 simp at hT; subst hT
 refine W.join [2, 4] [4] [(0, .d (.sl true .one ((fv0 b o x.fKind x.fName).map dS)))] [] ?_ fun T hT => ?_
 refine Zc rfl ?_ ?_ <;> intro hb0 <;> try simp at hb0
 have ht : fv0 b o x.fKind x.fName = o ++ [x.fName] := by unfold fv0; rw [if_pos (by simpa using hb0)]
 apply Zs; intros
 refine Zm [28] ?_; simp
 iterate 5 (refine Zo ?_; simp)
 exact Zx
 refine Wz.to rfl rfl rfl ?_
 simp [ht]
 have ht : fv0 b o x.fKind x.fName = o := by unfold fv0; rw [if_neg (by simpa using hb0)]
 refine W.skip ?_
 refine Wz.to rfl rfl rfl ?_
 simp [ht]
 simp at hT; subst hT
 refine W.seq ?_
 apply Zr; intros
 iterate 4 (refine Zo ?_; simp)
 exact Zx
 refine W.block ?_
 refine W.loopk [2, 4, 34, 35] [4] (fun k0 => [(36, .d (.lf (.int .i64 (k0 : Int)))), (0, .d (.sl true .one ((faK x b o k0).map dS)))]) (fun _ => []) x.fArgs.length rfl (by simp [faK_zero]) fun k0 hk0 T hT => ?_
 simp at hT; subst hT
 apply Zr; intros
 refine Zo ?_; simp
 exact Zx
 refine Zv rfl ?_ ?_ <;> intro hb1 <;> try simp at hb1
 have hx := ixNext hb1 (by omega)
 have hl := faK_len (b := b) (o := o) hb1
 have hy := szL_le TExpr.sz (gm hb1)
 have hbl : (bIn x b k0).length ≤ b.length + 1 := by unfold bIn; split <;> simp
 refine W.skip ?_
 refine Zb ?_
 apply Zr; intros
 iterate 2 (refine Zo ?_ (by simp [hb1, hx] <;> omega); simp [hb1, hx])
 refine Zm [40] ?_ (by simp [hb1, hx] <;> omega); simp [hb1, hx]
 iterate 3 (refine Zo ?_ (by simp [hb1, hx] <;> omega); simp [hb1, hx])
 exact Zx
 refine W.seq ?_
 refine W.regJ (D := _) [0, 2, 4, 8, 34, 35, 36] [4, 8] [(47, .d (.lf (.bool (decide (x.fKind = 8) && decide (k0 = 1)))))] [] rfl (fun _ K hD hK => ?_) fun T hT => ?_
 iterate 4 (refine Zo ?_ (by simp [hb1, hx] <;> omega); simp [hb1, hx])
 refine WL.split 44 _ rfl (fun g44 => ?_) fun g44 => ?_ <;> try simp at g44
 simp [hb1, hx]
 iterate 2 (refine Zg hD rfl rfl ?_ (by simp [hb1, hx] <;> omega); simp [hb1, hx])
 refine Zo ?_ (by simp [hb1, hx] <;> omega); simp [hb1, hx]
 refine WL.nil (hK _ (Wz.to rfl rfl rfl ?_))
 simp [g44] <;> omega
 simp [hb1, hx]
 iterate 2 (refine Zn hD rfl rfl ?_; simp [hb1, hx])
 refine Zo ?_ (by simp [hb1, hx] <;> omega); simp [hb1, hx]
 refine WL.nil (hK _ (Wz.to rfl rfl rfl ?_))
 simp [g44] <;> omega
 simp at hT; subst hT
 refine Zc rfl ?_ ?_ <;> intro hb2 <;> try simp at hb2
 have hbi : bIn x b k0 = b ++ [x.fName] := by unfold bIn; rw [if_pos (by simpa using hb2)]
 apply W.regSD rfl; intro K hK
 refine Ym [48] ?_ (by simp [hb1, hx, hbi] <;> omega); simp [hb1, hx, hbi]
 iterate 2 (refine Yo ?_ (by simp [hb1, hx, hbi] <;> omega); simp [hb1, hx, hbi])
 refine Yl [] rfl Tryz.func386 (CloneStr_d b (by omega)) ?_ (by simp [hb1, hx, hbi]); simp [hb1, hx, hbi]
 iterate 4 (refine Yo ?_ (by simp [hb1, hx, hbi] <;> omega); simp [hb1, hx, hbi])
 refine Yl [48] rfl Tryz.func327 (hc x.fArgs[k0] (gm hb1) (bIn x b k0) (faK x b o k0) (by omega) (by omega)) ?_ (by simp [hb1, hx, hbi]); simp [hb1, hx, hbi]
 refine Yo ?_ (by simp [hb1, hx, hbi] <;> omega); simp [hb1, hx, hbi]
 exact DL.nil rfl hK
 apply Zs; intros
 iterate 2 (refine Zo ?_ (by simp [hb1, hx, hbi] <;> omega); simp [hb1, hx, hbi])
 exact Zx
 refine ⟨hb1, Wz.to rfl rfl rfl ?_⟩
 have hs := faK_step (b := b) (o := o) hb1
 rw [hbi] at hs
 simp [hs]
 have hbi : bIn x b k0 = b := by unfold bIn; rw [if_neg (by simpa using hb2)]
 apply Zs; intros
 refine Zm [57] ?_ (by simp [hb1, hx, hbi] <;> omega); simp [hb1, hx, hbi]
 iterate 2 (refine Zo ?_ (by simp [hb1, hx, hbi] <;> omega); simp [hb1, hx, hbi])
 refine Zl [57] rfl Tryz.func327 (hc x.fArgs[k0] (gm hb1) (bIn x b k0) (faK x b o k0) (by omega) (by omega) _) ?_ (by simp [hb1, hx, hbi]); simp [hb1, hx, hbi]
 refine Zo ?_ (by simp [hb1, hx, hbi] <;> omega); simp [hb1, hx, hbi]
 exact Zx
 apply Zs; intros
 iterate 2 (refine Zo ?_ (by simp [hb1, hx, hbi] <;> omega); simp [hb1, hx, hbi])
 exact Zx
 refine ⟨hb1, Wz.to rfl rfl rfl ?_⟩
 have hs := faK_step (b := b) (o := o) hb1
 rw [hbi] at hs
 simp [hs]
 have hkl : k0 = x.fArgs.length := by omega
 subst hkl
 refine W.exit ?_
 refine W.seq ?_
 apply Zr; intros
 iterate 4 (refine Zo ?_; simp)
 exact Zx
 refine W.block ?_
 refine W.loopk [2, 63, 64] [] (fun k1 => [(65, .d (.lf (.int .i64 (k1 : Int)))), (0, .d (.sl true .one ((frK x b o k1).map dS)))]) (fun _ => []) x.fArms.length rfl (by simp [frK_zero]) fun k1 hk1 T hT => ?_
 simp at hT; subst hT
 apply Zr; intros
 refine Zo ?_; simp
 exact Zx
 refine Zv rfl ?_ ?_ <;> intro hb3 <;> try simp at hb3
 have hx := ixNext hb3 (by omega)
 have hl := frK_len (b := b) (o := o) hb3
 have hy := szL_le TArm.sz (gm hb3)
 have hy2 := x.fArms[k1].sz_eq; unfold szs at hy2
 refine W.skip ?_
 refine Zb ?_
 apply Zr; intros
 refine Zo ?_ (by simp [hb3, hx] <;> omega); simp [hb3, hx]
 refine Zm [68] ?_ (by simp [hb3, hx] <;> omega); simp [hb3, hx]
 iterate 2 (refine Zo ?_ (by simp [hb3, hx] <;> omega); simp [hb3, hx])
 exact Zx
 apply W.regSD rfl; intro K hK
 refine Ym [69] ?_ (by simp [hb3, hx] <;> omega); simp [hb3, hx]
 iterate 6 (refine Yo ?_ (by simp [hb3, hx] <;> omega); simp [hb3, hx])
 refine Yl [] rfl Tryz.func387 (ConcatStr_d [b, x.fArms[k1].fVars] (by simp) (by simp [lenK]; omega)) ?_ (by simp [hb3, hx]); simp [hb3, hx]
 refine Yl [69] rfl Tryz.func327 (hc2 x.fArms[k1] (gm hb3) (b ++ x.fArms[k1].fVars) (frK x b o k1) (by simp; omega) (by omega)) ?_ (by simp [hb3, hx]); simp [hb3, hx]
 refine Yo ?_ (by simp [hb3, hx] <;> omega); simp [hb3, hx]
 exact DL.nil rfl hK
 apply Zs; intros
 iterate 2 (refine Zo ?_ (by simp [hb3, hx] <;> omega); simp [hb3, hx])
 exact Zx
 refine ⟨hb3, Wz.to rfl rfl rfl ?_⟩
 have hs := frK_step (b := b) (o := o) hb3
 simp [hs]
 have hkl : k1 = x.fArms.length := by omega
 subst hkl
 have hres := frK_full x b o
 refine W.exit ?_
 apply Zr; intros
 refine Zm [79] ?_; simp
 refine Zo ?_; simp
 exact Zx
 refine W.ret (Zq ?_)
 simp [Tryz.f327, hres]
theorem iFree_d (x : TExpr) (b o : List ByteArray) (hz : x.sz ≤ 134217728) (hb : b.length + x.sz ≤ 1073741824) (ho : o.length + szX x ≤ 1073741824) (h : HP) : CS cx.P 327 [.d (.sl true .one (o.map dS)), .d (x.dd false), .d (.sl false .one (b.map dS))] h (.d (.sl true .one ((fvE x b o).map dS))) h := iFree_a false x b o hz hb ho (fun y hy b o hb ho h => iFree_d y b o (by have h1 := szL_le TExpr.sz hy; have h2 := x.sz_eq; unfold szs at h2; omega) hb ho h) (fun a ha b o hb ho h => iFree_d a.fBody b o (by have h1 := szL_le TArm.sz ha; have h2 := x.sz_eq; have h3 := a.sz_eq; unfold szs at h2; omega) hb ho h) h
termination_by SizeOf.sizeOf x
decreasing_by
 ·have := List.sizeOf_lt_of_mem hy; have := x.lt_fArgs; omega
 ·have := List.sizeOf_lt_of_mem ha; have := x.lt_fArms; have := a.lt_fBody; omega
theorem iFv_d (x : TExpr) (hz : x.sz ≤ 134217728) (h : HP) : CS cx.P 261 [.d (x.dd false)] h (.d (.sl true .one ((fv x).map dS))) h := by
 have hsx := szX_le x
 refine Ze Tryz.func261 rfl 6 ?_
 apply Zr; intros
 iterate 2 (refine Zo ?_; simp)
 exact Zx
 apply Zr; intros
 iterate 2 (refine Zo ?_; simp)
 refine Zl [3] rfl Tryz.func327 (iFree_a true x [] [] hz (by simp; omega) (by simp; omega) (fun y hy b o hb ho h => iFree_d y b o (by have h1 := szL_le TExpr.sz hy; have h2 := x.sz_eq; unfold szs at h2; omega) hb ho h) (fun a ha b o hb ho h => iFree_d a.fBody b o (by have h1 := szL_le TArm.sz ha; have h2 := x.sz_eq; have h3 := a.sz_eq; unfold szs at h2; omega) hb ho h) _) ?_; simp
 refine Zo ?_; simp
 exact Zx
 refine W.ret (Zq ?_)
 simp [Tryz.f261, fv]
theorem iBody_d (v : List ByteArray) (hm : v.length ≤ 134217728) (hv : ∀ s ∈ v, s.size ≤ 134217728) (x : TExpr) (hz : x.sz ≤ 134217728) (h : HP) : CS cx.P 186 [.d (.sl false .one (v.map dS)), .d (x.dd false)] h (.d (.lf (.bool (nms v && dst v && body x v)))) h := by
 have hlen : (fv x).length ≤ 1 + x.sz := by have h1 := fvE_len x [] []; have h2 := szX_le x; unfold fv; simp at h1; omega
 refine Ze Tryz.func186 rfl 17 ?_
 apply Zr; intros
 iterate 2 (refine Zo ?_; simp)
 exact Zx
 refine W.seq ?_
 refine W.regJ0 (D := _) rfl fun _ K hD hK => ?_
 refine Zo ?_; simp
 refine Zl [] rfl Tryz.func107 (areNames_d v hv (by omega) _) ?_; simp
 refine Zo ?_; simp
 refine WL.split 7 _ rfl (fun g7 => ?_) fun g7 => ?_ <;> try simp at g7
 simp
 refine Zg hD rfl rfl ?_; simp
 refine Zk hD rfl rfl [] rfl Tryz.func260 (iValidX_d x hz _) ?_; simp
 iterate 2 (refine Zo ?_; simp)
 refine WL.split 11 _ rfl (fun g11 => ?_) fun g11 => ?_ <;> try simp at g11
 simp
 refine Zg hD rfl rfl ?_; simp
 refine Zk hD rfl rfl [] rfl Tryz.func261 (iFv_d x hz _) ?_; simp
 refine Zg hD rfl rfl ?_; simp
 refine Zk hD rfl rfl [] rfl Tryz.func48 (areAmong_d (fv x) v (by omega) (by omega) _) ?_; simp
 iterate 2 (refine Zo ?_; simp)
 refine WL.nil (hK _ ?_)
 refine W.ret (Zq ?_)
 simp [Tryz.f186, body, g7, g11] <;> grind
 simp
 iterate 4 (refine Zn hD rfl rfl ?_; simp)
 iterate 2 (refine Zo ?_; simp)
 refine WL.nil (hK _ ?_)
 refine W.ret (Zq ?_)
 simp [Tryz.f186, body, g7, g11] <;> grind
 simp
 iterate 2 (refine Zn hD rfl rfl ?_; simp)
 iterate 2 (refine Zo ?_; simp)
 iterate 4 (refine Zn hD rfl rfl ?_; simp)
 iterate 2 (refine Zo ?_; simp)
 refine WL.nil (hK _ ?_)
 refine W.ret (Zq ?_)
 simp [Tryz.f186, body, g7] <;> grind
end Go.Proofs.YtdooklofebdknaaGreat
