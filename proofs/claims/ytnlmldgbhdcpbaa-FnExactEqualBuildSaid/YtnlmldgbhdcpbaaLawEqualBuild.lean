/- The law FnExactEqualBuild, walked: it answers true and leaves all that was there as it was. No condition. -/
import Derived.Test.YtnlmldgbhdcpbaaOpen
import Derived.Test.YtnlmldgbhdcpbaaSz
import Derived.Test.YtnlmldgbhdcpbaaTo
import Derived.Test.YtnlmldgbhdcpbaaEqFS
import Derived.Test.YtnlmldgbhdcpbaaEqFI
namespace Go.Proofs.Ytnlmldgbhdcpbaa.fnExactEqualBuild
open Go.RowKit
theorem alloc_self (w : World) (o : Obj) : (w.alloc o).heap[w.heap.size]? = some o := by
  show (w.heap.push o)[w.heap.size]? = some o
  simp
theorem Cells.new (w : World) (cs : List Value) (t : TypeId) {b : Nat} (hb : b = w.heap.size) : Cells (w.alloc (.cells cs.toArray t)) b 0 cs := by
  subst hb
  intro j u hu
  rw [cell_of_row _ _ _ _ t (0, 0) (alloc_self w _)]
  simpa using hu
theorem infoL36 : (Try.prog.info? 36).map (·.size) = some 1 := by kernel_rfl
theorem infoL41 : (Try.prog.info? 41).map (·.size) = some 1 := by kernel_rfl
set_option maxRecDepth 100000 in
set_option maxHeartbeats 1000000 in
theorem law_c (x0 : TBuild) (x1 : TBuild) : ∀ (w : World) (c0 : List Value) (_ : Rep w (Live w) x0.enc c0) (c1 : List Value) (_ : Rep w (Live w) x1.enc c1),
    Calls Try.prog 4 #[.agg c0.toArray, .agg c1.toArray] w fun e w' => e = .returned (.bool true) ∧ Below w.heap.size w w' := by
  intro w c0 h0 c1 h1
  have hV : Below w.heap.size w ((w.alloc (.cells c0.toArray 36)).alloc (.cells c1.toArray 36)) := (((Below.refl _ _).alloc (Nat.le_refl _) _).alloc (by simp <;> omega) _)
  have hE : ∃ w0, w0 = ((w.alloc (.cells c0.toArray 36)).alloc (.cells c1.toArray 36)) := ⟨_, rfl⟩
  have R0 := h0.step hV
  have R1 := h1.step hV
  have C0 : Cells (w.alloc (.cells c0.toArray 36)) (w.heap.size) 0 c0 := Cells.new _ _ _ (by simp)
  replace C0 : Cells ((w.alloc (.cells c0.toArray 36)).alloc (.cells c1.toArray 36)) (w.heap.size) 0 c0 := Cells.ext ((Below.refl _ _).alloc (Nat.le_refl _) _) (by simp <;> omega) C0
  have l0 : w.heap.size < ((w.alloc (.cells c0.toArray 36)).alloc (.cells c1.toArray 36)).heap.size := by simp <;> omega
  have C1 : Cells ((w.alloc (.cells c0.toArray 36)).alloc (.cells c1.toArray 36)) (w.heap.size + 1) 0 c1 := Cells.new _ _ _ (by simp)
  have l1 : w.heap.size + 1 < ((w.alloc (.cells c0.toArray 36)).alloc (.cells c1.toArray 36)).heap.size := by simp <;> omega
  clear hE
  go_enter Try.func4, Try.ntmps4
  go_wp2_with (with_reducible refine ld rfl 36 _ rfl (w.heap.size) _ rfl c0 C0 _ Try.underlying36 (by rw [Rep.length _ _ R0, TBuild.width]; exact infoL36) ?_)
  refine (szBuild_c x0 _ _ (fun _ h => h) _ R0 (1048576) (by omega) (by omega)).mono ?_
  rintro e w1 ⟨rfl, hB1⟩
  replace R0 := R0.step hB1
  replace R1 := R1.step hB1
  replace C0 := Cells.ext hB1 l0 C0
  replace l0 := Nat.lt_of_lt_of_le l0 hB1.size
  replace C1 := Cells.ext hB1 l1 C1
  replace l1 := Nat.lt_of_lt_of_le l1 hB1.size
  replace hV := hV.trans (hB1.mono hV.size)
  rcases (show 1048576 < ((x0.sz : Nat) : Int) ∨ ((x0.sz : Nat) : Int) ≤ 1048576 by omega) with z1 | z1
  · rw [szr_gt (by omega)]
    go_wp2
    go_ret
    exact ⟨rfl, hV⟩
  rw [szr_le z1]
  go_wp2_with (with_reducible refine ld rfl 36 _ rfl (w.heap.size + 1) _ rfl c1 C1 _ Try.underlying36 (by rw [Rep.length _ _ R1, TBuild.width]; exact infoL36) ?_)
  refine (szBuild_c x1 _ _ (fun _ h => h) _ R1 (1048576 - (x0.sz : Nat)) (by omega) (by omega)).mono ?_
  rintro e w2 ⟨rfl, hB2⟩
  replace R0 := R0.step hB2
  replace R1 := R1.step hB2
  replace C0 := Cells.ext hB2 l0 C0
  replace l0 := Nat.lt_of_lt_of_le l0 hB2.size
  replace C1 := Cells.ext hB2 l1 C1
  replace l1 := Nat.lt_of_lt_of_le l1 hB2.size
  replace hV := hV.trans (hB2.mono hV.size)
  rcases (show 1048576 - (x0.sz : Nat) < ((x1.sz : Nat) : Int) ∨ ((x1.sz : Nat) : Int) ≤ 1048576 - (x0.sz : Nat) by omega) with z2 | z2
  · rw [szr_gt (by omega)]
    go_wp2
    go_ret
    exact ⟨rfl, hV⟩
  rw [szr_le z2]
  go_wp2_with fail
  have hI3 : Below w2.heap.size w2 w2.drew := (Below.refl _ _).drew
  refine rg 6 (Below w2.heap.size w2) (by kernel_rfl) rfl ?_
  refine rg_seg (fuel := 4) [0, 2] hI3 (by kernel_rfl) rfl ?_
  simp only [pick, List.getElem?_cons_zero, List.getElem?_cons_succ]
  refine sg_fix _ rfl (fun w' hI => run_ld 36 _ rfl (w.heap.size) _ rfl c0 (Cells.ext hI l0 C0) _ Try.underlying36 (by rw [Rep.length _ _ R0, TBuild.width]; exact infoL36)) ?_
  simp only [Act.put, List.setIfInBounds_toArray, List.set_cons_zero, List.set_cons_succ]
  refine sg_fix _ rfl (fun w' hI => run_ld 36 _ rfl (w.heap.size + 1) _ rfl c1 (Cells.ext hI l1 C1) _ Try.underlying36 (by rw [Rep.length _ _ R1, TBuild.width]; exact infoL36)) ?_
  simp only [Act.put, List.setIfInBounds_toArray, List.set_cons_zero, List.set_cons_succ]
  refine sg_nil ?_
  refine rg_one (fuel := 3) 1 (by kernel_rfl) rfl (fun Kq4 hq4 => ?_)
  simp only [pick, List.getElem?_cons_zero, List.getElem?_cons_succ]
  refine rg_call rfl _ _ (by go_simp; exact ⟨rfl, rfl⟩) ?_
  refine (toBuild_c x0 (by omega) _ _ (fun _ h => h) _ (R0.step hI3)).mono ?_
  rintro e w3 ⟨d3, b3, rfl, o3, n3, r3, hB3⟩
  have Q3 := o3.live r3
  have hI5 := hI3.trans (hB3.mono hI3.size)
  refine ⟨_, rfl, hq4 _ _ hI5 ?_⟩
  simp only [Act.put, List.setIfInBounds_toArray, List.set_cons_zero, List.set_cons_succ]
  refine rg_one (fuel := 2) 3 (by kernel_rfl) rfl (fun Kq6 hq6 => ?_)
  simp only [pick, List.getElem?_cons_zero, List.getElem?_cons_succ]
  refine rg_call rfl _ _ (by go_simp; exact ⟨rfl, rfl⟩) ?_
  refine (toBuild_c x1 (by omega) _ _ (fun _ h => h) _ (R1.step hI5)).mono ?_
  rintro e w4 ⟨d4, b4, rfl, o4, n4, r4, hB4⟩
  have Q4 := o4.live r4
  replace Q3 := Q3.step hB4
  have hI7 := hI5.trans (hB4.mono hI5.size)
  refine ⟨_, rfl, hq6 _ _ hI7 ?_⟩
  simp only [Act.put, List.setIfInBounds_toArray, List.set_cons_zero, List.set_cons_succ]
  refine rg_one (fuel := 1) 4 (by kernel_rfl) rfl (fun Kq8 hq8 => ?_)
  simp only [pick, List.getElem?_cons_zero, List.getElem?_cons_succ]
  refine rg_call rfl _ _ (by go_simp; exact ⟨rfl, rfl⟩) ?_
  refine (specEqualBuild_c x0 x1 _ _ (fun _ h => h) _ _ Q3 Q4).mono ?_
  rintro e w5 ⟨rfl, hB5⟩
  replace Q3 := Q3.step hB5
  replace Q4 := Q4.step hB5
  have hI9 := hI7.trans (hB5.mono hI7.size)
  refine ⟨_, rfl, hq8 _ _ hI9 ?_⟩
  simp only [Act.put, List.setIfInBounds_toArray, List.set_cons_zero, List.set_cons_succ]
  refine rg_seg (fuel := 0) [5] hI9 (by kernel_rfl) rfl ?_
  simp only [pick, List.getElem?_cons_zero, List.getElem?_cons_succ]
  refine sg_fix _ rfl (fun w' hI => by go_simp; rfl) ?_; simp only [Act.put, List.setIfInBounds_toArray, List.set_cons_zero, List.set_cons_succ]
  refine sg_nil (rg_end (by kernel_rfl) ?_)
  replace R0 := R0.step hI9
  replace R1 := R1.step hI9
  replace C0 := Cells.ext hI9 l0 C0
  replace l0 := Nat.lt_of_lt_of_le l0 hI9.size
  replace C1 := Cells.ext hI9 l1 C1
  replace l1 := Nat.lt_of_lt_of_le l1 hI9.size
  replace hV := hV.trans (hI9.mono hV.size)
  go_wp2_with (with_reducible refine ld rfl 36 _ rfl (w.heap.size) _ rfl c0 C0 _ Try.underlying36 (by rw [Rep.length _ _ R0, TBuild.width]; exact infoL36) ?_)
  refine (toBuild_c x0 (by omega) _ _ (fun _ h => h) _ R0).mono ?_
  rintro e w6 ⟨d6, b6, rfl, o6, n6, r6, hB6⟩
  have Q6 := o6.live r6
  replace R0 := R0.step hB6
  replace R1 := R1.step hB6
  replace C0 := Cells.ext hB6 l0 C0
  replace l0 := Nat.lt_of_lt_of_le l0 hB6.size
  replace C1 := Cells.ext hB6 l1 C1
  replace l1 := Nat.lt_of_lt_of_le l1 hB6.size
  replace hV := hV.trans (hB6.mono hV.size)
  have hl7 := (Rep.length _ _ Q6).trans (TBuild.width _)
  go_wp2_with (with_reducible refine stA rfl 41 _ _ rfl w6.heap.size 0 rfl d6 rfl (by rw [hl7]; exact infoL41) (Rep.one _ _ Q6) _ 41 (alloc_self _ _) (by rw [hl7]; decide) ?_)
  intro w7 hst7
  have hB7 := hst7.below ((Below.refl _ _).alloc (Nat.le_refl _) _) (Nat.le_refl _)
  have C7_ := hst7.at_
  have l7_ : w6.heap.size < w7.heap.size := by rw [hst7.size]; simp
  clear hst7
  replace R0 := R0.step hB7
  replace R1 := R1.step hB7
  replace Q6 := Q6.step hB7
  replace C0 := Cells.ext hB7 l0 C0
  replace l0 := Nat.lt_of_lt_of_le l0 hB7.size
  replace C1 := Cells.ext hB7 l1 C1
  replace l1 := Nat.lt_of_lt_of_le l1 hB7.size
  replace hV := hV.trans (hB7.mono hV.size)
  go_wp2_with (with_reducible refine ld rfl 36 _ rfl (w.heap.size + 1) _ rfl c1 C1 _ Try.underlying36 (by rw [Rep.length _ _ R1, TBuild.width]; exact infoL36) ?_)
  refine (toBuild_c x1 (by omega) _ _ (fun _ h => h) _ R1).mono ?_
  rintro e w8 ⟨d8, b8, rfl, o8, n8, r8, hB8⟩
  have Q8 := o8.live r8
  replace R0 := R0.step hB8
  replace R1 := R1.step hB8
  replace Q6 := Q6.step hB8
  replace C0 := Cells.ext hB8 l0 C0
  replace l0 := Nat.lt_of_lt_of_le l0 hB8.size
  replace C1 := Cells.ext hB8 l1 C1
  replace l1 := Nat.lt_of_lt_of_le l1 hB8.size
  replace C7_ := Cells.ext hB8 l7_ C7_
  replace l7_ := Nat.lt_of_lt_of_le l7_ hB8.size
  replace hV := hV.trans (hB8.mono hV.size)
  have hl9 := (Rep.length _ _ Q8).trans (TBuild.width _)
  go_wp2_with (with_reducible refine stA rfl 41 _ _ rfl w8.heap.size 0 rfl d8 rfl (by rw [hl9]; exact infoL41) (Rep.one _ _ Q8) _ 41 (alloc_self _ _) (by rw [hl9]; decide) ?_)
  intro w9 hst9
  have hB9 := hst9.below ((Below.refl _ _).alloc (Nat.le_refl _) _) (Nat.le_refl _)
  have C9_ := hst9.at_
  have l9_ : w8.heap.size < w9.heap.size := by rw [hst9.size]; simp
  clear hst9
  replace R0 := R0.step hB9
  replace R1 := R1.step hB9
  replace Q6 := Q6.step hB9
  replace Q8 := Q8.step hB9
  replace C0 := Cells.ext hB9 l0 C0
  replace l0 := Nat.lt_of_lt_of_le l0 hB9.size
  replace C1 := Cells.ext hB9 l1 C1
  replace l1 := Nat.lt_of_lt_of_le l1 hB9.size
  replace C7_ := Cells.ext hB9 l7_ C7_
  replace l7_ := Nat.lt_of_lt_of_le l7_ hB9.size
  replace hV := hV.trans (hB9.mono hV.size)
  go_wp2_with (first | (with_reducible refine ld rfl 41 _ rfl (w6.heap.size) _ rfl d6 C7_ _ Try.underlying41 (by rw [Rep.length _ _ Q6, TBuild.width]; exact infoL41) ?_) | (with_reducible refine ld rfl 41 _ rfl (w8.heap.size) _ rfl d8 C9_ _ Try.underlying41 (by rw [Rep.length _ _ Q8, TBuild.width]; exact infoL41) ?_))
  refine (implEqualBuild_c x0 x1 _ _ (fun _ h => h) _ _ Q6 Q8).mono ?_
  rintro e w10 ⟨rfl, hB10⟩
  replace R0 := R0.step hB10
  replace R1 := R1.step hB10
  replace Q6 := Q6.step hB10
  replace Q8 := Q8.step hB10
  replace C0 := Cells.ext hB10 l0 C0
  replace l0 := Nat.lt_of_lt_of_le l0 hB10.size
  replace C1 := Cells.ext hB10 l1 C1
  replace l1 := Nat.lt_of_lt_of_le l1 hB10.size
  replace C7_ := Cells.ext hB10 l7_ C7_
  replace l7_ := Nat.lt_of_lt_of_le l7_ hB10.size
  replace C9_ := Cells.ext hB10 l9_ C9_
  replace l9_ := Nat.lt_of_lt_of_le l9_ hB10.size
  replace hV := hV.trans (hB10.mono hV.size)
  go_wp2_with fail
  have hI10 : Below w10.heap.size w10 w10.drew := (Below.refl _ _).drew
  refine rg 5 (Below w10.heap.size w10) (by kernel_rfl) rfl ?_
  refine rg_seg (fuel := 3) [0, 1] hI10 (by kernel_rfl) rfl ?_
  simp only [pick, List.getElem?_cons_zero, List.getElem?_cons_succ]
  refine sg_fix _ rfl (fun w' hI => run_ld 41 _ rfl (w6.heap.size) _ rfl d6 (Cells.ext hI l7_ C7_) _ Try.underlying41 (by rw [Rep.length _ _ Q6, TBuild.width]; exact infoL41)) ?_
  simp only [Act.put, List.setIfInBounds_toArray, List.set_cons_zero, List.set_cons_succ]
  refine sg_fix _ rfl (fun w' hI => run_ld 36 _ rfl (w.heap.size) _ rfl c0 (Cells.ext hI l0 C0) _ Try.underlying36 (by rw [Rep.length _ _ R0, TBuild.width]; exact infoL36)) ?_
  simp only [Act.put, List.setIfInBounds_toArray, List.set_cons_zero, List.set_cons_succ]
  refine sg_nil ?_
  refine rg_one (fuel := 2) 2 (by kernel_rfl) rfl (fun Kq11 hq11 => ?_)
  simp only [pick, List.getElem?_cons_zero, List.getElem?_cons_succ]
  refine rg_call rfl _ _ (by go_simp; exact ⟨rfl, rfl⟩) ?_
  refine (toBuild_c x0 (by omega) _ _ (fun _ h => h) _ (R0.step hI10)).mono ?_
  rintro e w11 ⟨d11, b11, rfl, o11, n11, r11, hB11⟩
  have Q11 := o11.live r11
  have hI12 := hI10.trans (hB11.mono hI10.size)
  refine ⟨_, rfl, hq11 _ _ hI12 ?_⟩
  simp only [Act.put, List.setIfInBounds_toArray, List.set_cons_zero, List.set_cons_succ]
  refine rg_one (fuel := 1) 3 (by kernel_rfl) rfl (fun Kq13 hq13 => ?_)
  simp only [pick, List.getElem?_cons_zero, List.getElem?_cons_succ]
  refine rg_call rfl _ _ (by go_simp; exact ⟨rfl, rfl⟩) ?_
  refine (eqBuild_c x0 x0 _ _ (fun _ h => h) _ _ (Q6.step hI12) Q11).mono ?_
  rintro e w12 ⟨rfl, hB12⟩
  rw [deq_eq rfl]
  replace Q11 := Q11.step hB12
  have hI14 := hI12.trans (hB12.mono hI12.size)
  refine ⟨_, rfl, hq13 _ _ hI14 ?_⟩
  simp only [Act.put, List.setIfInBounds_toArray, List.set_cons_zero, List.set_cons_succ]
  refine rg_seg (fuel := 0) [4] hI14 (by kernel_rfl) rfl ?_
  simp only [pick, List.getElem?_cons_zero, List.getElem?_cons_succ]
  refine sg_fix _ rfl (fun w' hI => by go_simp; rfl) ?_; simp only [Act.put, List.setIfInBounds_toArray, List.set_cons_zero, List.set_cons_succ]
  refine sg_nil (rg_end (by kernel_rfl) ?_)
  replace R0 := R0.step hI14
  replace R1 := R1.step hI14
  replace Q6 := Q6.step hI14
  replace Q8 := Q8.step hI14
  replace C0 := Cells.ext hI14 l0 C0
  replace l0 := Nat.lt_of_lt_of_le l0 hI14.size
  replace C1 := Cells.ext hI14 l1 C1
  replace l1 := Nat.lt_of_lt_of_le l1 hI14.size
  replace C7_ := Cells.ext hI14 l7_ C7_
  replace l7_ := Nat.lt_of_lt_of_le l7_ hI14.size
  replace C9_ := Cells.ext hI14 l9_ C9_
  replace l9_ := Nat.lt_of_lt_of_le l9_ hI14.size
  replace hV := hV.trans (hI14.mono hV.size)
  go_wp2_with fail
  have hI15 : Below w12.heap.size w12 w12.drew := (Below.refl _ _).drew
  refine rg 5 (Below w12.heap.size w12) (by kernel_rfl) rfl ?_
  refine rg_seg (fuel := 3) [0, 1] hI15 (by kernel_rfl) rfl ?_
  simp only [pick, List.getElem?_cons_zero, List.getElem?_cons_succ]
  refine sg_fix _ rfl (fun w' hI => run_ld 41 _ rfl (w8.heap.size) _ rfl d8 (Cells.ext hI l9_ C9_) _ Try.underlying41 (by rw [Rep.length _ _ Q8, TBuild.width]; exact infoL41)) ?_
  simp only [Act.put, List.setIfInBounds_toArray, List.set_cons_zero, List.set_cons_succ]
  refine sg_fix _ rfl (fun w' hI => run_ld 36 _ rfl (w.heap.size + 1) _ rfl c1 (Cells.ext hI l1 C1) _ Try.underlying36 (by rw [Rep.length _ _ R1, TBuild.width]; exact infoL36)) ?_
  simp only [Act.put, List.setIfInBounds_toArray, List.set_cons_zero, List.set_cons_succ]
  refine sg_nil ?_
  refine rg_one (fuel := 2) 2 (by kernel_rfl) rfl (fun Kq16 hq16 => ?_)
  simp only [pick, List.getElem?_cons_zero, List.getElem?_cons_succ]
  refine rg_call rfl _ _ (by go_simp; exact ⟨rfl, rfl⟩) ?_
  refine (toBuild_c x1 (by omega) _ _ (fun _ h => h) _ (R1.step hI15)).mono ?_
  rintro e w13 ⟨d13, b13, rfl, o13, n13, r13, hB13⟩
  have Q13 := o13.live r13
  have hI17 := hI15.trans (hB13.mono hI15.size)
  refine ⟨_, rfl, hq16 _ _ hI17 ?_⟩
  simp only [Act.put, List.setIfInBounds_toArray, List.set_cons_zero, List.set_cons_succ]
  refine rg_one (fuel := 1) 3 (by kernel_rfl) rfl (fun Kq18 hq18 => ?_)
  simp only [pick, List.getElem?_cons_zero, List.getElem?_cons_succ]
  refine rg_call rfl _ _ (by go_simp; exact ⟨rfl, rfl⟩) ?_
  refine (eqBuild_c x1 x1 _ _ (fun _ h => h) _ _ (Q8.step hI17) Q13).mono ?_
  rintro e w14 ⟨rfl, hB14⟩
  rw [deq_eq rfl]
  replace Q13 := Q13.step hB14
  have hI19 := hI17.trans (hB14.mono hI17.size)
  refine ⟨_, rfl, hq18 _ _ hI19 ?_⟩
  simp only [Act.put, List.setIfInBounds_toArray, List.set_cons_zero, List.set_cons_succ]
  refine rg_seg (fuel := 0) [4] hI19 (by kernel_rfl) rfl ?_
  simp only [pick, List.getElem?_cons_zero, List.getElem?_cons_succ]
  refine sg_fix _ rfl (fun w' hI => by go_simp; rfl) ?_; simp only [Act.put, List.setIfInBounds_toArray, List.set_cons_zero, List.set_cons_succ]
  refine sg_nil (rg_end (by kernel_rfl) ?_)
  replace R0 := R0.step hI19
  replace R1 := R1.step hI19
  replace Q6 := Q6.step hI19
  replace Q8 := Q8.step hI19
  replace C0 := Cells.ext hI19 l0 C0
  replace l0 := Nat.lt_of_lt_of_le l0 hI19.size
  replace C1 := Cells.ext hI19 l1 C1
  replace l1 := Nat.lt_of_lt_of_le l1 hI19.size
  replace C7_ := Cells.ext hI19 l7_ C7_
  replace l7_ := Nat.lt_of_lt_of_le l7_ hI19.size
  replace C9_ := Cells.ext hI19 l9_ C9_
  replace l9_ := Nat.lt_of_lt_of_le l9_ hI19.size
  replace hV := hV.trans (hI19.mono hV.size)
  go_wp2
  go_ret
  exact ⟨rfl, hV⟩
end Go.Proofs.Ytnlmldgbhdcpbaa.fnExactEqualBuild
