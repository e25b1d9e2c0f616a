/- The law FnExactTableEntry, walked: it answers true and leaves all that was there as it was. No condition. -/
import Derived.Test.YtonohebdkeakdaaOpen
import Derived.Test.YtonohebdkeakdaaTableEntry
namespace Go.Proofs.Ytonohebdkeakdaa.fnExactTableEntry
open Go.RowKit
theorem alloc_self (w : World) (o : Obj) : (w.alloc o).heap[w.heap.size]? = some o := by
  show (w.heap.push o)[w.heap.size]? = some o
  simp
theorem Cells.new (w : World) (cs : List Value) (t : TypeId) {b : Nat} (hb : b = w.heap.size) : Cells (w.alloc (.cells cs.toArray t)) b 0 cs := by
  subst hb
  intro j u hu
  rw [cell_of_row _ _ _ _ t (0, 0) (alloc_self w _)]
  simpa using hu
theorem infoL47 : (Try.prog.info? 47).map (·.size) = some 2 := by kernel_rfl
theorem infoL53 : (Try.prog.info? 53).map (·.size) = some 2 := by kernel_rfl
set_option maxRecDepth 100000 in
set_option maxHeartbeats 1000000 in
theorem law_c (x0 : TMonoProgram) (n1 : Int) (s2 : ByteArray) (s3 : ByteArray) : ∀ (w : World) (c0 : List Value) (_ : Rep w (Live w) x0.enc c0) (_ : InR n1) (_ : s2.size ≤ maxLen) (_ : s3.size ≤ maxLen),
    Calls Try.prog 5 #[.agg c0.toArray, .int .i64 n1, .string s2, .string s3] w fun e w' => e = .returned (.bool true) ∧ Below w.heap.size w w' := by
  intro w c0 h0 i1 i2 i3
  have hV : Below w.heap.size w (w.alloc (.cells c0.toArray 47)) := ((Below.refl _ _).alloc (Nat.le_refl _) _)
  have hE : ∃ w0, w0 = (w.alloc (.cells c0.toArray 47)) := ⟨_, rfl⟩
  have R0 := h0.step hV
  have C0 : Cells (w.alloc (.cells c0.toArray 47)) (w.heap.size) 0 c0 := Cells.new _ _ _ (by simp)
  have l0 : w.heap.size < (w.alloc (.cells c0.toArray 47)).heap.size := by simp <;> omega
  clear hE
  go_enter Try.func5, Try.ntmps5
  rcases Nat.lt_or_ge 1048576 s2.size with z1 | z1
  · go_wp2
    go_ret
    exact ⟨rfl, hV⟩
  rcases Nat.lt_or_ge 1048576 s3.size with z2 | z2
  · go_wp2
    go_ret
    exact ⟨rfl, hV⟩
  go_wp2_with (with_reducible refine ld rfl 47 _ rfl (w.heap.size) _ rfl c0 C0 _ Try.underlying47 (by rw [Rep.length _ _ R0, TMonoProgram.width]; exact infoL47) ?_)
  refine (szMonoProgram_c x0 _ _ (fun _ h => h) _ R0 (1048576) (by omega) (by omega)).mono ?_
  rintro e w1 ⟨rfl, hB1⟩
  replace R0 := R0.step hB1
  replace C0 := Cells.ext hB1 l0 C0
  replace l0 := Nat.lt_of_lt_of_le l0 hB1.size
  replace hV := hV.trans (hB1.mono hV.size)
  rcases (show 1048576 < ((x0.sz : Nat) : Int) ∨ ((x0.sz : Nat) : Int) ≤ 1048576 by omega) with z3 | z3
  · rw [szr_gt (by omega)]
    go_wp2
    go_ret
    exact ⟨rfl, hV⟩
  rw [szr_le z3]
  go_wp2_with (with_reducible refine ld rfl 47 _ rfl (w.heap.size) _ rfl c0 C0 _ Try.underlying47 (by rw [Rep.length _ _ R0, TMonoProgram.width]; exact infoL47) ?_)
  refine (toMonoProgram_c x0 (by omega) _ _ (fun _ h => h) _ R0).mono ?_
  rintro e w2 ⟨d2, b2, rfl, o2, n2, r2, hB2⟩
  have Q2 := o2.live r2
  replace R0 := R0.step hB2
  replace C0 := Cells.ext hB2 l0 C0
  replace l0 := Nat.lt_of_lt_of_le l0 hB2.size
  replace hV := hV.trans (hB2.mono hV.size)
  go_wp2_with fail
  refine (specTableEntry_c x0 n1 s2 s3 _ _ (fun _ h => h) _ Q2 i1).mono ?_
  rintro e w3 ⟨rfl, hB3⟩
  replace R0 := R0.step hB3
  replace Q2 := Q2.step hB3
  replace C0 := Cells.ext hB3 l0 C0
  replace l0 := Nat.lt_of_lt_of_le l0 hB3.size
  replace hV := hV.trans (hB3.mono hV.size)
  clear Q2
  go_wp2_with (with_reducible refine ld rfl 47 _ rfl (w.heap.size) _ rfl c0 C0 _ Try.underlying47 (by rw [Rep.length _ _ R0, TMonoProgram.width]; exact infoL47) ?_)
  refine (toMonoProgram_c x0 (by omega) _ _ (fun _ h => h) _ R0).mono ?_
  rintro e w4 ⟨d4, b4, rfl, o4, n4, r4, hB4⟩
  have Q4 := o4.live r4
  replace R0 := R0.step hB4
  replace C0 := Cells.ext hB4 l0 C0
  replace l0 := Nat.lt_of_lt_of_le l0 hB4.size
  replace hV := hV.trans (hB4.mono hV.size)
  have hl5 := (Rep.length _ _ Q4).trans (TMonoProgram.width _)
  go_wp2_with (with_reducible refine stA rfl 53 _ _ rfl w4.heap.size 0 rfl d4 rfl (by rw [hl5]; exact infoL53) (Rep.one _ _ Q4) _ 53 (alloc_self _ _) (by rw [hl5]; decide) ?_)
  intro w5 hst5
  have hB5 := hst5.below ((Below.refl _ _).alloc (Nat.le_refl _) _) (Nat.le_refl _)
  have C5_ := hst5.at_
  have l5_ : w4.heap.size < w5.heap.size := by rw [hst5.size]; simp
  clear hst5
  replace R0 := R0.step hB5
  replace Q4 := Q4.step hB5
  replace C0 := Cells.ext hB5 l0 C0
  replace l0 := Nat.lt_of_lt_of_le l0 hB5.size
  replace hV := hV.trans (hB5.mono hV.size)
  go_wp2_with (with_reducible refine ld rfl 53 _ rfl (w4.heap.size) _ rfl d4 C5_ _ Try.underlying53 (by rw [Rep.length _ _ Q4, TMonoProgram.width]; exact infoL53) ?_)
  refine (implTableEntry_c x0 n1 s2 s3 _ _ (fun _ h => h) _ Q4 i1).mono ?_
  rintro e w6 ⟨rfl, hB6⟩
  replace R0 := R0.step hB6
  replace Q4 := Q4.step hB6
  replace C0 := Cells.ext hB6 l0 C0
  replace l0 := Nat.lt_of_lt_of_le l0 hB6.size
  replace C5_ := Cells.ext hB6 l5_ C5_
  replace l5_ := Nat.lt_of_lt_of_le l5_ hB6.size
  replace hV := hV.trans (hB6.mono hV.size)
  go_wp2_with fail
  have hI4 : Below w6.heap.size w6 w6.drew := (Below.refl _ _).drew
  refine rg 5 (Below w6.heap.size w6) (by kernel_rfl) rfl ?_
  refine rg_seg (fuel := 3) [0, 1] hI4 (by kernel_rfl) rfl ?_
  simp only [pick, List.getElem?_cons_zero, List.getElem?_cons_succ]
  refine sg_fix _ rfl (fun w' hI => run_ld 53 _ rfl (w4.heap.size) _ rfl d4 (Cells.ext hI l5_ C5_) _ Try.underlying53 (by rw [Rep.length _ _ Q4, TMonoProgram.width]; exact infoL53)) ?_
  simp only [Act.put, List.setIfInBounds_toArray, List.set_cons_zero, List.set_cons_succ]
  refine sg_fix _ rfl (fun w' hI => run_ld 47 _ rfl (w.heap.size) _ rfl c0 (Cells.ext hI l0 C0) _ Try.underlying47 (by rw [Rep.length _ _ R0, TMonoProgram.width]; exact infoL47)) ?_
  simp only [Act.put, List.setIfInBounds_toArray, List.set_cons_zero, List.set_cons_succ]
  refine sg_nil ?_
  refine rg_one (fuel := 2) 2 (by kernel_rfl) rfl (fun Kq5 hq5 => ?_)
  simp only [pick, List.getElem?_cons_zero, List.getElem?_cons_succ]
  refine rg_call rfl _ _ (by go_simp; exact ⟨rfl, rfl⟩) ?_
  refine (toMonoProgram_c x0 (by omega) _ _ (fun _ h => h) _ (R0.step hI4)).mono ?_
  rintro e w7 ⟨d7, b7, rfl, o7, n7, r7, hB7⟩
  have Q7 := o7.live r7
  have hI6 := hI4.trans (hB7.mono hI4.size)
  refine ⟨_, rfl, hq5 _ _ hI6 ?_⟩
  simp only [Act.put, List.setIfInBounds_toArray, List.set_cons_zero, List.set_cons_succ]
  refine rg_one (fuel := 1) 3 (by kernel_rfl) rfl (fun Kq7 hq7 => ?_)
  simp only [pick, List.getElem?_cons_zero, List.getElem?_cons_succ]
  refine rg_call rfl _ _ (by go_simp; exact ⟨rfl, rfl⟩) ?_
  refine (eqMonoProgram_c x0 x0 _ _ (fun _ h => h) _ _ (Q4.step hI6) Q7).mono ?_
  rintro e w8 ⟨rfl, hB8⟩
  rw [deq_eq rfl]
  replace Q7 := Q7.step hB8
  have hI8 := hI6.trans (hB8.mono hI6.size)
  refine ⟨_, rfl, hq7 _ _ hI8 ?_⟩
  simp only [Act.put, List.setIfInBounds_toArray, List.set_cons_zero, List.set_cons_succ]
  refine rg_seg (fuel := 0) [4] hI8 (by kernel_rfl) rfl ?_
  simp only [pick, List.getElem?_cons_zero, List.getElem?_cons_succ]
  refine sg_fix _ rfl (fun w' hI => by go_simp; rfl) ?_; simp only [Act.put, List.setIfInBounds_toArray, List.set_cons_zero, List.set_cons_succ]
  refine sg_nil (rg_end (by kernel_rfl) ?_)
  replace R0 := R0.step hI8
  replace Q4 := Q4.step hI8
  replace C0 := Cells.ext hI8 l0 C0
  replace l0 := Nat.lt_of_lt_of_le l0 hI8.size
  replace C5_ := Cells.ext hI8 l5_ C5_
  replace l5_ := Nat.lt_of_lt_of_le l5_ hI8.size
  replace hV := hV.trans (hI8.mono hV.size)
  go_wp2
  go_ret
  exact ⟨rfl, hV⟩
end Go.Proofs.Ytonohebdkeakdaa.fnExactTableEntry
