/- The law FnExactFormErrors, walked: it answers true and leaves all that was there as it was. No condition. -/
import Derived.Test.YtdooklofebdknaaGreatM02
import Derived.Test.YtdooklofebdknaaGreatM06
import Derived.Test.YtdooklofebdknaaGreatM51
namespace Go.Proofs.YtdooklofebdknaaGreat.fnExactFormErrors
open Go.RowKit
theorem alloc_self (w : World) (o : Obj) : (w.alloc o).heap[w.heap.size]? = some o := by
 show (w.heap.push o)[w.heap.size]? = some o
 simp
theorem Cells.new (w : World) (cs : List Value) (t : TypeId) {b : Nat} (hb : b = w.heap.size) : Cells (w.alloc (.cells cs.toArray t)) b 0 cs := by
 subst hb
 intro j u hu
 rw [cell_of_row _ _ _ _ t (0, 0) (alloc_self w _)]
 simpa using hu
theorem repOf {w : World} {d : D} {cs : List Value} {bs : List Nat} (h : Own w d cs bs) : Rep w (Live w) d cs := Own.rep _ _ _ h (fun b hb => Own.lt _ _ _ h b hb)
theorem below_kept {w cur w' : World} {bs : List Nat} (h : Below w.heap.size w cur) (k : Kept cur w' bs) (hb : ∀ b ∈ bs, w.heap.size ≤ b) : Below w.heap.size w w' :=
 ⟨k.os.trans h.os, k.tape.trans h.tape, k.output.trans h.output, Nat.le_trans h.size k.size, fun b hl => (k.other b (Nat.lt_of_lt_of_le hl h.size) (fun q => by have := hb b q; omega)).trans (h.block b hl)⟩
theorem infoL24 : (Tryz.prog.info? 24).map (·.size) = some 1 := by kernel_rfl
theorem infoL30 : (Tryz.prog.info? 30).map (·.size) = some 1 := by kernel_rfl
set_option maxRecDepth 100000 in
set_option maxHeartbeats 4000000 in
theorem law_c (x0 : TProgram) : ∀ (w : World) (c0 : List Value) (_ : Rep w (Live w) x0.enc c0),
  Calls Tryz.prog 3 #[.agg c0.toArray] w fun e w' => e = .returned (.bool true) ∧ Below w.heap.size w w' := by
 intro w c0 h0
 have hV : Below w.heap.size w (w.alloc (.cells c0.toArray 24)) := ((Below.refl _ _).alloc (Nat.le_refl _) _)
 have C0 : Cells (w.alloc (.cells c0.toArray 24)) (w.heap.size) 0 c0 := Cells.new _ _ _ (by simp)
 have l0 : w.heap.size < (w.alloc (.cells c0.toArray 24)).heap.size := by simp <;> omega
 have hlb1 := Lib.hid (show (Tryz.prog.info? 24).map (·.size) = some (c0).length from (by rw [Rep.length _ _ (h0.step hV), TProgram.width]; exact infoL24))
 go_enter Tryz.func3, Tryz.ntmps3
 go_wp2_with (with_reducible refine ld rfl 24 _ rfl (w.heap.size) _ rfl c0 C0 _ Tryz.underlying24 hlb1.out ?_)
 refine (szProgram_c x0 _ _ (fun _ h => h) _ (h0.step hV) (1048576) (by omega) (by omega)).mono ?_
 rintro e w1 ⟨rfl, hB1⟩
 have z1 : w.heap.size + 1 ≤ w1.heap.size := by have := hB1.size; (try simp at this); omega
 replace C0 := Cells.ext hB1 l0 C0
 replace l0 := Nat.lt_of_lt_of_le l0 hB1.size
 replace hV := hV.trans (hB1.mono hV.size)
 rcases (show 1048576 < ((x0.sz : Nat) : Int) ∨ ((x0.sz : Nat) : Int) ≤ 1048576 by omega) with zz2 | zz2
 ·rw [szr_gt (by omega)]
  go_wp2
  go_ret
  exact ⟨rfl, hV⟩
 rw [szr_le zz2]
 go_wp2_with (with_reducible refine ld rfl 24 _ rfl (w.heap.size) _ rfl c0 C0 _ Tryz.underlying24 hlb1.out ?_)
 refine (toProgram_c x0 (by omega) _ _ (fun _ h => h) _ (h0.step hV)).mono ?_
 rintro e w2 ⟨d2, b2, rfl, o2, n2, r2, hB2⟩
 have z2 : w1.heap.size ≤ w2.heap.size := by have := hB2.size; (try simp at this); omega
 replace r2 : ∀ x ∈ b2, w1.heap.size ≤ x ∧ x < w2.heap.size := by intro x hx; have := r2 x hx; (try simp at this); omega
 have O2 := Lib.hid o2; clear o2
 replace C0 := Cells.ext hB2 l0 C0
 replace l0 := Nat.lt_of_lt_of_le l0 hB2.size
 replace hV := hV.trans (hB2.mono hV.size)
 go_wp2_with fail
 refine (specFormErrors_c x0 (by omega) _ _ (fun _ h => h) _ (repOf O2.out)).mono ?_
 rintro e w3 ⟨a3, p3, b3, rfl, o3, n3, r3, hB3⟩
 have z3 : w2.heap.size ≤ w3.heap.size := by have := hB3.size; (try simp at this); omega
 replace r3 : ∀ x ∈ b3, w2.heap.size ≤ x ∧ x < w3.heap.size := by intro x hx; have := r3 x hx; (try simp at this); omega
 have O3 := Lib.hid o3; clear o3
 replace O2 := Lib.hid (O2.out.below hB3)
 replace C0 := Cells.ext hB3 l0 C0
 replace l0 := Nat.lt_of_lt_of_le l0 hB3.size
 replace hV := hV.trans (hB3.mono hV.size)
 clear O2 n2 r2
 go_wp2_with (with_reducible refine ld rfl 24 _ rfl (w.heap.size) _ rfl c0 C0 _ Tryz.underlying24 hlb1.out ?_)
 refine (toProgram_c x0 (by omega) _ _ (fun _ h => h) _ (h0.step hV)).mono ?_
 rintro e w4 ⟨d4, b4, rfl, o4, n4, r4, hB4⟩
 have z4 : w3.heap.size ≤ w4.heap.size := by have := hB4.size; (try simp at this); omega
 replace r4 : ∀ x ∈ b4, w3.heap.size ≤ x ∧ x < w4.heap.size := by intro x hx; have := r4 x hx; (try simp at this); omega
 have O4 := Lib.hid o4; clear o4
 replace O3 := Lib.hid (O3.out.below hB4)
 replace C0 := Cells.ext hB4 l0 C0
 replace l0 := Nat.lt_of_lt_of_le l0 hB4.size
 replace hV := hV.trans (hB4.mono hV.size)
 have hl5 := Lib.hid ((Rep.length _ _ (repOf O4.out)).trans (TProgram.width _))
 have hn5 := Lib.hid (Rep.one _ _ (repOf O4.out))
 go_wp2_with (with_reducible refine stA rfl 30 _ _ rfl w4.heap.size 0 rfl d4 rfl (by rw [hl5.out]; exact infoL30) hn5.out _ 30 (alloc_self _ _) (by rw [hl5.out]; decide) ?_)
 intro w5 hst5
 have hB5 := hst5.below ((Below.refl _ _).alloc (Nat.le_refl _) _) (Nat.le_refl _)
 have C5_ := hst5.at_
 have l5_ : w4.heap.size < w5.heap.size := by rw [hst5.size]; simp
 have m5_ : w4.heap.size < w5.heap.size := l5_
 clear hst5 hn5
 replace O3 := Lib.hid (O3.out.below hB5)
 replace O4 := Lib.hid (O4.out.below hB5)
 replace C0 := Cells.ext hB5 l0 C0
 replace l0 := Nat.lt_of_lt_of_le l0 hB5.size
 replace hV := hV.trans (hB5.mono hV.size)
 have hlb3 := Lib.hid (show (Tryz.prog.info? 30).map (·.size) = some (d4).length from (by rw [Rep.length _ _ (repOf O4.out), TProgram.width]; exact infoL30))
 go_wp2_with (with_reducible refine ld rfl 30 _ rfl (w4.heap.size) _ rfl d4 C5_ _ Tryz.underlying30 hlb3.out ?_)
 refine (implFormErrors_c x0 (by omega) _ _ (fun _ h => h) _ (repOf O4.out)).mono ?_
 rintro e w6 ⟨a6, p6, b6, rfl, o6, n6, r6, hB6⟩
 have z6 : w5.heap.size ≤ w6.heap.size := by have := hB6.size; (try simp at this); omega
 replace r6 : ∀ x ∈ b6, w5.heap.size ≤ x ∧ x < w6.heap.size := by intro x hx; have := r6 x hx; (try simp at this); omega
 have O6 := Lib.hid o6; clear o6
 replace O3 := Lib.hid (O3.out.below hB6)
 replace O4 := Lib.hid (O4.out.below hB6)
 replace C0 := Cells.ext hB6 l0 C0
 replace l0 := Nat.lt_of_lt_of_le l0 hB6.size
 replace C5_ := Cells.ext hB6 l5_ C5_
 replace l5_ := Nat.lt_of_lt_of_le l5_ hB6.size
 replace hV := hV.trans (hB6.mono hV.size)
 go_wp2_with fail
 refine (eqFormErrorS_c (feE x0) _ _ (fun _ h => h) _ _ (repOf O6.out) (repOf O3.out)).mono ?_
 rintro e w7 ⟨rfl, hB7⟩
 have z7 : w6.heap.size ≤ w7.heap.size := by have := hB7.size; (try simp at this); omega
 replace O3 := Lib.hid (O3.out.below hB7)
 replace O4 := Lib.hid (O4.out.below hB7)
 replace O6 := Lib.hid (O6.out.below hB7)
 replace C0 := Cells.ext hB7 l0 C0
 replace l0 := Nat.lt_of_lt_of_le l0 hB7.size
 replace C5_ := Cells.ext hB7 l5_ C5_
 replace l5_ := Nat.lt_of_lt_of_le l5_ hB7.size
 replace hV := hV.trans (hB7.mono hV.size)
 go_wp2_with fail
 have hI4 : Below w7.heap.size w7 w7.drew := (Below.refl _ _).drew
 refine rg 5 (Below w7.heap.size w7) (by kernel_rfl) rfl ?_
 refine rg_seg (fuel := 3) [0, 1] hI4 (by kernel_rfl) rfl ?_
 simp only [pick, List.getElem?_cons_zero, List.getElem?_cons_succ]
 refine sg_fix _ rfl (fun w' hI => run_ld 30 _ rfl (w4.heap.size) _ rfl d4 (Cells.ext hI l5_ C5_) _ Tryz.underlying30 hlb3.out) ?_
 simp only [Act.put, List.setIfInBounds_toArray, List.set_cons_zero, List.set_cons_succ]
 refine sg_fix _ rfl (fun w' hI => run_ld 24 _ rfl (w.heap.size) _ rfl c0 (Cells.ext hI l0 C0) _ Tryz.underlying24 hlb1.out) ?_
 simp only [Act.put, List.setIfInBounds_toArray, List.set_cons_zero, List.set_cons_succ]
 refine sg_nil ?_
 refine rg_one (fuel := 2) 2 (by kernel_rfl) rfl (fun Kq5 hq5 => ?_)
 simp only [pick, List.getElem?_cons_zero, List.getElem?_cons_succ]
 refine rg_call rfl _ _ (by go_simp; exact ⟨rfl, rfl⟩) ?_
 refine (toProgram_c x0 (by omega) _ _ (fun _ h => h) _ (h0.step (hV.trans (hI4.mono hV.size)))).mono ?_
 rintro e w8 ⟨d8, b8, rfl, o8, n8, r8, hB8⟩
 have z8 : w7.heap.size ≤ w8.heap.size := by have := hB8.size; (try simp at this); omega
 replace r8 : ∀ x ∈ b8, w7.heap.size ≤ x ∧ x < w8.heap.size := by intro x hx; have := r8 x hx; (try simp at this); omega
 have O8 := Lib.hid o8; clear o8
 have hI6 := hI4.trans (hB8.mono hI4.size)
 refine ⟨_, rfl, hq5 _ _ hI6 ?_⟩
 simp only [Act.put, List.setIfInBounds_toArray, List.set_cons_zero, List.set_cons_succ]
 refine rg_one (fuel := 1) 3 (by kernel_rfl) rfl (fun Kq7 hq7 => ?_)
 simp only [pick, List.getElem?_cons_zero, List.getElem?_cons_succ]
 refine rg_call rfl _ _ (by go_simp; exact ⟨rfl, rfl⟩) ?_
 refine (eqProgram_c x0 (by omega) _ _ (fun _ h => h) _ _ (repOf (O4.out.below hI6)) (repOf O8.out)).mono ?_
 rintro e w9 ⟨rfl, hB9⟩
 have z9 : w8.heap.size ≤ w9.heap.size := by have := hB9.size; (try simp at this); omega
 replace O8 := Lib.hid (O8.out.below hB9)
 have hI8 := hI6.trans (hB9.mono hI6.size)
 refine ⟨_, rfl, hq7 _ _ hI8 ?_⟩
 simp only [Act.put, List.setIfInBounds_toArray, List.set_cons_zero, List.set_cons_succ]
 refine rg_seg (fuel := 0) [4] hI8 (by kernel_rfl) rfl ?_
 simp only [pick, List.getElem?_cons_zero, List.getElem?_cons_succ]
 refine sg_fix _ rfl (fun w' hI => by go_simp; rfl) ?_; simp only [Act.put, List.setIfInBounds_toArray, List.set_cons_zero, List.set_cons_succ]
 refine sg_nil (rg_end (by kernel_rfl) ?_)
 replace O3 := Lib.hid (O3.out.below hI8)
 replace O4 := Lib.hid (O4.out.below hI8)
 replace O6 := Lib.hid (O6.out.below hI8)
 replace C0 := Cells.ext hI8 l0 C0
 replace l0 := Nat.lt_of_lt_of_le l0 hI8.size
 replace C5_ := Cells.ext hI8 l5_ C5_
 replace l5_ := Nat.lt_of_lt_of_le l5_ hI8.size
 replace hV := hV.trans (hI8.mono hV.size)
 clear O8 n8 r8
 go_wp2_with (with_reducible refine ld rfl 30 _ rfl (w4.heap.size) _ rfl d4 C5_ _ Tryz.underlying30 hlb3.out ?_)
 have bd10 := TProgram.cnt_le x0; rw [TProgram.cnt_flat] at bd10
 refine (markProgram_k x0 _ _ _ _ O4.out (by omega) (by omega)).mono ?_
 rintro e w10 ⟨rfl, hk10⟩
 have z10 : w9.heap.size ≤ w10.heap.size := hk10.size
 replace C0 := Cells.mono (hk10.other _ l0 (fun q => by have := r4 _ q; omega)) C0
 replace l0 := Nat.lt_of_lt_of_le l0 hk10.size
 replace C5_ := Cells.mono (hk10.other _ l5_ (fun q => by have := r4 _ q; omega)) C5_
 replace l5_ := Nat.lt_of_lt_of_le l5_ hk10.size
 replace O3 := Lib.hid (O3.out.kept hk10 (fun x hx q => by have := r3 x hx; have := r4 x q; omega))
 replace O6 := Lib.hid (O6.out.kept hk10 (fun x hx q => by have := r6 x hx; have := r4 x q; omega))
 replace hV := below_kept hV hk10 (fun x hx => by have := r4 x hx; omega)
 clear O4 n4
 have hq9 : ¬ (((1 + (cnts (x0.fPackages.map TPackage.enc) : Nat)) : Int) < 0) := by omega
 go_wp2_with fail
 refine (eqFormErrorS_c (feE x0) _ _ (fun _ h => h) _ _ (repOf O6.out) (repOf O3.out)).mono ?_
 rintro e w11 ⟨rfl, hB11⟩
 have z11 : w10.heap.size ≤ w11.heap.size := by have := hB11.size; (try simp at this); omega
 replace O3 := Lib.hid (O3.out.below hB11)
 replace O6 := Lib.hid (O6.out.below hB11)
 replace C0 := Cells.ext hB11 l0 C0
 replace l0 := Nat.lt_of_lt_of_le l0 hB11.size
 replace C5_ := Cells.ext hB11 l5_ C5_
 replace l5_ := Nat.lt_of_lt_of_le l5_ hB11.size
 replace hV := hV.trans (hB11.mono hV.size)
 go_wp2_with fail
 have bd12 := feE_cnt x0
 refine (markFormErrorS_c (feE x0) _ _ _ _ O6.out n6 (by omega) (by omega)).mono ?_
 rintro e w12 ⟨rfl, o6, hk12⟩
 have z12 : w11.heap.size ≤ w12.heap.size := hk12.size
 replace C0 := Cells.mono (hk12.other _ l0 (fun q => by have := r6 _ q; omega)) C0
 replace l0 := Nat.lt_of_lt_of_le l0 hk12.size
 replace C5_ := Cells.mono (hk12.other _ l5_ (fun q => by have := r6 _ q; omega)) C5_
 replace l5_ := Nat.lt_of_lt_of_le l5_ hk12.size
 replace O3 := Lib.hid (O3.out.kept hk12 (fun x hx q => by have := r3 x hx; have := r6 x q; omega))
 replace hV := below_kept hV hk12 (fun x hx => by have := r6 x hx; omega)
 replace O6 := Lib.hid o6; clear o6
 go_wp2_with fail
 have bd13 := feE_cnt x0
 refine (heldFormErrorS_c (feE x0) _ _ (fun _ h => h) _ _ (repOf O6.out) (by omega) (by omega)).mono ?_
 rintro e w13 ⟨rfl, hB13⟩
 have z13 : w12.heap.size ≤ w13.heap.size := by have := hB13.size; (try simp at this); omega
 replace O3 := Lib.hid (O3.out.below hB13)
 replace O6 := Lib.hid (O6.out.below hB13)
 replace C0 := Cells.ext hB13 l0 C0
 replace l0 := Nat.lt_of_lt_of_le l0 hB13.size
 replace C5_ := Cells.ext hB13 l5_ C5_
 replace l5_ := Nat.lt_of_lt_of_le l5_ hB13.size
 replace hV := hV.trans (hB13.mono hV.size)
 have hq10 : ¬ (((1 + (cnts ((feE x0).map TFormError.enc) : Nat)) : Int) < 0) := by omega
 go_wp2_with (with_reducible refine ld rfl 24 _ rfl (w.heap.size) _ rfl c0 C0 _ Tryz.underlying24 hlb1.out ?_)
 refine (toProgram_c x0 (by omega) _ _ (fun _ h => h) _ (h0.step hV)).mono ?_
 rintro e w14 ⟨d14, b14, rfl, o14, n14, r14, hB14⟩
 have z14 : w13.heap.size ≤ w14.heap.size := by have := hB14.size; (try simp at this); omega
 replace r14 : ∀ x ∈ b14, w13.heap.size ≤ x ∧ x < w14.heap.size := by intro x hx; have := r14 x hx; (try simp at this); omega
 have O14 := Lib.hid o14; clear o14
 replace O3 := Lib.hid (O3.out.below hB14)
 replace O6 := Lib.hid (O6.out.below hB14)
 replace C0 := Cells.ext hB14 l0 C0
 replace l0 := Nat.lt_of_lt_of_le l0 hB14.size
 replace C5_ := Cells.ext hB14 l5_ C5_
 replace l5_ := Nat.lt_of_lt_of_le l5_ hB14.size
 replace hV := hV.trans (hB14.mono hV.size)
 go_wp2_with fail
 refine (implFormErrors_c x0 (by omega) _ _ (fun _ h => h) _ (repOf O14.out)).mono ?_
 rintro e w15 ⟨a15, p15, b15, rfl, o15, n15, r15, hB15⟩
 have z15 : w14.heap.size ≤ w15.heap.size := by have := hB15.size; (try simp at this); omega
 replace r15 : ∀ x ∈ b15, w14.heap.size ≤ x ∧ x < w15.heap.size := by intro x hx; have := r15 x hx; (try simp at this); omega
 have O15 := Lib.hid o15; clear o15
 replace O3 := Lib.hid (O3.out.below hB15)
 replace O6 := Lib.hid (O6.out.below hB15)
 replace O14 := Lib.hid (O14.out.below hB15)
 replace C0 := Cells.ext hB15 l0 C0
 replace l0 := Nat.lt_of_lt_of_le l0 hB15.size
 replace C5_ := Cells.ext hB15 l5_ C5_
 replace l5_ := Nat.lt_of_lt_of_le l5_ hB15.size
 replace hV := hV.trans (hB15.mono hV.size)
 clear O14 n14 r14
 go_wp2_with fail
 refine (eqFormErrorS_c (feE x0) _ _ (fun _ h => h) _ _ (repOf O15.out) (repOf O3.out)).mono ?_
 rintro e w16 ⟨rfl, hB16⟩
 have z16 : w15.heap.size ≤ w16.heap.size := by have := hB16.size; (try simp at this); omega
 replace O3 := Lib.hid (O3.out.below hB16)
 replace O6 := Lib.hid (O6.out.below hB16)
 replace O15 := Lib.hid (O15.out.below hB16)
 replace C0 := Cells.ext hB16 l0 C0
 replace l0 := Nat.lt_of_lt_of_le l0 hB16.size
 replace C5_ := Cells.ext hB16 l5_ C5_
 replace l5_ := Nat.lt_of_lt_of_le l5_ hB16.size
 replace hV := hV.trans (hB16.mono hV.size)
 go_wp2_with fail
 have bd17 := feE_cnt x0
 refine (heldFormErrorS_c (feE x0) _ _ (fun _ h => h) _ _ (repOf O6.out) (by omega) (by omega)).mono ?_
 rintro e w17 ⟨rfl, hB17⟩
 have z17 : w16.heap.size ≤ w17.heap.size := by have := hB17.size; (try simp at this); omega
 replace O3 := Lib.hid (O3.out.below hB17)
 replace O6 := Lib.hid (O6.out.below hB17)
 replace O15 := Lib.hid (O15.out.below hB17)
 replace C0 := Cells.ext hB17 l0 C0
 replace l0 := Nat.lt_of_lt_of_le l0 hB17.size
 replace C5_ := Cells.ext hB17 l5_ C5_
 replace l5_ := Nat.lt_of_lt_of_le l5_ hB17.size
 replace hV := hV.trans (hB17.mono hV.size)
 have hq11 : ¬ (((1 + (cnts ((feE x0).map TFormError.enc) : Nat)) : Int) < 0) := by omega
 go_wp2
 go_ret
 exact ⟨rfl, hV⟩
end Go.Proofs.YtdooklofebdknaaGreat.fnExactFormErrors
