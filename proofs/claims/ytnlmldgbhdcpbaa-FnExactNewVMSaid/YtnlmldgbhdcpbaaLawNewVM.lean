/- The law FnExactNewVM, walked: it answers true and leaves all that was there as it was. No condition. -/
import Derived.Test.YtnlmldgbhdcpbaaOpen
import Derived.Test.YtnlmldgbhdcpbaaSz
import Derived.Test.YtnlmldgbhdcpbaaTo
import Derived.Test.YtnlmldgbhdcpbaaEq
import Derived.Test.YtnlmldgbhdcpbaaMarks
import Derived.Test.YtnlmldgbhdcpbaaHelds
import Derived.Test.YtnlmldgbhdcpbaaMkBound
import Derived.Test.YtnlmldgbhdcpbaaNewVM
namespace Go.Proofs.Ytnlmldgbhdcpbaa.fnExactNewVM
open Go.RowKit
theorem alloc_self (w : World) (o : Obj) : (w.alloc o).heap[w.heap.size]? = some o := by
  show (w.heap.push o)[w.heap.size]? = some o
  simp
theorem Cells.new (w : World) (cs : List Value) (t : TypeId) {b : Nat} (hb : b = w.heap.size) : Cells (w.alloc (.cells cs.toArray t)) b 0 cs := by
  subst hb
  intro j u hu
  rw [cell_of_row _ _ _ _ t (0, 0) (alloc_self w _)]
  simpa using hu
theorem repOf {w : World} {d : D} {cs : List Value} {bs : List Nat} (h : Own w d cs bs) : Rep w (Live w) d cs := Own.rep _ _ _ h (fun b hb => Own.lt _ _ _ h b hb)
theorem below_kept {w cur w' : World} {bs : List Nat} (h : Below w.heap.size w cur) (k : Kept cur w' bs) (hb : ∀ b ∈ bs, w.heap.size ≤ b) : Below w.heap.size w w' :=
  ⟨k.os.trans h.os, k.tape.trans h.tape, k.output.trans h.output, Nat.le_trans h.size k.size, fun b hl => (k.other b (Nat.lt_of_lt_of_le hl h.size) (fun q => by have := hb b q; omega)).trans (h.block b hl)⟩
/-- a struct is loaded by an operation that has a guard, which holds -/
theorem ldg {P : Program} {w : World} {ops : Array Oper} {rest : List Oper} {o : Oper} {a : Act} {Q : Exit → Act → World → Prop} (hw : Region.wanted o (yielded ops a.tmps) = true) (ty : TypeId) (x : Operand) (ho : o.op = .load ty x)
    (b off : Nat) (hx : a.eval x = .pointer (some ⟨b, off, none⟩)) (cs : List Value) (hc : Cells w b off cs) (fs : Array Field) (hu : P.underlying ty = some (.struct fs)) (hi : (P.info? ty).map (·.size) = some cs.length)
    (h : wpList P ops Q rest (a.put o.dst (.agg cs.toArray)) w) : wpList P ops Q (o :: rest) a w := by
  have hv := run_loadVar (P := P) ty b off cs hc fs hu hi
  unfold wpList
  rw [if_pos hw]
  left
  unfold Oper.wp execOp
  simp only [ho, hx, Instr.loadAt, Instr.sureAddr, Sem.run_bind, Sem.run_pure, Result.andThen_ok, hv]
  exact h
theorem infoL47 : (Try.prog.info? 47).map (·.size) = some 2 := by kernel_rfl
theorem infoL31 : (Try.prog.info? 31).map (·.size) = some 5 := by kernel_rfl
theorem infoL54 : (Try.prog.info? 54).map (·.size) = some 2 := by kernel_rfl
set_option maxRecDepth 100000 in
set_option maxHeartbeats 4000000 in
theorem law_c (x0 : TMachine) (n1 : Int) (l2 : List TValue) : ∀ (w : World) (c0 : List Value) (_ : Rep w (Live w) x0.enc c0) (_ : InR n1) (v2 : Value) (_ : Rep w (Live w) (.sl (l2.map TValue.enc)) [v2]),
    Calls Try.prog 5 #[.agg c0.toArray, .int .i64 n1, v2] w fun e w' => e = .returned (.bool true) ∧ Below w.heap.size w w' := by
  intro w c0 h0 i1 v2 h2
  have hV : Below w.heap.size w (w.alloc (.cells c0.toArray 47)) := ((Below.refl _ _).alloc (Nat.le_refl _) _)
  have C0 : Cells (w.alloc (.cells c0.toArray 47)) (w.heap.size) 0 c0 := Cells.new _ _ _ (by simp)
  have l0 : w.heap.size < (w.alloc (.cells c0.toArray 47)).heap.size := by simp <;> omega
  have hlb1 := Lib.hid (show (Try.prog.info? 47).map (·.size) = some (c0).length from (by rw [Rep.length _ _ (h0.step hV), TMachine.width]; exact infoL47))
  go_enter Try.func5, Try.ntmps5
  go_wp2_with (with_reducible refine ld rfl 47 _ rfl (w.heap.size) _ rfl c0 C0 _ Try.underlying47 hlb1.out ?_)
  refine (szMachine_c x0 _ _ (fun _ h => h) _ (h0.step hV) (1048576) (by omega) (by omega)).mono ?_
  rintro e w1 ⟨rfl, hB1⟩
  have z1 : w.heap.size + 1 ≤ w1.heap.size := by have := hB1.size; (try simp at this); omega
  replace C0 := Cells.ext hB1 l0 C0
  replace l0 := Nat.lt_of_lt_of_le l0 hB1.size
  replace hV := hV.trans (hB1.mono hV.size)
  rcases (show 1048576 < ((x0.sz : Nat) : Int) ∨ ((x0.sz : Nat) : Int) ≤ 1048576 by omega) with zz2 | zz2
  · rw [szr_gt (by omega)]
    go_wp2
    go_ret
    exact ⟨rfl, hV⟩
  rw [szr_le zz2]
  go_wp2_with fail
  refine (szValueS_c l2 _ _ (fun _ h => h) _ (h2.step hV) (1048576 - (x0.sz : Nat)) (by omega) (by omega)).mono ?_
  rintro e w2 ⟨rfl, hB2⟩
  have z2 : w1.heap.size ≤ w2.heap.size := by have := hB2.size; (try simp at this); omega
  replace C0 := Cells.ext hB2 l0 C0
  replace l0 := Nat.lt_of_lt_of_le l0 hB2.size
  replace hV := hV.trans (hB2.mono hV.size)
  rcases (show 1048576 - (x0.sz : Nat) < ((szs TValue.sz l2 : Nat) : Int) ∨ ((szs TValue.sz l2 : Nat) : Int) ≤ 1048576 - (x0.sz : Nat) by omega) with zz3 | zz3
  · rw [szr_gt (by omega)]
    go_wp2
    go_ret
    exact ⟨rfl, hV⟩
  rw [szr_le zz3]
  go_wp2_with (with_reducible refine ld rfl 47 _ rfl (w.heap.size) _ rfl c0 C0 _ Try.underlying47 hlb1.out ?_)
  refine (toMachine_c x0 (by omega) _ _ (fun _ h => h) _ (h0.step hV)).mono ?_
  rintro e w3 ⟨d3, b3, rfl, o3, n3, r3, hB3⟩
  have z3 : w2.heap.size ≤ w3.heap.size := by have := hB3.size; (try simp at this); omega
  replace r3 : ∀ x ∈ b3, w2.heap.size ≤ x ∧ x < w3.heap.size := by intro x hx; have := r3 x hx; (try simp at this); omega
  have O3 := Lib.hid o3; clear o3
  replace C0 := Cells.ext hB3 l0 C0
  replace l0 := Nat.lt_of_lt_of_le l0 hB3.size
  replace hV := hV.trans (hB3.mono hV.size)
  go_wp2_with fail
  refine (toValueS_c l2 (by omega) _ _ (fun _ h => h) _ (h2.step hV)).mono ?_
  rintro e w4 ⟨a4, p4, b4, rfl, o4, n4, r4, hB4⟩
  have z4 : w3.heap.size ≤ w4.heap.size := by have := hB4.size; (try simp at this); omega
  replace r4 : ∀ x ∈ b4, w3.heap.size ≤ x ∧ x < w4.heap.size := by intro x hx; have := r4 x hx; (try simp at this); omega
  have O4 := Lib.hid o4; clear o4
  replace O3 := Lib.hid (O3.out.below hB4)
  replace C0 := Cells.ext hB4 l0 C0
  replace l0 := Nat.lt_of_lt_of_le l0 hB4.size
  replace hV := hV.trans (hB4.mono hV.size)
  go_wp2_with fail
  refine (specNewVM_c x0 n1 l2 (by omega) _ _ (fun _ h => h) _ (repOf O3.out) i1 _ (repOf O4.out)).mono ?_
  rintro e w5 ⟨d5, b5, rfl, o5, n5, r5, hB5⟩
  have z5 : w4.heap.size ≤ w5.heap.size := by have := hB5.size; (try simp at this); omega
  replace r5 : ∀ x ∈ b5, w4.heap.size ≤ x ∧ x < w5.heap.size := by intro x hx; have := r5 x hx; (try simp at this); omega
  have O5 := Lib.hid o5; clear o5
  replace O3 := Lib.hid (O3.out.below hB5)
  replace O4 := Lib.hid (O4.out.below hB5)
  replace C0 := Cells.ext hB5 l0 C0
  replace l0 := Nat.lt_of_lt_of_le l0 hB5.size
  replace hV := hV.trans (hB5.mono hV.size)
  have hl6 := Lib.hid ((Rep.length _ _ (repOf O5.out)).trans (TVM.width _))
  have hn6 := Lib.hid (Rep.one _ _ (repOf O5.out))
  go_wp2_with (with_reducible refine stA rfl 31 _ _ rfl w5.heap.size 0 rfl d5 rfl (by rw [hl6.out]; exact infoL31) hn6.out _ 31 (alloc_self _ _) (by rw [hl6.out]; decide) ?_)
  intro w6 hst6
  have hB6 := hst6.below ((Below.refl _ _).alloc (Nat.le_refl _) _) (Nat.le_refl _)
  have C6_ := hst6.at_
  have l6_ : w5.heap.size < w6.heap.size := by rw [hst6.size]; simp
  have m6_ : w5.heap.size < w6.heap.size := l6_
  clear hst6 hn6
  replace O3 := Lib.hid (O3.out.below hB6)
  replace O4 := Lib.hid (O4.out.below hB6)
  replace O5 := Lib.hid (O5.out.below hB6)
  replace C0 := Cells.ext hB6 l0 C0
  replace l0 := Nat.lt_of_lt_of_le l0 hB6.size
  replace hV := hV.trans (hB6.mono hV.size)
  have hlb4 := Lib.hid (show (Try.prog.info? 31).map (·.size) = some (d5).length from (by rw [Rep.length _ _ (repOf O5.out), TVM.width]; exact infoL31))
  clear O3 n3 r3 O4 n4 r4
  go_wp2_with (with_reducible refine ld rfl 47 _ rfl (w.heap.size) _ rfl c0 C0 _ Try.underlying47 hlb1.out ?_)
  refine (toMachine_c x0 (by omega) _ _ (fun _ h => h) _ (h0.step hV)).mono ?_
  rintro e w7 ⟨d7, b7, rfl, o7, n7, r7, hB7⟩
  have z7 : w6.heap.size ≤ w7.heap.size := by have := hB7.size; (try simp at this); omega
  replace r7 : ∀ x ∈ b7, w6.heap.size ≤ x ∧ x < w7.heap.size := by intro x hx; have := r7 x hx; (try simp at this); omega
  have O7 := Lib.hid o7; clear o7
  replace O5 := Lib.hid (O5.out.below hB7)
  replace C0 := Cells.ext hB7 l0 C0
  replace l0 := Nat.lt_of_lt_of_le l0 hB7.size
  replace C6_ := Cells.ext hB7 l6_ C6_
  replace l6_ := Nat.lt_of_lt_of_le l6_ hB7.size
  replace hV := hV.trans (hB7.mono hV.size)
  have hl8 := Lib.hid ((Rep.length _ _ (repOf O7.out)).trans (TMachine.width _))
  have hn8 := Lib.hid (Rep.one _ _ (repOf O7.out))
  go_wp2_with (with_reducible refine stA rfl 54 _ _ rfl w7.heap.size 0 rfl d7 rfl (by rw [hl8.out]; exact infoL54) hn8.out _ 54 (alloc_self _ _) (by rw [hl8.out]; decide) ?_)
  intro w8 hst8
  have hB8 := hst8.below ((Below.refl _ _).alloc (Nat.le_refl _) _) (Nat.le_refl _)
  have C8_ := hst8.at_
  have l8_ : w7.heap.size < w8.heap.size := by rw [hst8.size]; simp
  have m8_ : w7.heap.size < w8.heap.size := l8_
  clear hst8 hn8
  replace O5 := Lib.hid (O5.out.below hB8)
  replace O7 := Lib.hid (O7.out.below hB8)
  replace C0 := Cells.ext hB8 l0 C0
  replace l0 := Nat.lt_of_lt_of_le l0 hB8.size
  replace C6_ := Cells.ext hB8 l6_ C6_
  replace l6_ := Nat.lt_of_lt_of_le l6_ hB8.size
  replace hV := hV.trans (hB8.mono hV.size)
  have hlb5 := Lib.hid (show (Try.prog.info? 54).map (·.size) = some (d7).length from (by rw [Rep.length _ _ (repOf O7.out), TMachine.width]; exact infoL54))
  go_wp2_with fail
  refine (toValueS_c l2 (by omega) _ _ (fun _ h => h) _ (h2.step hV)).mono ?_
  rintro e w9 ⟨a9, p9, b9, rfl, o9, n9, r9, hB9⟩
  have z9 : w8.heap.size ≤ w9.heap.size := by have := hB9.size; (try simp at this); omega
  replace r9 : ∀ x ∈ b9, w8.heap.size ≤ x ∧ x < w9.heap.size := by intro x hx; have := r9 x hx; (try simp at this); omega
  have O9 := Lib.hid o9; clear o9
  replace O5 := Lib.hid (O5.out.below hB9)
  replace O7 := Lib.hid (O7.out.below hB9)
  replace C0 := Cells.ext hB9 l0 C0
  replace l0 := Nat.lt_of_lt_of_le l0 hB9.size
  replace C6_ := Cells.ext hB9 l6_ C6_
  replace l6_ := Nat.lt_of_lt_of_le l6_ hB9.size
  replace C8_ := Cells.ext hB9 l8_ C8_
  replace l8_ := Nat.lt_of_lt_of_le l8_ hB9.size
  replace hV := hV.trans (hB9.mono hV.size)
  go_wp2_with (with_reducible refine ld rfl 54 _ rfl (w7.heap.size) _ rfl d7 C8_ _ Try.underlying54 hlb5.out ?_)
  refine (implNewVM_c x0 n1 l2 (by omega) _ _ (fun _ h => h) _ (repOf O7.out) i1 _ (repOf O9.out)).mono ?_
  rintro e w10 ⟨d10, b10, rfl, o10, n10, r10, hB10⟩
  have z10 : w9.heap.size ≤ w10.heap.size := by have := hB10.size; (try simp at this); omega
  replace r10 : ∀ x ∈ b10, w9.heap.size ≤ x ∧ x < w10.heap.size := by intro x hx; have := r10 x hx; (try simp at this); omega
  have O10 := Lib.hid o10; clear o10
  replace O5 := Lib.hid (O5.out.below hB10)
  replace O7 := Lib.hid (O7.out.below hB10)
  replace O9 := Lib.hid (O9.out.below hB10)
  replace C0 := Cells.ext hB10 l0 C0
  replace l0 := Nat.lt_of_lt_of_le l0 hB10.size
  replace C6_ := Cells.ext hB10 l6_ C6_
  replace l6_ := Nat.lt_of_lt_of_le l6_ hB10.size
  replace C8_ := Cells.ext hB10 l8_ C8_
  replace l8_ := Nat.lt_of_lt_of_le l8_ hB10.size
  replace hV := hV.trans (hB10.mono hV.size)
  have hl11 := Lib.hid ((Rep.length _ _ (repOf O10.out)).trans (TVM.width _))
  have hn11 := Lib.hid (Rep.one _ _ (repOf O10.out))
  go_wp2_with (with_reducible refine stA rfl 31 _ _ rfl w10.heap.size 0 rfl d10 rfl (by rw [hl11.out]; exact infoL31) hn11.out _ 31 (alloc_self _ _) (by rw [hl11.out]; decide) ?_)
  intro w11 hst11
  have hB11 := hst11.below ((Below.refl _ _).alloc (Nat.le_refl _) _) (Nat.le_refl _)
  have C11_ := hst11.at_
  have l11_ : w10.heap.size < w11.heap.size := by rw [hst11.size]; simp
  have m11_ : w10.heap.size < w11.heap.size := l11_
  clear hst11 hn11
  replace O5 := Lib.hid (O5.out.below hB11)
  replace O7 := Lib.hid (O7.out.below hB11)
  replace O9 := Lib.hid (O9.out.below hB11)
  replace O10 := Lib.hid (O10.out.below hB11)
  replace C0 := Cells.ext hB11 l0 C0
  replace l0 := Nat.lt_of_lt_of_le l0 hB11.size
  replace C6_ := Cells.ext hB11 l6_ C6_
  replace l6_ := Nat.lt_of_lt_of_le l6_ hB11.size
  replace C8_ := Cells.ext hB11 l8_ C8_
  replace l8_ := Nat.lt_of_lt_of_le l8_ hB11.size
  replace hV := hV.trans (hB11.mono hV.size)
  have hlb6 := Lib.hid (show (Try.prog.info? 31).map (·.size) = some (d10).length from (by rw [Rep.length _ _ (repOf O10.out), TVM.width]; exact infoL31))
  go_wp2_with (first | (with_reducible refine ld rfl 31 _ rfl (w10.heap.size) _ rfl d10 C11_ _ Try.underlying31 hlb6.out ?_) | (with_reducible refine ld rfl 31 _ rfl (w5.heap.size) _ rfl d5 C6_ _ Try.underlying31 hlb4.out ?_))
  refine (eqVM_c (vmNew x0 n1 l2) (vmNew x0 n1 l2) _ _ (fun _ h => h) _ _ (repOf O10.out) (repOf O5.out)).mono ?_
  rintro e w12 ⟨rfl, hB12⟩
  rw [deq_eq rfl]
  have z12 : w11.heap.size ≤ w12.heap.size := by have := hB12.size; (try simp at this); omega
  replace O5 := Lib.hid (O5.out.below hB12)
  replace O7 := Lib.hid (O7.out.below hB12)
  replace O9 := Lib.hid (O9.out.below hB12)
  replace O10 := Lib.hid (O10.out.below hB12)
  replace C0 := Cells.ext hB12 l0 C0
  replace l0 := Nat.lt_of_lt_of_le l0 hB12.size
  replace C6_ := Cells.ext hB12 l6_ C6_
  replace l6_ := Nat.lt_of_lt_of_le l6_ hB12.size
  replace C8_ := Cells.ext hB12 l8_ C8_
  replace l8_ := Nat.lt_of_lt_of_le l8_ hB12.size
  replace C11_ := Cells.ext hB12 l11_ C11_
  replace l11_ := Nat.lt_of_lt_of_le l11_ hB12.size
  replace hV := hV.trans (hB12.mono hV.size)
  go_wp2_with fail
  have hI7 : Below w12.heap.size w12 w12.drew := (Below.refl _ _).drew
  refine rg 5 (Below w12.heap.size w12) (by kernel_rfl) rfl ?_
  refine rg_seg (fuel := 3) [0, 1] hI7 (by kernel_rfl) rfl ?_
  simp only [pick, List.getElem?_cons_zero, List.getElem?_cons_succ]
  refine sg_fix _ rfl (fun w' hI => run_ld 54 _ rfl (w7.heap.size) _ rfl d7 (Cells.ext hI l8_ C8_) _ Try.underlying54 hlb5.out) ?_
  simp only [Act.put, List.setIfInBounds_toArray, List.set_cons_zero, List.set_cons_succ]
  refine sg_fix _ rfl (fun w' hI => run_ld 47 _ rfl (w.heap.size) _ rfl c0 (Cells.ext hI l0 C0) _ Try.underlying47 hlb1.out) ?_
  simp only [Act.put, List.setIfInBounds_toArray, List.set_cons_zero, List.set_cons_succ]
  refine sg_nil ?_
  refine rg_one (fuel := 2) 2 (by kernel_rfl) rfl (fun Kq8 hq8 => ?_)
  simp only [pick, List.getElem?_cons_zero, List.getElem?_cons_succ]
  refine rg_call rfl _ _ (by go_simp; exact ⟨rfl, rfl⟩) ?_
  refine (toMachine_c x0 (by omega) _ _ (fun _ h => h) _ (h0.step (hV.trans (hI7.mono hV.size)))).mono ?_
  rintro e w13 ⟨d13, b13, rfl, o13, n13, r13, hB13⟩
  have z13 : w12.heap.size ≤ w13.heap.size := by have := hB13.size; (try simp at this); omega
  replace r13 : ∀ x ∈ b13, w12.heap.size ≤ x ∧ x < w13.heap.size := by intro x hx; have := r13 x hx; (try simp at this); omega
  have O13 := Lib.hid o13; clear o13
  have hI9 := hI7.trans (hB13.mono hI7.size)
  refine ⟨_, rfl, hq8 _ _ hI9 ?_⟩
  simp only [Act.put, List.setIfInBounds_toArray, List.set_cons_zero, List.set_cons_succ]
  refine rg_one (fuel := 1) 3 (by kernel_rfl) rfl (fun Kq10 hq10 => ?_)
  simp only [pick, List.getElem?_cons_zero, List.getElem?_cons_succ]
  refine rg_call rfl _ _ (by go_simp; exact ⟨rfl, rfl⟩) ?_
  refine (eqMachine_c x0 x0 _ _ (fun _ h => h) _ _ (repOf (O7.out.below hI9)) (repOf O13.out)).mono ?_
  rintro e w14 ⟨rfl, hB14⟩
  rw [deq_eq rfl]
  have z14 : w13.heap.size ≤ w14.heap.size := by have := hB14.size; (try simp at this); omega
  replace O13 := Lib.hid (O13.out.below hB14)
  have hI11 := hI9.trans (hB14.mono hI9.size)
  refine ⟨_, rfl, hq10 _ _ hI11 ?_⟩
  simp only [Act.put, List.setIfInBounds_toArray, List.set_cons_zero, List.set_cons_succ]
  refine rg_seg (fuel := 0) [4] hI11 (by kernel_rfl) rfl ?_
  simp only [pick, List.getElem?_cons_zero, List.getElem?_cons_succ]
  refine sg_fix _ rfl (fun w' hI => by go_simp; rfl) ?_; simp only [Act.put, List.setIfInBounds_toArray, List.set_cons_zero, List.set_cons_succ]
  refine sg_nil (rg_end (by kernel_rfl) ?_)
  replace O5 := Lib.hid (O5.out.below hI11)
  replace O7 := Lib.hid (O7.out.below hI11)
  replace O9 := Lib.hid (O9.out.below hI11)
  replace O10 := Lib.hid (O10.out.below hI11)
  replace C0 := Cells.ext hI11 l0 C0
  replace l0 := Nat.lt_of_lt_of_le l0 hI11.size
  replace C6_ := Cells.ext hI11 l6_ C6_
  replace l6_ := Nat.lt_of_lt_of_le l6_ hI11.size
  replace C8_ := Cells.ext hI11 l8_ C8_
  replace l8_ := Nat.lt_of_lt_of_le l8_ hI11.size
  replace C11_ := Cells.ext hI11 l11_ C11_
  replace l11_ := Nat.lt_of_lt_of_le l11_ hI11.size
  replace hV := hV.trans (hI11.mono hV.size)
  clear O13 n13 r13
  go_wp2_with fail
  refine (toValueS_c l2 (by omega) _ _ (fun _ h => h) _ (h2.step hV)).mono ?_
  rintro e w15 ⟨a15, p15, b15, rfl, o15, n15, r15, hB15⟩
  have z15 : w14.heap.size ≤ w15.heap.size := by have := hB15.size; (try simp at this); omega
  replace r15 : ∀ x ∈ b15, w14.heap.size ≤ x ∧ x < w15.heap.size := by intro x hx; have := r15 x hx; (try simp at this); omega
  have O15 := Lib.hid o15; clear o15
  replace O5 := Lib.hid (O5.out.below hB15)
  replace O7 := Lib.hid (O7.out.below hB15)
  replace O9 := Lib.hid (O9.out.below hB15)
  replace O10 := Lib.hid (O10.out.below hB15)
  replace C0 := Cells.ext hB15 l0 C0
  replace l0 := Nat.lt_of_lt_of_le l0 hB15.size
  replace C6_ := Cells.ext hB15 l6_ C6_
  replace l6_ := Nat.lt_of_lt_of_le l6_ hB15.size
  replace C8_ := Cells.ext hB15 l8_ C8_
  replace l8_ := Nat.lt_of_lt_of_le l8_ hB15.size
  replace C11_ := Cells.ext hB15 l11_ C11_
  replace l11_ := Nat.lt_of_lt_of_le l11_ hB15.size
  replace hV := hV.trans (hB15.mono hV.size)
  go_wp2_with fail
  refine (eqValueS_c l2 l2 _ _ (fun _ h => h) _ _ (repOf O9.out) (repOf O15.out)).mono ?_
  rintro e w16 ⟨rfl, hB16⟩
  rw [deq_eq rfl]
  have z16 : w15.heap.size ≤ w16.heap.size := by have := hB16.size; (try simp at this); omega
  replace O5 := Lib.hid (O5.out.below hB16)
  replace O7 := Lib.hid (O7.out.below hB16)
  replace O9 := Lib.hid (O9.out.below hB16)
  replace O10 := Lib.hid (O10.out.below hB16)
  replace O15 := Lib.hid (O15.out.below hB16)
  replace C0 := Cells.ext hB16 l0 C0
  replace l0 := Nat.lt_of_lt_of_le l0 hB16.size
  replace C6_ := Cells.ext hB16 l6_ C6_
  replace l6_ := Nat.lt_of_lt_of_le l6_ hB16.size
  replace C8_ := Cells.ext hB16 l8_ C8_
  replace l8_ := Nat.lt_of_lt_of_le l8_ hB16.size
  replace C11_ := Cells.ext hB16 l11_ C11_
  replace l11_ := Nat.lt_of_lt_of_le l11_ hB16.size
  replace hV := hV.trans (hB16.mono hV.size)
  clear O15 n15 r15
  go_wp2_with (with_reducible refine ld rfl 54 _ rfl (w7.heap.size) _ rfl d7 C8_ _ Try.underlying54 hlb5.out ?_)
  have bd17 := TMachine.tcnt_le x0
  refine (markMachine_c x0 _ _ _ _ O7.out n7 (by omega) (by omega)).mono ?_
  rintro e w17 ⟨rfl, o7, hk17⟩
  have z17 : w16.heap.size ≤ w17.heap.size := hk17.size
  replace C0 := Cells.mono (hk17.other _ l0 (fun q => by have := r7 _ q; omega)) C0
  replace l0 := Nat.lt_of_lt_of_le l0 hk17.size
  replace C6_ := Cells.mono (hk17.other _ l6_ (fun q => by have := r7 _ q; omega)) C6_
  replace l6_ := Nat.lt_of_lt_of_le l6_ hk17.size
  replace C8_ := Cells.mono (hk17.other _ l8_ (fun q => by have := r7 _ q; omega)) C8_
  replace l8_ := Nat.lt_of_lt_of_le l8_ hk17.size
  replace C11_ := Cells.mono (hk17.other _ l11_ (fun q => by have := r7 _ q; omega)) C11_
  replace l11_ := Nat.lt_of_lt_of_le l11_ hk17.size
  replace O5 := Lib.hid (O5.out.kept hk17 (fun x hx q => by have := r5 x hx; have := r7 x q; omega))
  replace O9 := Lib.hid (O9.out.kept hk17 (fun x hx q => by have := r9 x hx; have := r7 x q; omega))
  replace O10 := Lib.hid (O10.out.kept hk17 (fun x hx q => by have := r10 x hx; have := r7 x q; omega))
  replace hV := below_kept hV hk17 (fun x hx => by have := r7 x hx; omega)
  replace O7 := Lib.hid o7; clear o7
  go_wp2_with fail
  have bd18 := cnts_map_le (f := TValue.sz) (fun y => Nat.le_trans (TValue.cnt_le y) (by omega)) l2
  refine (markValueS_c l2 _ _ _ _ O9.out n9 (by omega) (by omega)).mono ?_
  rintro e w18 ⟨rfl, o9, hk18⟩
  have z18 : w17.heap.size ≤ w18.heap.size := hk18.size
  replace C0 := Cells.mono (hk18.other _ l0 (fun q => by have := r9 _ q; omega)) C0
  replace l0 := Nat.lt_of_lt_of_le l0 hk18.size
  replace C6_ := Cells.mono (hk18.other _ l6_ (fun q => by have := r9 _ q; omega)) C6_
  replace l6_ := Nat.lt_of_lt_of_le l6_ hk18.size
  replace C8_ := Cells.mono (hk18.other _ l8_ (fun q => by have := r9 _ q; omega)) C8_
  replace l8_ := Nat.lt_of_lt_of_le l8_ hk18.size
  replace C11_ := Cells.mono (hk18.other _ l11_ (fun q => by have := r9 _ q; omega)) C11_
  replace l11_ := Nat.lt_of_lt_of_le l11_ hk18.size
  replace O5 := Lib.hid (O5.out.kept hk18 (fun x hx q => by have := r5 x hx; have := r9 x q; omega))
  replace O7 := Lib.hid (O7.out.kept hk18 (fun x hx q => by have := r7 x hx; have := r9 x q; omega))
  replace O10 := Lib.hid (O10.out.kept hk18 (fun x hx q => by have := r10 x hx; have := r9 x q; omega))
  replace hV := below_kept hV hk18 (fun x hx => by have := r9 x hx; omega)
  replace O9 := Lib.hid o9; clear o9
  have hq12 : ¬ ((((1 + (tcnt x0.enc : Nat)) + (cnts (l2.map TValue.enc) : Nat)) : Int) < 0) := by omega
  go_wp2_with (first | ((with_reducible refine ldg ?hw 31 _ rfl (w10.heap.size) _ rfl d10 C11_ _ Try.underlying31 hlb6.out ?_); (case hw => rfl)) | ((with_reducible refine ldg ?hw 31 _ rfl (w5.heap.size) _ rfl d5 C6_ _ Try.underlying31 hlb4.out ?_); (case hw => rfl)))
  refine (eqVM_c (vmNew x0 n1 l2) (vmNew x0 n1 l2) _ _ (fun _ h => h) _ _ (repOf O10.out) (repOf O5.out)).mono ?_
  rintro e w19 ⟨rfl, hB19⟩
  rw [deq_eq rfl]
  have z19 : w18.heap.size ≤ w19.heap.size := by have := hB19.size; (try simp at this); omega
  replace O5 := Lib.hid (O5.out.below hB19)
  replace O7 := Lib.hid (O7.out.below hB19)
  replace O9 := Lib.hid (O9.out.below hB19)
  replace O10 := Lib.hid (O10.out.below hB19)
  replace C0 := Cells.ext hB19 l0 C0
  replace l0 := Nat.lt_of_lt_of_le l0 hB19.size
  replace C6_ := Cells.ext hB19 l6_ C6_
  replace l6_ := Nat.lt_of_lt_of_le l6_ hB19.size
  replace C8_ := Cells.ext hB19 l8_ C8_
  replace l8_ := Nat.lt_of_lt_of_le l8_ hB19.size
  replace C11_ := Cells.ext hB19 l11_ C11_
  replace l11_ := Nat.lt_of_lt_of_le l11_ hB19.size
  replace hV := hV.trans (hB19.mono hV.size)
  go_wp2_with (with_reducible refine ld rfl 31 _ rfl (w10.heap.size) _ rfl d10 C11_ _ Try.underlying31 hlb6.out ?_)
  have bd20 := vmNew_tcnt x0 n1 l2
  refine (markVM_c (vmNew x0 n1 l2) _ _ _ _ O10.out n10 (by omega) (by omega)).mono ?_
  rintro e w20 ⟨rfl, o10, hk20⟩
  have z20 : w19.heap.size ≤ w20.heap.size := hk20.size
  replace C0 := Cells.mono (hk20.other _ l0 (fun q => by have := r10 _ q; omega)) C0
  replace l0 := Nat.lt_of_lt_of_le l0 hk20.size
  replace C6_ := Cells.mono (hk20.other _ l6_ (fun q => by have := r10 _ q; omega)) C6_
  replace l6_ := Nat.lt_of_lt_of_le l6_ hk20.size
  replace C8_ := Cells.mono (hk20.other _ l8_ (fun q => by have := r10 _ q; omega)) C8_
  replace l8_ := Nat.lt_of_lt_of_le l8_ hk20.size
  replace C11_ := Cells.mono (hk20.other _ l11_ (fun q => by have := r10 _ q; omega)) C11_
  replace l11_ := Nat.lt_of_lt_of_le l11_ hk20.size
  replace O5 := Lib.hid (O5.out.kept hk20 (fun x hx q => by have := r5 x hx; have := r10 x q; omega))
  replace O7 := Lib.hid (O7.out.kept hk20 (fun x hx q => by have := r7 x hx; have := r10 x q; omega))
  replace O9 := Lib.hid (O9.out.kept hk20 (fun x hx q => by have := r9 x hx; have := r10 x q; omega))
  replace hV := below_kept hV hk20 (fun x hx => by have := r10 x hx; omega)
  replace O10 := Lib.hid o10; clear o10
  go_wp2_with (with_reducible refine ld rfl 31 _ rfl (w10.heap.size) _ rfl d10 C11_ _ Try.underlying31 hlb6.out ?_)
  have bd21 := vmNew_tcnt x0 n1 l2
  refine (heldVM_c (vmNew x0 n1 l2) _ _ (fun _ h => h) _ _ (repOf O10.out) (by omega) (by omega)).mono ?_
  rintro e w21 ⟨rfl, hB21⟩
  have z21 : w20.heap.size ≤ w21.heap.size := by have := hB21.size; (try simp at this); omega
  replace O5 := Lib.hid (O5.out.below hB21)
  replace O7 := Lib.hid (O7.out.below hB21)
  replace O9 := Lib.hid (O9.out.below hB21)
  replace O10 := Lib.hid (O10.out.below hB21)
  replace C0 := Cells.ext hB21 l0 C0
  replace l0 := Nat.lt_of_lt_of_le l0 hB21.size
  replace C6_ := Cells.ext hB21 l6_ C6_
  replace l6_ := Nat.lt_of_lt_of_le l6_ hB21.size
  replace C8_ := Cells.ext hB21 l8_ C8_
  replace l8_ := Nat.lt_of_lt_of_le l8_ hB21.size
  replace C11_ := Cells.ext hB21 l11_ C11_
  replace l11_ := Nat.lt_of_lt_of_le l11_ hB21.size
  replace hV := hV.trans (hB21.mono hV.size)
  have hq13 : ¬ (((1 + (tcnt (vmNew x0 n1 l2).enc : Nat)) : Int) < 0) := by omega
  go_wp2_with (with_reducible refine ld rfl 47 _ rfl (w.heap.size) _ rfl c0 C0 _ Try.underlying47 hlb1.out ?_)
  refine (toMachine_c x0 (by omega) _ _ (fun _ h => h) _ (h0.step hV)).mono ?_
  rintro e w22 ⟨d22, b22, rfl, o22, n22, r22, hB22⟩
  have z22 : w21.heap.size ≤ w22.heap.size := by have := hB22.size; (try simp at this); omega
  replace r22 : ∀ x ∈ b22, w21.heap.size ≤ x ∧ x < w22.heap.size := by intro x hx; have := r22 x hx; (try simp at this); omega
  have O22 := Lib.hid o22; clear o22
  replace O5 := Lib.hid (O5.out.below hB22)
  replace O7 := Lib.hid (O7.out.below hB22)
  replace O9 := Lib.hid (O9.out.below hB22)
  replace O10 := Lib.hid (O10.out.below hB22)
  replace C0 := Cells.ext hB22 l0 C0
  replace l0 := Nat.lt_of_lt_of_le l0 hB22.size
  replace C6_ := Cells.ext hB22 l6_ C6_
  replace l6_ := Nat.lt_of_lt_of_le l6_ hB22.size
  replace C8_ := Cells.ext hB22 l8_ C8_
  replace l8_ := Nat.lt_of_lt_of_le l8_ hB22.size
  replace C11_ := Cells.ext hB22 l11_ C11_
  replace l11_ := Nat.lt_of_lt_of_le l11_ hB22.size
  replace hV := hV.trans (hB22.mono hV.size)
  go_wp2_with fail
  refine (toValueS_c l2 (by omega) _ _ (fun _ h => h) _ (h2.step hV)).mono ?_
  rintro e w23 ⟨a23, p23, b23, rfl, o23, n23, r23, hB23⟩
  have z23 : w22.heap.size ≤ w23.heap.size := by have := hB23.size; (try simp at this); omega
  replace r23 : ∀ x ∈ b23, w22.heap.size ≤ x ∧ x < w23.heap.size := by intro x hx; have := r23 x hx; (try simp at this); omega
  have O23 := Lib.hid o23; clear o23
  replace O5 := Lib.hid (O5.out.below hB23)
  replace O7 := Lib.hid (O7.out.below hB23)
  replace O9 := Lib.hid (O9.out.below hB23)
  replace O10 := Lib.hid (O10.out.below hB23)
  replace O22 := Lib.hid (O22.out.below hB23)
  replace C0 := Cells.ext hB23 l0 C0
  replace l0 := Nat.lt_of_lt_of_le l0 hB23.size
  replace C6_ := Cells.ext hB23 l6_ C6_
  replace l6_ := Nat.lt_of_lt_of_le l6_ hB23.size
  replace C8_ := Cells.ext hB23 l8_ C8_
  replace l8_ := Nat.lt_of_lt_of_le l8_ hB23.size
  replace C11_ := Cells.ext hB23 l11_ C11_
  replace l11_ := Nat.lt_of_lt_of_le l11_ hB23.size
  replace hV := hV.trans (hB23.mono hV.size)
  go_wp2_with fail
  refine (implNewVM_c x0 n1 l2 (by omega) _ _ (fun _ h => h) _ (repOf O22.out) i1 _ (repOf O23.out)).mono ?_
  rintro e w24 ⟨d24, b24, rfl, o24, n24, r24, hB24⟩
  have z24 : w23.heap.size ≤ w24.heap.size := by have := hB24.size; (try simp at this); omega
  replace r24 : ∀ x ∈ b24, w23.heap.size ≤ x ∧ x < w24.heap.size := by intro x hx; have := r24 x hx; (try simp at this); omega
  have O24 := Lib.hid o24; clear o24
  replace O5 := Lib.hid (O5.out.below hB24)
  replace O7 := Lib.hid (O7.out.below hB24)
  replace O9 := Lib.hid (O9.out.below hB24)
  replace O10 := Lib.hid (O10.out.below hB24)
  replace O22 := Lib.hid (O22.out.below hB24)
  replace O23 := Lib.hid (O23.out.below hB24)
  replace C0 := Cells.ext hB24 l0 C0
  replace l0 := Nat.lt_of_lt_of_le l0 hB24.size
  replace C6_ := Cells.ext hB24 l6_ C6_
  replace l6_ := Nat.lt_of_lt_of_le l6_ hB24.size
  replace C8_ := Cells.ext hB24 l8_ C8_
  replace l8_ := Nat.lt_of_lt_of_le l8_ hB24.size
  replace C11_ := Cells.ext hB24 l11_ C11_
  replace l11_ := Nat.lt_of_lt_of_le l11_ hB24.size
  replace hV := hV.trans (hB24.mono hV.size)
  have hl25 := Lib.hid ((Rep.length _ _ (repOf O24.out)).trans (TVM.width _))
  have hn25 := Lib.hid (Rep.one _ _ (repOf O24.out))
  go_wp2_with (with_reducible refine stA rfl 31 _ _ rfl w24.heap.size 0 rfl d24 rfl (by rw [hl25.out]; exact infoL31) hn25.out _ 31 (alloc_self _ _) (by rw [hl25.out]; decide) ?_)
  intro w25 hst25
  have hB25 := hst25.below ((Below.refl _ _).alloc (Nat.le_refl _) _) (Nat.le_refl _)
  have C25_ := hst25.at_
  have l25_ : w24.heap.size < w25.heap.size := by rw [hst25.size]; simp
  have m25_ : w24.heap.size < w25.heap.size := l25_
  clear hst25 hn25
  replace O5 := Lib.hid (O5.out.below hB25)
  replace O7 := Lib.hid (O7.out.below hB25)
  replace O9 := Lib.hid (O9.out.below hB25)
  replace O10 := Lib.hid (O10.out.below hB25)
  replace O22 := Lib.hid (O22.out.below hB25)
  replace O23 := Lib.hid (O23.out.below hB25)
  replace O24 := Lib.hid (O24.out.below hB25)
  replace C0 := Cells.ext hB25 l0 C0
  replace l0 := Nat.lt_of_lt_of_le l0 hB25.size
  replace C6_ := Cells.ext hB25 l6_ C6_
  replace l6_ := Nat.lt_of_lt_of_le l6_ hB25.size
  replace C8_ := Cells.ext hB25 l8_ C8_
  replace l8_ := Nat.lt_of_lt_of_le l8_ hB25.size
  replace C11_ := Cells.ext hB25 l11_ C11_
  replace l11_ := Nat.lt_of_lt_of_le l11_ hB25.size
  replace hV := hV.trans (hB25.mono hV.size)
  have hlb14 := Lib.hid (show (Try.prog.info? 31).map (·.size) = some (d24).length from (by rw [Rep.length _ _ (repOf O24.out), TVM.width]; exact infoL31))
  clear O22 n22 r22 O23 n23 r23
  go_wp2_with (first | (with_reducible refine ld rfl 31 _ rfl (w24.heap.size) _ rfl d24 C25_ _ Try.underlying31 hlb14.out ?_) | (with_reducible refine ld rfl 31 _ rfl (w5.heap.size) _ rfl d5 C6_ _ Try.underlying31 hlb4.out ?_))
  refine (eqVM_c (vmNew x0 n1 l2) (vmNew x0 n1 l2) _ _ (fun _ h => h) _ _ (repOf O24.out) (repOf O5.out)).mono ?_
  rintro e w26 ⟨rfl, hB26⟩
  rw [deq_eq rfl]
  have z26 : w25.heap.size ≤ w26.heap.size := by have := hB26.size; (try simp at this); omega
  replace O5 := Lib.hid (O5.out.below hB26)
  replace O7 := Lib.hid (O7.out.below hB26)
  replace O9 := Lib.hid (O9.out.below hB26)
  replace O10 := Lib.hid (O10.out.below hB26)
  replace O24 := Lib.hid (O24.out.below hB26)
  replace C0 := Cells.ext hB26 l0 C0
  replace l0 := Nat.lt_of_lt_of_le l0 hB26.size
  replace C6_ := Cells.ext hB26 l6_ C6_
  replace l6_ := Nat.lt_of_lt_of_le l6_ hB26.size
  replace C8_ := Cells.ext hB26 l8_ C8_
  replace l8_ := Nat.lt_of_lt_of_le l8_ hB26.size
  replace C11_ := Cells.ext hB26 l11_ C11_
  replace l11_ := Nat.lt_of_lt_of_le l11_ hB26.size
  replace C25_ := Cells.ext hB26 l25_ C25_
  replace l25_ := Nat.lt_of_lt_of_le l25_ hB26.size
  replace hV := hV.trans (hB26.mono hV.size)
  go_wp2_with (with_reducible refine ld rfl 31 _ rfl (w10.heap.size) _ rfl d10 C11_ _ Try.underlying31 hlb6.out ?_)
  have bd27 := vmNew_tcnt x0 n1 l2
  refine (heldVM_c (vmNew x0 n1 l2) _ _ (fun _ h => h) _ _ (repOf O10.out) (by omega) (by omega)).mono ?_
  rintro e w27 ⟨rfl, hB27⟩
  have z27 : w26.heap.size ≤ w27.heap.size := by have := hB27.size; (try simp at this); omega
  replace O5 := Lib.hid (O5.out.below hB27)
  replace O7 := Lib.hid (O7.out.below hB27)
  replace O9 := Lib.hid (O9.out.below hB27)
  replace O10 := Lib.hid (O10.out.below hB27)
  replace O24 := Lib.hid (O24.out.below hB27)
  replace C0 := Cells.ext hB27 l0 C0
  replace l0 := Nat.lt_of_lt_of_le l0 hB27.size
  replace C6_ := Cells.ext hB27 l6_ C6_
  replace l6_ := Nat.lt_of_lt_of_le l6_ hB27.size
  replace C8_ := Cells.ext hB27 l8_ C8_
  replace l8_ := Nat.lt_of_lt_of_le l8_ hB27.size
  replace C11_ := Cells.ext hB27 l11_ C11_
  replace l11_ := Nat.lt_of_lt_of_le l11_ hB27.size
  replace C25_ := Cells.ext hB27 l25_ C25_
  replace l25_ := Nat.lt_of_lt_of_le l25_ hB27.size
  replace hV := hV.trans (hB27.mono hV.size)
  have hq15 : ¬ (((1 + (tcnt (vmNew x0 n1 l2).enc : Nat)) : Int) < 0) := by omega
  go_wp2
  go_ret
  exact ⟨rfl, hV⟩
end Go.Proofs.Ytnlmldgbhdcpbaa.fnExactNewVM
