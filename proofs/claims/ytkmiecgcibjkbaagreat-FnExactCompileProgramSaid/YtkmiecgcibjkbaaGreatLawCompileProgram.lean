/- The law FnExactCompileProgram, walked: it answers true and leaves all that was there as it was. No condition. -/
import Derived.Test.YtkmiecgcibjkbaaGreatOpen
import Derived.Test.YtkmiecgcibjkbaaGreatSz
import Derived.Test.YtkmiecgcibjkbaaGreatTo
import Derived.Test.YtkmiecgcibjkbaaGreatGrow
import Derived.Test.YtkmiecgcibjkbaaGreatEq
import Derived.Test.YtkmiecgcibjkbaaGreatMarks
import Derived.Test.YtkmiecgcibjkbaaGreatHelds
import Derived.Test.YtkmiecgcibjkbaaGreatMkBound
import Derived.Test.YtkmiecgcibjkbaaGreatCProgC
namespace Go.Proofs.YtkmiecgcibjkbaaGreat.fnExactCompileProgram
open Go.RowKit
theorem alloc_self (w : World) (o : Obj) : (w.alloc o).heap[w.heap.size]? = some o := by
 show (w.heap.push o)[w.heap.size]? = some o
 simp
theorem Cells.new (w : World) (cs : List Value) (t : TypeId) {b : Nat} (hb : b = w.heap.size) : Cells (w.alloc (.cells cs.toArray t)) b 0 cs := by
 subst hb
 intro j u hu
 rw [cell_of_row _ _ _ _ t (0, 0) (alloc_self w _)]
 simpa using hu
theorem repOf {w : World} {d : D} {cs : List Value} {bs : List Nat} (h : Own w d cs bs) : Rep w (Live w) d cs := Own.rep _ _ _ h (fun b hb => Own.lt _ _ _ h b hb)
theorem below_kept {w cur w' : World} {bs : List Nat} (h : Below w.heap.size w cur) (k : Kept cur w' bs) (hb : ∀ b ∈ bs, w.heap.size ≤ b) : Below w.heap.size w w' :=
 ⟨k.os.trans h.os, k.tape.trans h.tape, k.output.trans h.output, Nat.le_trans h.size k.size, fun b hl => (k.other b (Nat.lt_of_lt_of_le hl h.size) (fun q => by have := hb b q; omega)).trans (h.block b hl)⟩
/-- a struct is loaded by an operation that has a guard, which holds -/
theorem ldg {P : Program} {w : World} {ops : Array Oper} {rest : List Oper} {o : Oper} {a : Act} {Q : Exit → Act → World → Prop} (hw : Region.wanted o (yielded ops a.tmps) = true) (ty : TypeId) (x : Operand) (ho : o.op = .load ty x)
  (b off : Nat) (hx : a.eval x = .pointer (some ⟨b, off, none⟩)) (cs : List Value) (hc : Cells w b off cs) (fs : Array Field) (hu : P.underlying ty = some (.struct fs)) (hi : (P.info? ty).map (·.size) = some cs.length)
  (h : wpList P ops Q rest (a.put o.dst (.agg cs.toArray)) w) : wpList P ops Q (o :: rest) a w := by
 have hv := run_loadVar (P := P) ty b off cs hc fs hu hi
 unfold wpList
 rw [if_pos hw]
 left
 unfold Oper.wp execOp
 simp only [ho, hx, Instr.loadAt, Instr.sureAddr, Sem.run_bind, Sem.run_pure, Result.andThen_ok, hv]
 exact h
theorem infoL25 : (Tryz.prog.info? 25).map (·.size) = some 2 := by kernel_rfl
theorem infoL30 : (Tryz.prog.info? 30).map (·.size) = some 2 := by kernel_rfl
theorem infoL35 : (Tryz.prog.info? 35).map (·.size) = some 2 := by kernel_rfl
set_option maxRecDepth 100000 in
set_option maxHeartbeats 4000000 in
theorem law_c (x0 : TMonoProgram) : ∀ (w : World) (c0 : List Value) (_ : Rep w (Live w) x0.enc c0),
  Calls Tryz.prog 3 #[.agg c0.toArray] w fun e w' => e = .returned (.bool true) ∧ Below w.heap.size w w' := by
 intro w c0 h0
 have hV : Below w.heap.size w (w.alloc (.cells c0.toArray 25)) := ((Below.refl _ _).alloc (Nat.le_refl _) _)
 have C0 : Cells (w.alloc (.cells c0.toArray 25)) (w.heap.size) 0 c0 := Cells.new _ _ _ (by simp)
 have l0 : w.heap.size < (w.alloc (.cells c0.toArray 25)).heap.size := by simp <;> omega
 have hlb1 := Lib.hid (show (Tryz.prog.info? 25).map (·.size) = some (c0).length from (by rw [Rep.length _ _ (h0.step hV), TMonoProgram.width]; exact infoL25))
 go_enter Tryz.func3, Tryz.ntmps3
 go_wp2_with (with_reducible refine ld rfl 25 _ rfl (w.heap.size) _ rfl c0 C0 _ Tryz.underlying25 hlb1.out ?_)
 refine (szMonoProgram_c x0 _ _ (fun _ h => h) _ (h0.step hV) (1048576) (by omega) (by omega)).mono ?_
 rintro e w1 ⟨rfl, hB1⟩
 have z1 : w.heap.size + 1 ≤ w1.heap.size := by have := hB1.size; (try simp at this); omega
 replace C0 := Cells.ext hB1 l0 C0
 replace l0 := Nat.lt_of_lt_of_le l0 hB1.size
 replace hV := hV.trans (hB1.mono hV.size)
 rcases (show 1048576 < ((x0.sz : Nat) : Int) ∨ ((x0.sz : Nat) : Int) ≤ 1048576 by omega) with zz2 | zz2
 ·rw [szr_gt (by omega)]
  go_wp2
  go_ret
  exact ⟨rfl, hV⟩
 rw [szr_le zz2]
 go_wp2_with (with_reducible refine ld rfl 25 _ rfl (w.heap.size) _ rfl c0 C0 _ Tryz.underlying25 hlb1.out ?_)
 refine (toMonoProgram_c x0 (by omega) _ _ (fun _ h => h) _ (h0.step hV)).mono ?_
 rintro e w2 ⟨d2, b2, rfl, o2, n2, r2, hB2⟩
 have z2 : w1.heap.size ≤ w2.heap.size := by have := hB2.size; (try simp at this); omega
 replace r2 : ∀ x ∈ b2, w1.heap.size ≤ x ∧ x < w2.heap.size := by intro x hx; have := r2 x hx; (try simp at this); omega
 have O2 := Lib.hid o2; clear o2
 replace C0 := Cells.ext hB2 l0 C0
 replace l0 := Nat.lt_of_lt_of_le l0 hB2.size
 replace hV := hV.trans (hB2.mono hV.size)
 go_wp2_with fail
 refine (specCompileProgram_c x0 (by omega) _ _ (fun _ h => h) _ (repOf O2.out)).mono ?_
 rintro e w3 ⟨d3, b3, rfl, o3, n3, r3, hB3⟩
 have z3 : w2.heap.size ≤ w3.heap.size := by have := hB3.size; (try simp at this); omega
 replace r3 : ∀ x ∈ b3, w2.heap.size ≤ x ∧ x < w3.heap.size := by intro x hx; have := r3 x hx; (try simp at this); omega
 have O3 := Lib.hid o3; clear o3
 replace O2 := Lib.hid (O2.out.below hB3)
 replace C0 := Cells.ext hB3 l0 C0
 replace l0 := Nat.lt_of_lt_of_le l0 hB3.size
 replace hV := hV.trans (hB3.mono hV.size)
 have hl4 := Lib.hid ((Rep.length _ _ (repOf O3.out)).trans (TMachine.width _))
 have hn4 := Lib.hid (Rep.one _ _ (repOf O3.out))
 go_wp2_with (with_reducible refine stA rfl 30 _ _ rfl w3.heap.size 0 rfl d3 rfl (by rw [hl4.out]; exact infoL30) hn4.out _ 30 (alloc_self _ _) (by rw [hl4.out]; decide) ?_)
 intro w4 hst4
 have hB4 := hst4.below ((Below.refl _ _).alloc (Nat.le_refl _) _) (Nat.le_refl _)
 have C4_ := hst4.at_
 have l4_ : w3.heap.size < w4.heap.size := by rw [hst4.size]; simp
 have m4_ : w3.heap.size < w4.heap.size := l4_
 clear hst4 hn4
 replace O2 := Lib.hid (O2.out.below hB4)
 replace O3 := Lib.hid (O3.out.below hB4)
 replace C0 := Cells.ext hB4 l0 C0
 replace l0 := Nat.lt_of_lt_of_le l0 hB4.size
 replace hV := hV.trans (hB4.mono hV.size)
 have hlb3 := Lib.hid (show (Tryz.prog.info? 30).map (·.size) = some (d3).length from (by rw [Rep.length _ _ (repOf O3.out), TMachine.width]; exact infoL30))
 clear O2 n2 r2
 go_wp2_with (with_reducible refine ld rfl 25 _ rfl (w.heap.size) _ rfl c0 C0 _ Tryz.underlying25 hlb1.out ?_)
 refine (toMonoProgram_c x0 (by omega) _ _ (fun _ h => h) _ (h0.step hV)).mono ?_
 rintro e w5 ⟨d5, b5, rfl, o5, n5, r5, hB5⟩
 have z5 : w4.heap.size ≤ w5.heap.size := by have := hB5.size; (try simp at this); omega
 replace r5 : ∀ x ∈ b5, w4.heap.size ≤ x ∧ x < w5.heap.size := by intro x hx; have := r5 x hx; (try simp at this); omega
 have O5 := Lib.hid o5; clear o5
 replace O3 := Lib.hid (O3.out.below hB5)
 replace C0 := Cells.ext hB5 l0 C0
 replace l0 := Nat.lt_of_lt_of_le l0 hB5.size
 replace C4_ := Cells.ext hB5 l4_ C4_
 replace l4_ := Nat.lt_of_lt_of_le l4_ hB5.size
 replace hV := hV.trans (hB5.mono hV.size)
 have hl6 := Lib.hid ((Rep.length _ _ (repOf O5.out)).trans (TMonoProgram.width _))
 have hn6 := Lib.hid (Rep.one _ _ (repOf O5.out))
 go_wp2_with (with_reducible refine stA rfl 35 _ _ rfl w5.heap.size 0 rfl d5 rfl (by rw [hl6.out]; exact infoL35) hn6.out _ 35 (alloc_self _ _) (by rw [hl6.out]; decide) ?_)
 intro w6 hst6
 have hB6 := hst6.below ((Below.refl _ _).alloc (Nat.le_refl _) _) (Nat.le_refl _)
 have C6_ := hst6.at_
 have l6_ : w5.heap.size < w6.heap.size := by rw [hst6.size]; simp
 have m6_ : w5.heap.size < w6.heap.size := l6_
 clear hst6 hn6
 replace O3 := Lib.hid (O3.out.below hB6)
 replace O5 := Lib.hid (O5.out.below hB6)
 replace C0 := Cells.ext hB6 l0 C0
 replace l0 := Nat.lt_of_lt_of_le l0 hB6.size
 replace C4_ := Cells.ext hB6 l4_ C4_
 replace l4_ := Nat.lt_of_lt_of_le l4_ hB6.size
 replace hV := hV.trans (hB6.mono hV.size)
 have hlb4 := Lib.hid (show (Tryz.prog.info? 35).map (·.size) = some (d5).length from (by rw [Rep.length _ _ (repOf O5.out), TMonoProgram.width]; exact infoL35))
 go_wp2_with (with_reducible refine ld rfl 35 _ rfl (w5.heap.size) _ rfl d5 C6_ _ Tryz.underlying35 hlb4.out ?_)
 refine (implCompileProgram_c x0 (by omega) _ _ (fun _ h => h) _ (repOf O5.out)).mono ?_
 rintro e w7 ⟨d7, b7, rfl, o7, n7, r7, hB7⟩
 have z7 : w6.heap.size ≤ w7.heap.size := by have := hB7.size; (try simp at this); omega
 replace r7 : ∀ x ∈ b7, w6.heap.size ≤ x ∧ x < w7.heap.size := by intro x hx; have := r7 x hx; (try simp at this); omega
 have O7 := Lib.hid o7; clear o7
 replace O3 := Lib.hid (O3.out.below hB7)
 replace O5 := Lib.hid (O5.out.below hB7)
 replace C0 := Cells.ext hB7 l0 C0
 replace l0 := Nat.lt_of_lt_of_le l0 hB7.size
 replace C4_ := Cells.ext hB7 l4_ C4_
 replace l4_ := Nat.lt_of_lt_of_le l4_ hB7.size
 replace C6_ := Cells.ext hB7 l6_ C6_
 replace l6_ := Nat.lt_of_lt_of_le l6_ hB7.size
 replace hV := hV.trans (hB7.mono hV.size)
 have hl8 := Lib.hid ((Rep.length _ _ (repOf O7.out)).trans (TMachine.width _))
 have hn8 := Lib.hid (Rep.one _ _ (repOf O7.out))
 go_wp2_with (with_reducible refine stA rfl 30 _ _ rfl w7.heap.size 0 rfl d7 rfl (by rw [hl8.out]; exact infoL30) hn8.out _ 30 (alloc_self _ _) (by rw [hl8.out]; decide) ?_)
 intro w8 hst8
 have hB8 := hst8.below ((Below.refl _ _).alloc (Nat.le_refl _) _) (Nat.le_refl _)
 have C8_ := hst8.at_
 have l8_ : w7.heap.size < w8.heap.size := by rw [hst8.size]; simp
 have m8_ : w7.heap.size < w8.heap.size := l8_
 clear hst8 hn8
 replace O3 := Lib.hid (O3.out.below hB8)
 replace O5 := Lib.hid (O5.out.below hB8)
 replace O7 := Lib.hid (O7.out.below hB8)
 replace C0 := Cells.ext hB8 l0 C0
 replace l0 := Nat.lt_of_lt_of_le l0 hB8.size
 replace C4_ := Cells.ext hB8 l4_ C4_
 replace l4_ := Nat.lt_of_lt_of_le l4_ hB8.size
 replace C6_ := Cells.ext hB8 l6_ C6_
 replace l6_ := Nat.lt_of_lt_of_le l6_ hB8.size
 replace hV := hV.trans (hB8.mono hV.size)
 have hlb5 := Lib.hid (show (Tryz.prog.info? 30).map (·.size) = some (d7).length from (by rw [Rep.length _ _ (repOf O7.out), TMachine.width]; exact infoL30))
 go_wp2_with (first | (with_reducible refine ld rfl 30 _ rfl (w7.heap.size) _ rfl d7 C8_ _ Tryz.underlying30 hlb5.out ?_) | (with_reducible refine ld rfl 30 _ rfl (w3.heap.size) _ rfl d3 C4_ _ Tryz.underlying30 hlb3.out ?_))
 refine (eqMachine_c ((cprog x0).1) ((cprog x0).1) _ _ (fun _ h => h) _ _ (repOf O7.out) (repOf O3.out)).mono ?_
 rintro e w9 ⟨rfl, hB9⟩
 rw [deq_eq rfl]
 have z9 : w8.heap.size ≤ w9.heap.size := by have := hB9.size; (try simp at this); omega
 replace O3 := Lib.hid (O3.out.below hB9)
 replace O5 := Lib.hid (O5.out.below hB9)
 replace O7 := Lib.hid (O7.out.below hB9)
 replace C0 := Cells.ext hB9 l0 C0
 replace l0 := Nat.lt_of_lt_of_le l0 hB9.size
 replace C4_ := Cells.ext hB9 l4_ C4_
 replace l4_ := Nat.lt_of_lt_of_le l4_ hB9.size
 replace C6_ := Cells.ext hB9 l6_ C6_
 replace l6_ := Nat.lt_of_lt_of_le l6_ hB9.size
 replace C8_ := Cells.ext hB9 l8_ C8_
 replace l8_ := Nat.lt_of_lt_of_le l8_ hB9.size
 replace hV := hV.trans (hB9.mono hV.size)
 go_wp2_with fail
 have hI6 : Below w9.heap.size w9 w9.drew := (Below.refl _ _).drew
 refine rg 5 (Below w9.heap.size w9) (by kernel_rfl) rfl ?_
 refine rg_seg (fuel := 3) [0, 1] hI6 (by kernel_rfl) rfl ?_
 simp only [pick, pD, pE]
 refine sg_fix _ rfl (fun w' hI => run_ld 35 _ rfl (w5.heap.size) _ rfl d5 (Cells.ext hI l6_ C6_) _ Tryz.underlying35 hlb4.out) ?_
 simp only [Act.put, pA, pB, pC]
 refine sg_fix _ rfl (fun w' hI => run_ld 25 _ rfl (w.heap.size) _ rfl c0 (Cells.ext hI l0 C0) _ Tryz.underlying25 hlb1.out) ?_
 simp only [Act.put, pA, pB, pC]
 refine sg_nil ?_
 refine rg_one (fuel := 2) 2 (by kernel_rfl) rfl (fun Kq7 hq7 => ?_)
 simp only [pick, pD, pE]
 refine rg_call rfl _ _ (by go_simp; exact ⟨rfl, rfl⟩) ?_
 refine (toMonoProgram_c x0 (by omega) _ _ (fun _ h => h) _ (h0.step (hV.trans (hI6.mono hV.size)))).mono ?_
 rintro e w10 ⟨d10, b10, rfl, o10, n10, r10, hB10⟩
 have z10 : w9.heap.size ≤ w10.heap.size := by have := hB10.size; (try simp at this); omega
 replace r10 : ∀ x ∈ b10, w9.heap.size ≤ x ∧ x < w10.heap.size := by intro x hx; have := r10 x hx; (try simp at this); omega
 have O10 := Lib.hid o10; clear o10
 have hI8 := hI6.trans (hB10.mono hI6.size)
 refine ⟨_, rfl, hq7 _ _ hI8 ?_⟩
 simp only [Act.put, pA, pB, pC]
 refine rg_one (fuel := 1) 3 (by kernel_rfl) rfl (fun Kq9 hq9 => ?_)
 simp only [pick, pD, pE]
 refine rg_call rfl _ _ (by go_simp; exact ⟨rfl, rfl⟩) ?_
 refine (eqMonoProgram_c x0 x0 _ _ (fun _ h => h) _ _ (repOf (O5.out.below hI8)) (repOf O10.out)).mono ?_
 rintro e w11 ⟨rfl, hB11⟩
 rw [deq_eq rfl]
 have z11 : w10.heap.size ≤ w11.heap.size := by have := hB11.size; (try simp at this); omega
 replace O10 := Lib.hid (O10.out.below hB11)
 have hI10 := hI8.trans (hB11.mono hI8.size)
 refine ⟨_, rfl, hq9 _ _ hI10 ?_⟩
 simp only [Act.put, pA, pB, pC]
 refine rg_seg (fuel := 0) [4] hI10 (by kernel_rfl) rfl ?_
 simp only [pick, pD, pE]
 refine sg_fix _ rfl (fun w' hI => by go_simp; rfl) ?_; simp only [Act.put, pA, pB, pC]
 refine sg_nil (rg_end (by kernel_rfl) ?_)
 replace O3 := Lib.hid (O3.out.below hI10)
 replace O5 := Lib.hid (O5.out.below hI10)
 replace O7 := Lib.hid (O7.out.below hI10)
 replace C0 := Cells.ext hI10 l0 C0
 replace l0 := Nat.lt_of_lt_of_le l0 hI10.size
 replace C4_ := Cells.ext hI10 l4_ C4_
 replace l4_ := Nat.lt_of_lt_of_le l4_ hI10.size
 replace C6_ := Cells.ext hI10 l6_ C6_
 replace l6_ := Nat.lt_of_lt_of_le l6_ hI10.size
 replace C8_ := Cells.ext hI10 l8_ C8_
 replace l8_ := Nat.lt_of_lt_of_le l8_ hI10.size
 replace hV := hV.trans (hI10.mono hV.size)
 clear O10 n10 r10
 go_wp2_with (with_reducible refine ld rfl 35 _ rfl (w5.heap.size) _ rfl d5 C6_ _ Tryz.underlying35 hlb4.out ?_)
 have bd12 := TMonoProgram.tcnt_le x0
 refine (markMonoProgram_c x0 _ _ _ _ O5.out n5 (by omega) (by omega)).mono ?_
 rintro e w12 ⟨rfl, o5, hk12⟩
 have z12 : w11.heap.size ≤ w12.heap.size := hk12.size
 replace C0 := Cells.mono (hk12.other _ l0 (fun q => by have := r5 _ q; omega)) C0
 replace l0 := Nat.lt_of_lt_of_le l0 hk12.size
 replace C4_ := Cells.mono (hk12.other _ l4_ (fun q => by have := r5 _ q; omega)) C4_
 replace l4_ := Nat.lt_of_lt_of_le l4_ hk12.size
 replace C6_ := Cells.mono (hk12.other _ l6_ (fun q => by have := r5 _ q; omega)) C6_
 replace l6_ := Nat.lt_of_lt_of_le l6_ hk12.size
 replace C8_ := Cells.mono (hk12.other _ l8_ (fun q => by have := r5 _ q; omega)) C8_
 replace l8_ := Nat.lt_of_lt_of_le l8_ hk12.size
 replace O3 := Lib.hid (O3.out.kept hk12 (fun x hx q => by have := r3 x hx; have := r5 x q; omega))
 replace O7 := Lib.hid (O7.out.kept hk12 (fun x hx q => by have := r7 x hx; have := r5 x q; omega))
 replace hV := below_kept hV hk12 (fun x hx => by have := r5 x hx; omega)
 replace O5 := Lib.hid o5; clear o5
 have hq11 : ¬ (((1 + (tcnt x0.enc : Nat)) : Int) < 0) := by omega
 go_wp2_with (first | ((with_reducible refine ldg ?hw 30 _ rfl (w7.heap.size) _ rfl d7 C8_ _ Tryz.underlying30 hlb5.out ?_); (case hw => rfl)) | ((with_reducible refine ldg ?hw 30 _ rfl (w3.heap.size) _ rfl d3 C4_ _ Tryz.underlying30 hlb3.out ?_); (case hw => rfl)))
 refine (eqMachine_c ((cprog x0).1) ((cprog x0).1) _ _ (fun _ h => h) _ _ (repOf O7.out) (repOf O3.out)).mono ?_
 rintro e w13 ⟨rfl, hB13⟩
 rw [deq_eq rfl]
 have z13 : w12.heap.size ≤ w13.heap.size := by have := hB13.size; (try simp at this); omega
 replace O3 := Lib.hid (O3.out.below hB13)
 replace O5 := Lib.hid (O5.out.below hB13)
 replace O7 := Lib.hid (O7.out.below hB13)
 replace C0 := Cells.ext hB13 l0 C0
 replace l0 := Nat.lt_of_lt_of_le l0 hB13.size
 replace C4_ := Cells.ext hB13 l4_ C4_
 replace l4_ := Nat.lt_of_lt_of_le l4_ hB13.size
 replace C6_ := Cells.ext hB13 l6_ C6_
 replace l6_ := Nat.lt_of_lt_of_le l6_ hB13.size
 replace C8_ := Cells.ext hB13 l8_ C8_
 replace l8_ := Nat.lt_of_lt_of_le l8_ hB13.size
 replace hV := hV.trans (hB13.mono hV.size)
 go_wp2_with (with_reducible refine ld rfl 30 _ rfl (w7.heap.size) _ rfl d7 C8_ _ Tryz.underlying30 hlb5.out ?_)
 have bd14 := cprog_tcnt x0
 refine (markMachine_c ((cprog x0).1) _ _ _ _ O7.out n7 (by omega) (by omega)).mono ?_
 rintro e w14 ⟨rfl, o7, hk14⟩
 have z14 : w13.heap.size ≤ w14.heap.size := hk14.size
 replace C0 := Cells.mono (hk14.other _ l0 (fun q => by have := r7 _ q; omega)) C0
 replace l0 := Nat.lt_of_lt_of_le l0 hk14.size
 replace C4_ := Cells.mono (hk14.other _ l4_ (fun q => by have := r7 _ q; omega)) C4_
 replace l4_ := Nat.lt_of_lt_of_le l4_ hk14.size
 replace C6_ := Cells.mono (hk14.other _ l6_ (fun q => by have := r7 _ q; omega)) C6_
 replace l6_ := Nat.lt_of_lt_of_le l6_ hk14.size
 replace C8_ := Cells.mono (hk14.other _ l8_ (fun q => by have := r7 _ q; omega)) C8_
 replace l8_ := Nat.lt_of_lt_of_le l8_ hk14.size
 replace O3 := Lib.hid (O3.out.kept hk14 (fun x hx q => by have := r3 x hx; have := r7 x q; omega))
 replace O5 := Lib.hid (O5.out.kept hk14 (fun x hx q => by have := r5 x hx; have := r7 x q; omega))
 replace hV := below_kept hV hk14 (fun x hx => by have := r7 x hx; omega)
 replace O7 := Lib.hid o7; clear o7
 go_wp2_with (with_reducible refine ld rfl 30 _ rfl (w7.heap.size) _ rfl d7 C8_ _ Tryz.underlying30 hlb5.out ?_)
 have bd15 := cprog_tcnt x0
 refine (heldMachine_c ((cprog x0).1) _ _ (fun _ h => h) _ _ (repOf O7.out) (by omega) (by omega)).mono ?_
 rintro e w15 ⟨rfl, hB15⟩
 have z15 : w14.heap.size ≤ w15.heap.size := by have := hB15.size; (try simp at this); omega
 replace O3 := Lib.hid (O3.out.below hB15)
 replace O5 := Lib.hid (O5.out.below hB15)
 replace O7 := Lib.hid (O7.out.below hB15)
 replace C0 := Cells.ext hB15 l0 C0
 replace l0 := Nat.lt_of_lt_of_le l0 hB15.size
 replace C4_ := Cells.ext hB15 l4_ C4_
 replace l4_ := Nat.lt_of_lt_of_le l4_ hB15.size
 replace C6_ := Cells.ext hB15 l6_ C6_
 replace l6_ := Nat.lt_of_lt_of_le l6_ hB15.size
 replace C8_ := Cells.ext hB15 l8_ C8_
 replace l8_ := Nat.lt_of_lt_of_le l8_ hB15.size
 replace hV := hV.trans (hB15.mono hV.size)
 have hq12 : ¬ (((1 + (tcnt ((cprog x0).1).enc : Nat)) : Int) < 0) := by omega
 go_wp2_with (with_reducible refine ld rfl 25 _ rfl (w.heap.size) _ rfl c0 C0 _ Tryz.underlying25 hlb1.out ?_)
 refine (toMonoProgram_c x0 (by omega) _ _ (fun _ h => h) _ (h0.step hV)).mono ?_
 rintro e w16 ⟨d16, b16, rfl, o16, n16, r16, hB16⟩
 have z16 : w15.heap.size ≤ w16.heap.size := by have := hB16.size; (try simp at this); omega
 replace r16 : ∀ x ∈ b16, w15.heap.size ≤ x ∧ x < w16.heap.size := by intro x hx; have := r16 x hx; (try simp at this); omega
 have O16 := Lib.hid o16; clear o16
 replace O3 := Lib.hid (O3.out.below hB16)
 replace O5 := Lib.hid (O5.out.below hB16)
 replace O7 := Lib.hid (O7.out.below hB16)
 replace C0 := Cells.ext hB16 l0 C0
 replace l0 := Nat.lt_of_lt_of_le l0 hB16.size
 replace C4_ := Cells.ext hB16 l4_ C4_
 replace l4_ := Nat.lt_of_lt_of_le l4_ hB16.size
 replace C6_ := Cells.ext hB16 l6_ C6_
 replace l6_ := Nat.lt_of_lt_of_le l6_ hB16.size
 replace C8_ := Cells.ext hB16 l8_ C8_
 replace l8_ := Nat.lt_of_lt_of_le l8_ hB16.size
 replace hV := hV.trans (hB16.mono hV.size)
 go_wp2_with fail
 refine (implCompileProgram_c x0 (by omega) _ _ (fun _ h => h) _ (repOf O16.out)).mono ?_
 rintro e w17 ⟨d17, b17, rfl, o17, n17, r17, hB17⟩
 have z17 : w16.heap.size ≤ w17.heap.size := by have := hB17.size; (try simp at this); omega
 replace r17 : ∀ x ∈ b17, w16.heap.size ≤ x ∧ x < w17.heap.size := by intro x hx; have := r17 x hx; (try simp at this); omega
 have O17 := Lib.hid o17; clear o17
 replace O3 := Lib.hid (O3.out.below hB17)
 replace O5 := Lib.hid (O5.out.below hB17)
 replace O7 := Lib.hid (O7.out.below hB17)
 replace O16 := Lib.hid (O16.out.below hB17)
 replace C0 := Cells.ext hB17 l0 C0
 replace l0 := Nat.lt_of_lt_of_le l0 hB17.size
 replace C4_ := Cells.ext hB17 l4_ C4_
 replace l4_ := Nat.lt_of_lt_of_le l4_ hB17.size
 replace C6_ := Cells.ext hB17 l6_ C6_
 replace l6_ := Nat.lt_of_lt_of_le l6_ hB17.size
 replace C8_ := Cells.ext hB17 l8_ C8_
 replace l8_ := Nat.lt_of_lt_of_le l8_ hB17.size
 replace hV := hV.trans (hB17.mono hV.size)
 have hl18 := Lib.hid ((Rep.length _ _ (repOf O17.out)).trans (TMachine.width _))
 have hn18 := Lib.hid (Rep.one _ _ (repOf O17.out))
 go_wp2_with (with_reducible refine stA rfl 30 _ _ rfl w17.heap.size 0 rfl d17 rfl (by rw [hl18.out]; exact infoL30) hn18.out _ 30 (alloc_self _ _) (by rw [hl18.out]; decide) ?_)
 intro w18 hst18
 have hB18 := hst18.below ((Below.refl _ _).alloc (Nat.le_refl _) _) (Nat.le_refl _)
 have C18_ := hst18.at_
 have l18_ : w17.heap.size < w18.heap.size := by rw [hst18.size]; simp
 have m18_ : w17.heap.size < w18.heap.size := l18_
 clear hst18 hn18
 replace O3 := Lib.hid (O3.out.below hB18)
 replace O5 := Lib.hid (O5.out.below hB18)
 replace O7 := Lib.hid (O7.out.below hB18)
 replace O16 := Lib.hid (O16.out.below hB18)
 replace O17 := Lib.hid (O17.out.below hB18)
 replace C0 := Cells.ext hB18 l0 C0
 replace l0 := Nat.lt_of_lt_of_le l0 hB18.size
 replace C4_ := Cells.ext hB18 l4_ C4_
 replace l4_ := Nat.lt_of_lt_of_le l4_ hB18.size
 replace C6_ := Cells.ext hB18 l6_ C6_
 replace l6_ := Nat.lt_of_lt_of_le l6_ hB18.size
 replace C8_ := Cells.ext hB18 l8_ C8_
 replace l8_ := Nat.lt_of_lt_of_le l8_ hB18.size
 replace hV := hV.trans (hB18.mono hV.size)
 have hlb13 := Lib.hid (show (Tryz.prog.info? 30).map (·.size) = some (d17).length from (by rw [Rep.length _ _ (repOf O17.out), TMachine.width]; exact infoL30))
 clear O16 n16 r16
 go_wp2_with (first | (with_reducible refine ld rfl 30 _ rfl (w17.heap.size) _ rfl d17 C18_ _ Tryz.underlying30 hlb13.out ?_) | (with_reducible refine ld rfl 30 _ rfl (w3.heap.size) _ rfl d3 C4_ _ Tryz.underlying30 hlb3.out ?_))
 refine (eqMachine_c ((cprog x0).1) ((cprog x0).1) _ _ (fun _ h => h) _ _ (repOf O17.out) (repOf O3.out)).mono ?_
 rintro e w19 ⟨rfl, hB19⟩
 rw [deq_eq rfl]
 have z19 : w18.heap.size ≤ w19.heap.size := by have := hB19.size; (try simp at this); omega
 replace O3 := Lib.hid (O3.out.below hB19)
 replace O5 := Lib.hid (O5.out.below hB19)
 replace O7 := Lib.hid (O7.out.below hB19)
 replace O17 := Lib.hid (O17.out.below hB19)
 replace C0 := Cells.ext hB19 l0 C0
 replace l0 := Nat.lt_of_lt_of_le l0 hB19.size
 replace C4_ := Cells.ext hB19 l4_ C4_
 replace l4_ := Nat.lt_of_lt_of_le l4_ hB19.size
 replace C6_ := Cells.ext hB19 l6_ C6_
 replace l6_ := Nat.lt_of_lt_of_le l6_ hB19.size
 replace C8_ := Cells.ext hB19 l8_ C8_
 replace l8_ := Nat.lt_of_lt_of_le l8_ hB19.size
 replace C18_ := Cells.ext hB19 l18_ C18_
 replace l18_ := Nat.lt_of_lt_of_le l18_ hB19.size
 replace hV := hV.trans (hB19.mono hV.size)
 go_wp2_with (with_reducible refine ld rfl 30 _ rfl (w7.heap.size) _ rfl d7 C8_ _ Tryz.underlying30 hlb5.out ?_)
 have bd20 := cprog_tcnt x0
 refine (heldMachine_c ((cprog x0).1) _ _ (fun _ h => h) _ _ (repOf O7.out) (by omega) (by omega)).mono ?_
 rintro e w20 ⟨rfl, hB20⟩
 have z20 : w19.heap.size ≤ w20.heap.size := by have := hB20.size; (try simp at this); omega
 replace O3 := Lib.hid (O3.out.below hB20)
 replace O5 := Lib.hid (O5.out.below hB20)
 replace O7 := Lib.hid (O7.out.below hB20)
 replace O17 := Lib.hid (O17.out.below hB20)
 replace C0 := Cells.ext hB20 l0 C0
 replace l0 := Nat.lt_of_lt_of_le l0 hB20.size
 replace C4_ := Cells.ext hB20 l4_ C4_
 replace l4_ := Nat.lt_of_lt_of_le l4_ hB20.size
 replace C6_ := Cells.ext hB20 l6_ C6_
 replace l6_ := Nat.lt_of_lt_of_le l6_ hB20.size
 replace C8_ := Cells.ext hB20 l8_ C8_
 replace l8_ := Nat.lt_of_lt_of_le l8_ hB20.size
 replace C18_ := Cells.ext hB20 l18_ C18_
 replace l18_ := Nat.lt_of_lt_of_le l18_ hB20.size
 replace hV := hV.trans (hB20.mono hV.size)
 have hq14 : ¬ (((1 + (tcnt ((cprog x0).1).enc : Nat)) : Int) < 0) := by omega
 go_wp2
 go_ret
 exact ⟨rfl, hV⟩
end Go.Proofs.YtkmiecgcibjkbaaGreat.fnExactCompileProgram
