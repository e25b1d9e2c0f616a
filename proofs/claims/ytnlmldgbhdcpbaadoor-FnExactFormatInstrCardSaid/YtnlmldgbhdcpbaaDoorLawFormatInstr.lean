/- The law FnExactFormatInstr, walked: it answers true and leaves all that was there as it was. No condition. -/
import Derived.Test.YtnlmldgbhdcpbaaDoorOpen
import Derived.Test.YtnlmldgbhdcpbaaDoorSz
import Derived.Test.YtnlmldgbhdcpbaaDoorTo
import Derived.Test.YtnlmldgbhdcpbaaDoorGrow
import Derived.Test.YtnlmldgbhdcpbaaDoorFormatInstr
namespace Go.Proofs.YtnlmldgbhdcpbaaDoor.fnExactFormatInstr
open Go.RowKit
theorem alloc_self (w : World) (o : Obj) : (w.alloc o).heap[w.heap.size]? = some o := by
  show (w.heap.push o)[w.heap.size]? = some o
  simp
theorem Cells.new (w : World) (cs : List Value) (t : TypeId) {b : Nat} (hb : b = w.heap.size) : Cells (w.alloc (.cells cs.toArray t)) b 0 cs := by
  subst hb
  intro j u hu
  rw [cell_of_row _ _ _ _ t (0, 0) (alloc_self w _)]
  simpa using hu
theorem repOf {w : World} {d : D} {cs : List Value} {bs : List Nat} (h : Own w d cs bs) : Rep w (Live w) d cs := Own.rep _ _ _ h (fun b hb => Own.lt _ _ _ h b hb)
theorem below_kept {w cur w' : World} {bs : List Nat} (h : Below w.heap.size w cur) (k : Kept cur w' bs) (hb : ∀ b ∈ bs, w.heap.size ≤ b) : Below w.heap.size w w' :=
  ⟨k.os.trans h.os, k.tape.trans h.tape, k.output.trans h.output, Nat.le_trans h.size k.size, fun b hl => (k.other b (Nat.lt_of_lt_of_le hl h.size) (fun q => by have := hb b q; omega)).trans (h.block b hl)⟩
/-- a struct is loaded by an operation that has a guard, which holds -/
theorem ldg {P : Program} {w : World} {ops : Array Oper} {rest : List Oper} {o : Oper} {a : Act} {Q : Exit → Act → World → Prop} (hw : Region.wanted o (yielded ops a.tmps) = true) (ty : TypeId) (x : Operand) (ho : o.op = .load ty x)
    (b off : Nat) (hx : a.eval x = .pointer (some ⟨b, off, none⟩)) (cs : List Value) (hc : Cells w b off cs) (fs : Array Field) (hu : P.underlying ty = some (.struct fs)) (hi : (P.info? ty).map (·.size) = some cs.length)
    (h : wpList P ops Q rest (a.put o.dst (.agg cs.toArray)) w) : wpList P ops Q (o :: rest) a w := by
  have hv := run_loadVar (P := P) ty b off cs hc fs hu hi
  unfold wpList
  rw [if_pos hw]
  left
  unfold Oper.wp execOp
  simp only [ho, hx, Instr.loadAt, Instr.sureAddr, Sem.run_bind, Sem.run_pure, Result.andThen_ok, hv]
  exact h
theorem infoL23 : (Tryd.prog.info? 23).map (·.size) = some 5 := by kernel_rfl
set_option maxRecDepth 100000 in
set_option maxHeartbeats 4000000 in
theorem law_c (x0 : TInstr) : ∀ (w : World) (_ : Tab w) (c0 : List Value) (_ : Rep w (Live w) x0.enc c0),
    Calls Tryd.prog 3 #[.agg c0.toArray] w fun e w' => e = .returned (.bool true) ∧ Below w.heap.size w w' := by
  intro w ht c0 h0
  have hV : Below w.heap.size w (w.alloc (.cells c0.toArray 23)) := ((Below.refl _ _).alloc (Nat.le_refl _) _)
  have C0 : Cells (w.alloc (.cells c0.toArray 23)) (w.heap.size) 0 c0 := Cells.new _ _ _ (by simp)
  have l0 : w.heap.size < (w.alloc (.cells c0.toArray 23)).heap.size := by simp <;> omega
  have hlb1 := Lib.hid (show (Tryd.prog.info? 23).map (·.size) = some (c0).length from (by rw [Rep.length _ _ (h0.step hV), TInstr.width]; exact infoL23))
  go_enter Tryd.func3, Tryd.ntmps3
  go_wp2_with (with_reducible refine ld rfl 23 _ rfl (w.heap.size) _ rfl c0 C0 _ Tryd.underlying23 hlb1.out ?_)
  refine (szInstr_c x0 _ _ (fun _ h => h) _ (h0.step hV) (1048576) (by omega) (by omega)).mono ?_
  rintro e w1 ⟨rfl, hB1⟩
  have z1 : w.heap.size + 1 ≤ w1.heap.size := by have := hB1.size; (try simp at this); omega
  replace C0 := Cells.ext hB1 l0 C0
  replace l0 := Nat.lt_of_lt_of_le l0 hB1.size
  replace hV := hV.trans (hB1.mono hV.size)
  rcases (show 1048576 < ((x0.sz : Nat) : Int) ∨ ((x0.sz : Nat) : Int) ≤ 1048576 by omega) with zz2 | zz2
  · rw [szr_gt (by omega)]
    go_wp2
    go_ret
    exact ⟨rfl, hV⟩
  rw [szr_le zz2]
  go_wp2_with (with_reducible refine ld rfl 23 _ rfl (w.heap.size) _ rfl c0 C0 _ Tryd.underlying23 hlb1.out ?_)
  refine (toInstr_c x0 (by omega) _ _ (fun _ h => h) _ (h0.step hV)).mono ?_
  rintro e w2 ⟨d2, b2, rfl, o2, n2, r2, hB2⟩
  have z2 : w1.heap.size ≤ w2.heap.size := by have := hB2.size; (try simp at this); omega
  replace r2 : ∀ x ∈ b2, w1.heap.size ≤ x ∧ x < w2.heap.size := by intro x hx; have := r2 x hx; (try simp at this); omega
  have O2 := Lib.hid o2; clear o2
  replace C0 := Cells.ext hB2 l0 C0
  replace l0 := Nat.lt_of_lt_of_le l0 hB2.size
  replace hV := hV.trans (hB2.mono hV.size)
  go_wp2_with fail
  refine (specFormatInstr_c x0 (by omega) _ _ (fun _ h => h) _ (repOf O2.out)).mono ?_
  rintro e w3 ⟨rfl, hB3⟩
  have z3 : w2.heap.size ≤ w3.heap.size := by have := hB3.size; (try simp at this); omega
  replace O2 := Lib.hid (O2.out.below hB3)
  replace C0 := Cells.ext hB3 l0 C0
  replace l0 := Nat.lt_of_lt_of_le l0 hB3.size
  replace hV := hV.trans (hB3.mono hV.size)
  clear O2 n2 r2
  go_wp2_with (with_reducible refine ld rfl 23 _ rfl (w.heap.size) _ rfl c0 C0 _ Tryd.underlying23 hlb1.out ?_)
  refine (toInstr_c x0 (by omega) _ _ (fun _ h => h) _ (h0.step hV)).mono ?_
  rintro e w4 ⟨d4, b4, rfl, o4, n4, r4, hB4⟩
  have z4 : w3.heap.size ≤ w4.heap.size := by have := hB4.size; (try simp at this); omega
  replace r4 : ∀ x ∈ b4, w3.heap.size ≤ x ∧ x < w4.heap.size := by intro x hx; have := r4 x hx; (try simp at this); omega
  have O4 := Lib.hid o4; clear o4
  replace C0 := Cells.ext hB4 l0 C0
  replace l0 := Nat.lt_of_lt_of_le l0 hB4.size
  replace hV := hV.trans (hB4.mono hV.size)
  go_wp2_with fail
  refine (implFormatInstr_c x0 (by omega) _ (Tab.below ht hV) _ (fun _ h => h) _ (repOf O4.out)).mono ?_
  rintro e w5 ⟨rfl, hB5⟩
  have z5 : w4.heap.size ≤ w5.heap.size := by have := hB5.size; (try simp at this); omega
  replace O4 := Lib.hid (O4.out.below hB5)
  replace C0 := Cells.ext hB5 l0 C0
  replace l0 := Nat.lt_of_lt_of_le l0 hB5.size
  replace hV := hV.trans (hB5.mono hV.size)
  clear O4 n4 r4
  go_wp2
  go_ret
  exact ⟨rfl, hV⟩
end Go.Proofs.YtnlmldgbhdcpbaaDoor.fnExactFormatInstr
