/- The functions sz.. of the laws: each takes a value's size from what is left of the bound. Conditions: what is left is from 0 to 1048576. -/
import Derived.Test.YtlgkplkfmcjmaaaTypes
namespace Go.Proofs.Ytlgkplkfmcjmaaa
open Go.RowKit
set_option maxRecDepth 100000 in
set_option maxHeartbeats 1000000 in
theorem szInstr_c (x : TInstr) : ∀ (w : World) (K : Nat → Prop) (_ : ∀ b, K b → b < w.heap.size) (cs : List Value) (_ : Rep w K x.enc cs) (left : Int) (_ : 0 ≤ left) (_ : left ≤ 1048576),
    Calls Try.prog 13 #[.agg cs.toArray, .int .i64 left] w fun e w' => e = .returned (.int .i64 (szr x.sz left)) ∧ Below w.heap.size w w' := by
  intro w K hK cs h left h0 h1
  obtain ⟨rfl, hOp, hA, hB, hTrait, hName⟩ := TInstr.opn h
  clear h
  clear hOp
  clear hA
  clear hB
  unfold maxLen at hTrait
  unfold maxLen at hName
  have hW : Below w.heap.size w (w.alloc (.cells #[.int .i64 x.fOp, .int .i64 x.fA, .int .i64 x.fB, .string x.fTrait, .string x.fName] 38)) := (Below.refl _ _).alloc (Nat.le_refl _) _
  have hx : Below (w.heap.size + 1) (w.alloc (.cells #[.int .i64 x.fOp, .int .i64 x.fA, .int .i64 x.fB, .string x.fTrait, .string x.fName] 38)) (w.alloc (.cells #[.int .i64 x.fOp, .int .i64 x.fA, .int .i64 x.fB, .string x.fTrait, .string x.fName] 38)) := Below.refl _ _
  go_enter Try.func13, Try.ntmps13
  by_cases g0 : ((x.fTrait.size : Nat) : Int) ≤ left
  · skip
    by_cases g1 : ((x.fName.size : Nat) : Int) ≤ left - ((x.fTrait.size : Nat) : Int)
    · skip
      go_wp2
      go_ret
      exact ⟨ret_int (by rw [TInstr.sz_eq]; unfold szr; (repeat' split) <;> omega), hW⟩
    · go_wp2
      go_ret
      exact ⟨ret_int (by rw [TInstr.sz_eq]; unfold szr; (repeat' split) <;> omega), hW⟩
  · go_wp2
    go_ret
    exact ⟨ret_int (by rw [TInstr.sz_eq]; unfold szr; (repeat' split) <;> omega), hW⟩
theorem infoS38 : (Try.prog.info? 38).map (·.size) = some 5 := by kernel_rfl
set_option maxRecDepth 100000 in
set_option maxHeartbeats 1000000 in
theorem szInstrS_c (l : List TInstr) : ∀ (w : World) (K : Nat → Prop) (_ : ∀ b, K b → b < w.heap.size) (v : Value) (_ : Rep w K (.sl (l.map TInstr.enc)) [v]) (left : Int) (_ : 0 ≤ left) (_ : left ≤ 1048576),
    Calls Try.prog 9 #[v, .int .i64 left] w fun e w' => e = .returned (.int .i64 (szr (szs TInstr.sz l) left)) ∧ Below w.heap.size w w' := by
  intro w K hK v h left h0 h1
  obtain ⟨a, cap, rfl, hc, hm, -, hE⟩ := open_sl TInstr.width h
  unfold maxLen at hm
  clear h
  by_cases h2 : (l.length : Int) ≤ left
  · have Hg : Hid (szr (szL TInstr.sz (l.drop 0)) (left - l.length) = szr (szs TInstr.sz l) left) := by
      simp only [Hid, szr, szs, List.drop_zero]; (repeat' split) <;> omega
    go_enter Try.func9, Try.ntmps9
    go_wp2
    go_loopw [1, 5] (fun t i wr => ∃ (k : Nat) (lf : Int), k ≤ l.length ∧ 0 ≤ lf ∧ lf ≤ 1048576 ∧ i = .int .i64 k ∧ t = .int .i64 lf ∧ Hid (szr (szL TInstr.sz (l.drop k)) lf = szr (szs TInstr.sz l) left) ∧ Below w.heap.size w wr) (fun _ i _ => l.length - (intOf i).toNat)
    case atStart => exact ⟨0, _, Nat.zero_le _, by omega, by omega, rfl, rfl, Hg, Below.refl _ _⟩
    case round =>
      clear Hg
      obtain ⟨k, lf, hk, hl0, hl1, rfl, rfl, Hs, hB⟩ := hrel
      by_cases hlt : k < l.length
      · obtain ⟨b, off, rfl, hKb, cs, hcs, hr⟩ := hE k hlt
        have hr' := Rep.ext hB hK hr
        have hcs' := hcs.ext hB (hK b hKb)
        have hK' : ∀ b, K b → b < wr.heap.size := fun b h => Nat.lt_of_lt_of_le (hK b h) hB.size
        have Hd : Hid (l.drop k = l[k] :: l.drop (k + 1)) := List.drop_eq_getElem_cons hlt
        clear hE hcs hr
        have hi : (Try.prog.info? 38).map (·.size) = some cs.length := by rw [Rep.length _ _ hr', TInstr.width]; exact infoS38
        have hmem : l[k] ∈ l := List.getElem_mem hlt
        generalize l[k] = x at *
        go_wp2_with (with_reducible refine ld rfl 38 _ rfl b _ rfl cs hcs' _ Try.underlying38 hi ?_)
        refine (szInstr_c x _ K hK' _ hr' lf hl0 hl1).mono ?_
        rintro e w1 ⟨rfl, hB1⟩
        have hB2 := hB.trans (hB1.mono hB.size)
        by_cases h3 : (x.sz : Int) ≤ lf
        · rw [szr_le h3]
          go_wp2
          go_roundw
          case rel =>
            refine ⟨k + 1, lf - (x.sz : Int), hlt, by omega, by omega, by go_num, rfl, ?_, hB2⟩
            have e := Hs.out
            rw [Hd.out] at e
            unfold Hid
            rw [← e]
            simp only [szr, szL]
            (repeat' split) <;> omega
          case measure => simp [intOf]; omega
        · rw [szr_gt h3]
          have e := Hs.out
          rw [Hd.out] at e
          have hf : szr (szs TInstr.sz l) left = -1 := by
            rw [← e]; simp only [szr, szL]; (repeat' split) <;> omega
          have Hf := Lib.hid hf
          clear hf e
          go_wp2
          go_ret
          exact ⟨by rw [Hf.out]; rfl, hB2⟩
      · obtain rfl : k = l.length := by omega
        go_wp2
        go_ret
        refine ⟨?_, hB⟩
        rw [← Hs.out]
        simp [szr, szL, hl0]
  · have Hf : Hid (szr (szs TInstr.sz l) left = -1) := by
      simp only [Hid, szr, szs]; (repeat' split) <;> omega
    go_enter Try.func9, Try.ntmps9
    go_wp2
    go_ret
    exact ⟨by rw [Hf.out]; rfl, Below.refl _ _⟩
set_option maxRecDepth 100000 in
set_option maxHeartbeats 1000000 in
theorem szCode_c (x : TCode) : ∀ (w : World) (K : Nat → Prop) (_ : ∀ b, K b → b < w.heap.size) (cs : List Value) (_ : Rep w K x.enc cs) (left : Int) (_ : 0 ≤ left) (_ : left ≤ 1048576),
    Calls Try.prog 4 #[.agg cs.toArray, .int .i64 left] w fun e w' => e = .returned (.int .i64 (szr x.sz left)) ∧ Below w.heap.size w w' := by
  intro w K hK cs h left h0 h1
  obtain ⟨c1, rfl, hParams, hList⟩ := TCode.opn h
  clear h
  clear hParams
  have hW : Below w.heap.size w (w.alloc (.cells #[.int .i64 x.fParams, c1] 24)) := (Below.refl _ _).alloc (Nat.le_refl _) _
  have hx : Below (w.heap.size + 1) (w.alloc (.cells #[.int .i64 x.fParams, c1] 24)) (w.alloc (.cells #[.int .i64 x.fParams, c1] 24)) := Below.refl _ _
  go_enter Try.func4, Try.ntmps4
  go_wp2_with fail
  refine (szInstrS_c x.fList _ K (fun b hb => Nat.lt_of_lt_of_le (hK b hb) hW.size) _ (Rep.ext hW hK hList) _ (by omega) (by omega)).mono ?_
  rintro e w0 ⟨rfl, hB0⟩
  have hx0 : Below (w.heap.size + 1) (w.alloc (.cells #[.int .i64 x.fParams, c1] 24)) w0 := hx.trans (hB0.mono (by have := hx.size; simp at this ⊢ <;> omega))
  have hb0 : Below w.heap.size w w0 := hW.trans (hx0.mono (Nat.le_succ _))
  have hc0 := (bcell hx0).1
  by_cases g0 : ((szs TInstr.sz x.fList : Nat) : Int) ≤ left
  · rw [szr_le g0]
    go_wp2
    go_ret
    exact ⟨ret_int (by rw [TCode.sz_eq]; unfold szr; (repeat' split) <;> omega), hb0⟩
  · rw [szr_gt g0]
    go_wp2
    go_ret
    exact ⟨ret_int (by rw [TCode.sz_eq]; unfold szr; (repeat' split) <;> omega), hb0⟩
end Go.Proofs.Ytlgkplkfmcjmaaa
