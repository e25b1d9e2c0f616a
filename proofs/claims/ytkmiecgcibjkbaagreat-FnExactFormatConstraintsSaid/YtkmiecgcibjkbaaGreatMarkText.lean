/- The text of a mark, walked. Condition: the number is at most 2 ^ 62. -/
import Derived.Test.YtkmiecgcibjkbaaGreatMark
import Derived.Laws.BytesArg
namespace Go.Proofs.YtkmiecgcibjkbaaGreat
open Go.RowKit
theorem digs_zero (o : List UInt8) : digs 0 o = o := by rw [digs]; simp
theorem digs_pos {k : Nat} (h : 0 < k) (o : List UInt8) : digs k o = digs (k / 10) (UInt8.ofNat (48 + k % 10) :: o) := by
  rw [digs, dif_neg (by omega)]
theorem cons_bytes (x : Int) (o : List UInt8) : strOfNums [x] ++ (⟨o.toArray⟩ : ByteArray) = ⟨(UInt8.ofNat x.toNat :: o).toArray⟩ := by
  apply ByteArray.ext
  simp [strOfNums, ByteArray.data_append]
theorem m_bytes (o : List UInt8) : (⟨#[109]⟩ : ByteArray) ++ ⟨o.toArray⟩ = ⟨(109 :: o).toArray⟩ := by
  apply ByteArray.ext
  simp [ByteArray.data_append]
theorem pow_step {m n : Nat} {x : UInt8} {q : List UInt8} (h : m * 10 ^ q.length ≤ n) : m / 10 * 10 ^ (x :: q).length ≤ n := by
  have h3 : m / 10 * 10 ≤ m := by omega
  have h4 : m / 10 * 10 ^ (x :: q).length = m / 10 * 10 * 10 ^ q.length := by rw [List.length_cons, Nat.pow_succ, Nat.mul_assoc, Nat.mul_comm (10 ^ q.length) 10]
  rw [h4]
  exact Nat.le_trans (Nat.mul_le_mul_right _ h3) h
theorem len_step {m n : Nat} {x : UInt8} {q : List UInt8} (h : m * 10 ^ q.length ≤ n) (h1 : 0 < m) (hn : n ≤ 4611686018427387904) (hq : q.length ≤ 19) : (x :: q).length ≤ 19 := by
  simp only [List.length_cons]
  rcases Nat.lt_or_ge q.length 19 with h4 | h4
  · omega
  · exfalso
    have h5 : 10 ^ 19 ≤ 10 ^ q.length := Nat.pow_le_pow_right (by decide) h4
    have h6 : 1 * 10 ^ q.length ≤ m * 10 ^ q.length := Nat.mul_le_mul_right _ h1
    omega
set_option maxRecDepth 100000 in
set_option maxHeartbeats 1000000 in
theorem markText_c (k : Int) (hk : k ≤ 4611686018427387904) : ∀ (w : World),
    Calls Tryz.prog 68 #[.int .i64 k] w fun e w' => e = .returned (.string (mtext k)) ∧ Below w.heap.size w w' := by
  intro w
  rcases (show k ≤ 0 ∨ 0 < k by omega) with h0 | h0
  · go_enter Tryz.func68, Tryz.ntmps68
    go_wp2
    go_ret
    refine ⟨?_, Below.refl _ _⟩
    rw [mtext, if_pos h0]
    rfl
  · obtain ⟨n, rfl⟩ := Int.eq_ofNat_of_zero_le (Int.le_of_lt h0)
    go_enter Tryz.func68, Tryz.ntmps68
    go_wp2
    have Hg : Hid (digs n [] = digs n []) := rfl
    go_loopw [0, 3] (fun t o wr => ∃ (m : Nat) (q : List UInt8), t = .int .i64 m ∧ o = .string ⟨q.toArray⟩ ∧ Hid (digs m q = digs n []) ∧ m ≤ n ∧ Hid (m * 10 ^ q.length ≤ n) ∧ q.length ≤ 19 ∧ Below w.heap.size w wr) (fun t _ _ => (intOf t).toNat)
    case atStart => exact ⟨n, [], rfl, rfl, Hg, Nat.le_refl _, by show n * 10 ^ 0 ≤ n; omega, by simp, Below.refl _ _⟩
    case round =>
      clear Hg
      obtain ⟨m, q, rfl, rfl, Hs, hm, Hp, hq, hB⟩ := hrel
      by_cases h1 : 0 < m
      · have kc := fun (W : World) (b : Nat) (h : W.cell? ⟨b, 0, none⟩ = some (.int .u8 (48 + (m : Int) % 10))) => run_convert_bytes_arg (P := Tryz.prog) W 216 5 Tryz.underlying216 Tryz.underlying5 b 0 1 1 [48 + (m : Int) % 10] rfl (fun i hi => by obtain rfl : i = 0 := (by omega); simpa using h) 9 Tryz.underlying9
        have hm1 : (m : Int) ≤ 4611686018427387904 := by omega
        have hx : UInt8.ofNat (48 + (m : Int) % 10).toNat = UInt8.ofNat (48 + m % 10) := by congr 1
        have hz : (strOfNums [48 + (m : Int) % 10]).size = 1 := strOfNums_size _
        go_wp2
        go_roundw
        case rel =>
          refine ⟨m / 10, UInt8.ofNat (48 + m % 10) :: q, by go_num, ?_, ?_, by omega, ?_, ?_, hB.alloc hB.size _⟩
          · rw [cons_bytes, hx]
          · show _ = _
            rw [← digs_pos h1]
            exact Hs.out
          · exact pow_step Hp.out
          · exact len_step Hp.out h1 (by omega) hq
        case measure => simp [intOf]; omega
      · obtain rfl : m = 0 := by omega
        have e := Hs.out
        rw [digs_zero] at e
        have E := Lib.hid e
        clear e
        go_wp2
        go_ret
        refine ⟨?_, hB⟩
        rw [m_bytes, E.out, mtext, if_neg (by omega)]
        rfl
end Go.Proofs.YtkmiecgcibjkbaaGreat
