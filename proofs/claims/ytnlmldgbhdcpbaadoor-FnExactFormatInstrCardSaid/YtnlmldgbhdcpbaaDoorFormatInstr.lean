/- The two functions FormatInstr and what they call of the program's own, each walked once. Condition: the trait's and the name's lengths are at most 1048576. -/
import Derived.Test.YtnlmldgbhdcpbaaDoorMark
import Derived.Test.YtnlmldgbhdcpbaaDoorShelf
import Derived.Laws.BytesArg
import Derived.Great.FillDense
import Derived.Lib.SmallJoins
import Derived.Great.BuildSlice
namespace Go.Proofs.YtnlmldgbhdcpbaaDoor
open Go.RowKit
theorem digs_zero (o : List UInt8) : digs 0 o = o := by rw [digs]; simp
theorem digs_pos {k : Nat} (h : 0 < k) (o : List UInt8) : digs k o = digs (k / 10) (UInt8.ofNat (48 + k % 10) :: o) := by
  rw [digs, dif_neg (by omega)]
theorem digs_dec (k : Nat) : ∀ (o : List UInt8), 0 < k → digs k o = Lib.decDigits k ++ o := by
  induction k using Nat.strongRecOn with
  | ind k ih =>
    intro o hk
    rw [digs_pos hk]
    by_cases h : k < 10
    · have h0 : k / 10 = 0 := by omega
      have h1 : k % 10 = k := by omega
      rw [h0, digs_zero, h1]
      rw [Lib.decDigits, dif_pos h]
      rfl
    · rw [ih (k / 10) (by omega) _ (by omega)]
      conv => rhs; rw [Lib.decDigits, dif_neg h]
      simp
def itoaB (n : Int) : ByteArray := ⟨(Lib.itoa n).toArray⟩
theorem itoaB_pos {k : Nat} (h : 0 < k) : itoaB (k : Int) = ⟨(digs k []).toArray⟩ := by
  unfold itoaB Lib.itoa
  rw [if_neg (by omega), digs_dec k [] h]
  simp
theorem itoaB_neg {k : Nat} (h : 0 < k) : itoaB (-(k : Int)) = ⟨(45 :: digs k []).toArray⟩ := by
  unfold itoaB Lib.itoa
  rw [if_pos (by omega), digs_dec k [] h]
  simp
theorem itoaB_zero : itoaB 0 = ⟨#[48]⟩ := by
  unfold itoaB Lib.itoa
  rw [if_neg (by omega), Lib.decDigits, dif_pos (by decide)]
  rfl
theorem cons_bytes (x : Int) (o : List UInt8) : strOfNums [x] ++ (⟨o.toArray⟩ : ByteArray) = ⟨(UInt8.ofNat x.toNat :: o).toArray⟩ := by
  apply ByteArray.ext
  simp [strOfNums, ByteArray.data_append]
theorem m_bytes (o : List UInt8) : (⟨#[45]⟩ : ByteArray) ++ ⟨o.toArray⟩ = ⟨(45 :: o).toArray⟩ := by
  apply ByteArray.ext
  simp [ByteArray.data_append]
theorem pow_step {m n : Nat} {x : UInt8} {q : List UInt8} (h : m * 10 ^ q.length ≤ n) : m / 10 * 10 ^ (x :: q).length ≤ n := by
  have h3 : m / 10 * 10 ≤ m := by omega
  have h4 : m / 10 * 10 ^ (x :: q).length = m / 10 * 10 * 10 ^ q.length := by rw [List.length_cons, Nat.pow_succ, Nat.mul_assoc, Nat.mul_comm (10 ^ q.length) 10]
  rw [h4]
  exact Nat.le_trans (Nat.mul_le_mul_right _ h3) h
theorem len_step {m n : Nat} {x : UInt8} {q : List UInt8} (h : m * 10 ^ q.length ≤ n) (h1 : 0 < m) (hn : n ≤ 9223372036854775808) (hq : q.length ≤ 19) : (x :: q).length ≤ 19 := by
  simp only [List.length_cons]
  rcases Nat.lt_or_ge q.length 19 with h4 | h4
  · omega
  · exfalso
    have h5 : 10 ^ 19 ≤ 10 ^ q.length := Nat.pow_le_pow_right (by decide) h4
    have h6 : 1 * 10 ^ q.length ≤ m * 10 ^ q.length := Nat.mul_le_mul_right _ h1
    omega
set_option maxRecDepth 100000 in
set_option maxHeartbeats 1000000 in
theorem specFormatInt_pos (n : Nat) (h0 : 0 < n) (hn : n ≤ 9223372036854775807) : ∀ (w : World),
    Calls Tryd.prog 9 #[.int .i64 (n : Int)] w fun e w' => e = .returned (.string (itoaB (n : Int))) ∧ Below w.heap.size w w' := by
  intro w
  rw [itoaB_pos h0]
  go_enter Tryd.func9, Tryd.ntmps9
  go_wp2
  have Hg : Hid (digs n [] = digs n []) := rfl
  go_loopw [0, 4] (fun t o wr => ∃ (m : Nat) (q : List UInt8), t = .int .i64 m ∧ o = .string ⟨q.toArray⟩ ∧ Hid (digs m q = digs n []) ∧ m ≤ n ∧ Hid (m * 10 ^ q.length ≤ n) ∧ q.length ≤ 19 ∧ Below w.heap.size w wr) (fun t _ _ => (intOf t).toNat)
  case atStart => exact ⟨n, [], rfl, rfl, Hg, Nat.le_refl _, by show n * 10 ^ 0 ≤ n; omega, by simp, Below.refl _ _⟩
  case round =>
    clear Hg
    obtain ⟨m, q, rfl, rfl, Hs, hm, Hp, hq, hB⟩ := hrel
    by_cases h1 : 0 < m
    · have kc := fun (W : World) (b : Nat) (h : W.cell? ⟨b, 0, none⟩ = some (.int .u8 (48 + (m : Int) % 10))) => run_convert_bytes_arg (P := Tryd.prog) W 33 5 Tryd.underlying33 Tryd.underlying5 b 0 1 1 [48 + (m : Int) % 10] rfl (fun i hi => by obtain rfl : i = 0 := (by omega); simpa using h) 9 Tryd.underlying9
      have hm1 : (m : Int) ≤ 9223372036854775807 := by omega
      have hx : UInt8.ofNat (48 + (m : Int) % 10).toNat = UInt8.ofNat (48 + m % 10) := by congr 1
      have hz : (strOfNums [48 + (m : Int) % 10]).size = 1 := strOfNums_size _
      go_wp2
      go_roundw
      case rel =>
        refine ⟨m / 10, UInt8.ofNat (48 + m % 10) :: q, by go_num, ?_, ?_, by omega, ?_, ?_, hB.alloc hB.size _⟩
        · rw [cons_bytes, hx]
        · show _ = _
          rw [← digs_pos h1]
          exact Hs.out
        · exact pow_step Hp.out
        · exact len_step Hp.out h1 (by omega) hq
      case measure => simp [intOf]; omega
    · obtain rfl : m = 0 := by omega
      have e := Hs.out
      rw [digs_zero] at e
      have E := Lib.hid e
      clear e
      go_wp2
      go_ret
      refine ⟨?_, hB⟩
      rw [E.out]
      rfl
set_option maxRecDepth 100000 in
set_option maxHeartbeats 1000000 in
theorem specFormatInt_neg (n : Nat) (h0 : 0 < n) (hn : n ≤ 9223372036854775808) : ∀ (w : World),
    Calls Tryd.prog 9 #[.int .i64 (-(n : Int))] w fun e w' => e = .returned (.string (itoaB (-(n : Int)))) ∧ Below w.heap.size w w' := by
  intro w
  rw [itoaB_neg h0]
  have hn0 : -(n : Int) < 0 := by omega
  have hn1 : ¬ (-(n : Int) = 0) := by omega
  go_enter Tryd.func9, Tryd.ntmps9
  go_wp2
  have Hg : Hid (digs n [] = digs n []) := rfl
  go_loopw [0, 4] (fun t o wr => ∃ (m : Nat) (q : List UInt8), t = .int .i64 (-(m : Int)) ∧ o = .string ⟨q.toArray⟩ ∧ Hid (digs m q = digs n []) ∧ m ≤ n ∧ Hid (m * 10 ^ q.length ≤ n) ∧ q.length ≤ 19 ∧ Below w.heap.size w wr) (fun t _ _ => (-(intOf t)).toNat)
  case atStart => exact ⟨n, [], rfl, rfl, Hg, Nat.le_refl _, by show n * 10 ^ 0 ≤ n; omega, by simp, Below.refl _ _⟩
  case round =>
    clear Hg
    obtain ⟨m, q, rfl, rfl, Hs, hm, Hp, hq, hB⟩ := hrel
    by_cases h1 : 0 < m
    · have hm1 : (m : Int) ≤ 9223372036854775808 := by omega
      have hd : (-(m : Int)).tdiv 10 = -((m : Int) / 10) := by rw [Int.neg_tdiv, Int.tdiv_eq_ediv_of_nonneg (by omega)]
      by_cases h2 : m % 10 = 0
      · have kc := fun (W : World) (b : Nat) (h : W.cell? ⟨b, 0, none⟩ = some (.int .u8 48)) => run_convert_bytes_arg (P := Tryd.prog) W 33 5 Tryd.underlying33 Tryd.underlying5 b 0 1 1 [48] rfl (fun i hi => by obtain rfl : i = 0 := (by omega); simpa using h) 9 Tryd.underlying9
        have hx : UInt8.ofNat (48 : Int).toNat = UInt8.ofNat (48 + m % 10) := by rw [h2]; rfl
        have hz : (strOfNums [48]).size = 1 := strOfNums_size _
        have hr : (-(m : Int)).tmod 10 = 0 := by rw [Int.neg_tmod, Int.tmod_eq_emod_of_nonneg (by omega)]; omega
        have Hx := Lib.hid hx
        clear hx h2
        go_wp2
        go_roundw
        case rel =>
          refine ⟨m / 10, UInt8.ofNat (48 + m % 10) :: q, congrArg (Value.int .i64) (by omega), ?_, ?_, by omega, ?_, ?_, hB.alloc hB.size _⟩
          · rw [cons_bytes, Hx.out]
          · show _ = _
            rw [← digs_pos h1]
            exact Hs.out
          · exact pow_step Hp.out
          · exact len_step Hp.out h1 (by omega) hq
        case measure => simp [intOf]; omega
      · have kc := fun (W : World) (b : Nat) (h : W.cell? ⟨b, 0, none⟩ = some (.int .u8 (48 + (m : Int) % 10))) => run_convert_bytes_arg (P := Tryd.prog) W 33 5 Tryd.underlying33 Tryd.underlying5 b 0 1 1 [48 + (m : Int) % 10] rfl (fun i hi => by obtain rfl : i = 0 := (by omega); simpa using h) 9 Tryd.underlying9
        have hx : UInt8.ofNat (48 + (m : Int) % 10).toNat = UInt8.ofNat (48 + m % 10) := by congr 1
        have hz : (strOfNums [48 + (m : Int) % 10]).size = 1 := strOfNums_size _
        have hr : (-(m : Int)).tmod 10 = -((m : Int) % 10) := by rw [Int.neg_tmod, Int.tmod_eq_emod_of_nonneg (by omega)]
        have hl : -((m : Int) % 10) < 0 := by omega
        go_wp2
        go_roundw
        case rel =>
          refine ⟨m / 10, UInt8.ofNat (48 + m % 10) :: q, congrArg (Value.int .i64) (by omega), ?_, ?_, by omega, ?_, ?_, hB.alloc hB.size _⟩
          · rw [cons_bytes, hx]
          · show _ = _
            rw [← digs_pos h1]
            exact Hs.out
          · exact pow_step Hp.out
          · exact len_step Hp.out h1 (by omega) hq
        case measure => simp [intOf]; omega
    · obtain rfl : m = 0 := by omega
      have e := Hs.out
      rw [digs_zero] at e
      have E := Lib.hid e
      clear e
      go_wp2
      go_ret
      refine ⟨?_, hB⟩
      rw [m_bytes, E.out]
      rfl
theorem specFormatInt_c (n : Int) (hn : InR n) : ∀ (w : World),
    Calls Tryd.prog 9 #[.int .i64 n] w fun e w' => e = .returned (.string (itoaB n)) ∧ Below w.heap.size w w' := by
  have h1 := hn.lo
  have h2 := hn.hi
  rcases (show n < 0 ∨ n = 0 ∨ 0 < n by omega) with h | h | h
  · obtain ⟨k, hk⟩ := Int.eq_ofNat_of_zero_le (show 0 ≤ -n by omega)
    obtain rfl : n = -(k : Int) := by omega
    exact specFormatInt_neg k (by omega) (by omega)
  · subst h
    intro w
    rw [itoaB_zero]
    go_enter Tryd.func9, Tryd.ntmps9
    go_wp2
    go_ret
    exact ⟨rfl, Below.refl _ _⟩
  · obtain ⟨k, rfl⟩ := Int.eq_ofNat_of_zero_le (Int.le_of_lt h)
    exact specFormatInt_pos k (by omega) (by omega)
/-- what the library's table holds -/
def Tab (w : World) : Prop := Lib.TabIs Tryd.prog w "internal/strconv.uint64pow10" .u64 Lib.pow10Tab
theorem Tab.below {w w' : World} (h : Tab w) (hB : Below w.heap.size w w') : Tab w' := Joins.tab_stays (by kernel_rfl : Tryd.prog.globalNamed "internal/strconv.uint64pow10" = some 0) h hB (Nat.le_refl _)
theorem grow_below (w : World) (k : Nat) (os : Array Obj) : Below w.heap.size w (Sort.grow (w.drewN k) os) := by
  refine ⟨rfl, rfl, rfl, ?_, ?_⟩
  · show w.heap.size ≤ (w.heap ++ os).size
    simp
  · intro b hb
    show (w.heap ++ os)[b]? = _
    rw [Array.getElem?_append_left hb]
theorem implFormatInt_c (n : Int) (hn : InR n) : ∀ (w : World) (_ : Tab w),
    Calls Tryd.prog 10 #[.int .i64 n] w fun e w' => e = .returned (.string (itoaB n)) ∧ Below w.heap.size w w' := by
  intro w ht
  go_enter Tryd.func10, Tryd.ntmps10
  go_wp2_with fail
  refine (Tryd.strconv_Itoa n hn.lo hn.hi w ht).mono ?_
  rintro e w' ⟨rfl, k, os, rfl⟩
  go_wp2
  go_ret
  exact ⟨rfl, grow_below _ _ _⟩
set_option maxHeartbeats 1000000 in
theorem specl1In_c (x lo hi : Int) (w : World) :
    Calls Tryd.prog 8 #[.int .i64 x, .int .i64 lo, .int .i64 hi] w fun e w' => e = .returned (.bool (decide (lo ≤ x ∧ x ≤ hi))) ∧ w' = w := by
  by_cases h1 : lo ≤ x
  · by_cases h2 : x ≤ hi
    · go_enter Tryd.func8, Tryd.ntmps8
      go_wp2
      go_ret
      exact ⟨ret_bool (by simp [h1, h2]), rfl⟩
    · go_enter Tryd.func8, Tryd.ntmps8
      go_wp2
      go_ret
      exact ⟨ret_bool (by simp [h2]), rfl⟩
  · go_enter Tryd.func8, Tryd.ntmps8
    go_wp2
    go_ret
    exact ⟨ret_bool (by simp; omega), rfl⟩
def opNames : List ByteArray := [⟨#[63]⟩, ⟨#[112, 117, 115, 104]⟩, ⟨#[98, 111, 111, 108]⟩, ⟨#[108, 111, 97, 100]⟩, ⟨#[98, 105, 110, 100]⟩, ⟨#[100, 114, 111, 112]⟩, ⟨#[99, 97, 108, 108]⟩, ⟨#[99, 97, 108, 108, 100, 121, 110]⟩, ⟨#[110, 101, 119]⟩, ⟨#[116, 101, 115, 116]⟩, ⟨#[106, 117, 109, 112]⟩, ⟨#[105, 102]⟩, ⟨#[112, 114, 105, 109]⟩, ⟨#[112, 97, 99, 107]⟩, ⟨#[114, 101, 116]⟩]
def fmtName (n : Int) : ByteArray := if 1 ≤ n ∧ n ≤ 14 then opNames.getD n.toNat ⟨#[63]⟩ else ⟨#[63]⟩
def fmtBase (x : TInstr) : ByteArray := fmtName x.fOp ++ ⟨#[32]⟩ ++ itoaB x.fA ++ ⟨#[32]⟩ ++ itoaB x.fB
noncomputable def fmtT (s t : ByteArray) : ByteArray := @ite _ (t = ⟨#[]⟩) (Classical.propDecidable _) s (s ++ ⟨#[32]⟩ ++ t)
noncomputable def fmtI (x : TInstr) : ByteArray := fmtT (fmtT (fmtBase x) x.fTrait) x.fName
theorem fmtT_nil {s t : ByteArray} (h : t = ⟨#[]⟩) : fmtT s t = s := if_pos h
theorem fmtT_cons {s t : ByteArray} (h : ¬ t = ⟨#[]⟩) : fmtT s t = s ++ ⟨#[32]⟩ ++ t := if_neg h
theorem fmtName_out {n : Int} (h : ¬ (1 ≤ n ∧ n ≤ 14)) : fmtName n = ⟨#[63]⟩ := if_neg h
theorem fmtName_in {k : Nat} (h : 1 ≤ k ∧ k ≤ 14) : opNames[k]? = some (fmtName (k : Int)) := by
  unfold fmtName
  rw [if_pos (by omega)]
  obtain rfl | rfl | rfl | rfl | rfl | rfl | rfl | rfl | rfl | rfl | rfl | rfl | rfl | rfl : k = 1 ∨ k = 2 ∨ k = 3 ∨ k = 4 ∨ k = 5 ∨ k = 6 ∨ k = 7 ∨ k = 8 ∨ k = 9 ∨ k = 10 ∨ k = 11 ∨ k = 12 ∨ k = 13 ∨ k = 14 := by omega
  all_goals rfl
theorem fmtName_size (n : Int) : (fmtName n).size ≤ 16 := by
  by_cases h : 1 ≤ n ∧ n ≤ 14
  · obtain ⟨k, rfl⟩ := Int.eq_ofNat_of_zero_le (show 0 ≤ n by omega)
    have hk := fmtName_in (k := k) (by omega)
    obtain rfl | rfl | rfl | rfl | rfl | rfl | rfl | rfl | rfl | rfl | rfl | rfl | rfl | rfl : k = 1 ∨ k = 2 ∨ k = 3 ∨ k = 4 ∨ k = 5 ∨ k = 6 ∨ k = 7 ∨ k = 8 ∨ k = 9 ∨ k = 10 ∨ k = 11 ∨ k = 12 ∨ k = 13 ∨ k = 14 := by omega
    all_goals (simp only [Option.some.injEq, opNames, List.getElem?_cons_zero, List.getElem?_cons_succ] at hk; rw [← hk]; decide)
  · rw [fmtName_out h]; decide
theorem decDigits_length (k : Nat) : ∀ d : Nat, k < 10 ^ (d + 1) → (Lib.decDigits k).length ≤ d + 1 := by
  induction k using Nat.strongRecOn with
  | ind k ih =>
    intro d hd
    rw [Lib.decDigits]
    split
    · simp
    · rename_i h
      cases d with
      | zero => simp at hd; omega
      | succ d =>
        have := ih (k / 10) (by omega) d (by rw [Nat.pow_succ] at hd; omega)
        rw [List.length_append]
        simp only [List.length_singleton]
        omega
theorem itoaB_size {n : Int} (hn : InR n) : (itoaB n).size ≤ 20 := by
  have h1 := hn.lo
  have h2 := hn.hi
  have e : (itoaB n).size = (Lib.itoa n).length := by unfold itoaB; show (Lib.itoa n).toArray.size = _; simp
  rw [e]
  unfold Lib.itoa
  split
  · have := decDigits_length n.natAbs 18 (by omega)
    rw [List.length_cons]
    omega
  · have := decDigits_length n.toNat 18 (by omega)
    omega
theorem ba_nil : (⟨#[]⟩ : ByteArray).toList = [] := by rw [Go.ByteArray.toList_eq]
theorem cell_row {w w' : World} {b lo : Nat} {arr : Array Value} {t : TypeId} (h : w.heap[b]? = some (.cells arr t (0, 0))) (hb : b < lo) (hB : Below lo w w') (o : Nat) : w'.cell? ⟨b, o, none⟩ = arr[o]? := row_cell ((hB.block b hb).trans h) o
def namesC (c : Value) : List Value := [c, .string ⟨#[112, 117, 115, 104]⟩, .string ⟨#[98, 111, 111, 108]⟩, .string ⟨#[108, 111, 97, 100]⟩, .string ⟨#[98, 105, 110, 100]⟩, .string ⟨#[100, 114, 111, 112]⟩, .string ⟨#[99, 97, 108, 108]⟩, .string ⟨#[99, 97, 108, 108, 100, 121, 110]⟩, .string ⟨#[110, 101, 119]⟩, .string ⟨#[116, 101, 115, 116]⟩, .string ⟨#[106, 117, 109, 112]⟩, .string ⟨#[105, 102]⟩, .string ⟨#[112, 114, 105, 109]⟩, .string ⟨#[112, 97, 99, 107]⟩, .string ⟨#[114, 101, 116]⟩]
theorem namesC_in (c : Value) {k : Nat} (h : 1 ≤ k ∧ k ≤ 14) : (namesC c)[k]? = some (.string (fmtName (k : Int))) := by
  unfold fmtName
  rw [if_pos (by omega)]
  obtain rfl | rfl | rfl | rfl | rfl | rfl | rfl | rfl | rfl | rfl | rfl | rfl | rfl | rfl : k = 1 ∨ k = 2 ∨ k = 3 ∨ k = 4 ∨ k = 5 ∨ k = 6 ∨ k = 7 ∨ k = 8 ∨ k = 9 ∨ k = 10 ∨ k = 11 ∨ k = 12 ∨ k = 13 ∨ k = 14 := by omega
  all_goals rfl
theorem namesC_one (s : ByteArray) : ∀ v ∈ namesC (.string s), v.cells = #[v] := by
  intro v hv
  simp only [namesC, List.mem_cons, List.not_mem_nil, or_false] at hv
  rcases hv with rfl | rfl | rfl | rfl | rfl | rfl | rfl | rfl | rfl | rfl | rfl | rfl | rfl | rfl | rfl <;> rfl
theorem sinfo9 : (Tryd.prog.info? 9).map (fun i => (i.zero, i.size)) = some (some (.string ⟨#[]⟩), 1) := by kernel_rfl
set_option maxRecDepth 100000 in
set_option maxHeartbeats 4000000 in
theorem specFormatInstr_c (x : TInstr) (hz : x.sz ≤ 1048576) : ∀ (w : World) (K : Nat → Prop) (_ : ∀ b, K b → b < w.heap.size) (cs : List Value) (_ : Rep w K x.enc cs),
    Calls Tryd.prog 5 #[.agg cs.toArray] w fun e w' => e = .returned (.string (fmtI x)) ∧ Below w.heap.size w w' := by
  intro w K hK cs h
  obtain ⟨rfl, hOp, hA, hB, hTs, hNs⟩ := TInstr.opn h
  clear h hTs hNs
  have hO1 := hOp.lo
  have hO2 := hOp.hi
  clear hOp
  rw [TInstr.sz_eq] at hz
  have sA := itoaB_size hA
  have sB := itoaB_size hB
  obtain ⟨o, hx⟩ : ∃ o, x.fOp = o := ⟨_, rfl⟩
  rw [hx] at hO1 hO2 ⊢
  have Hx := Lib.hid hx
  clear hx
  have sN := fmtName_size o
  by_cases hin : 1 ≤ o ∧ o ≤ 14
  · obtain ⟨k, rfl⟩ := Int.eq_ofNat_of_zero_le (show 0 ≤ o by omega)
    have hk : 1 ≤ k ∧ k ≤ 14 := by omega
    have hk15 : k < 15 := by omega
    have hd : decide ((1 : Int) ≤ (k : Int) ∧ (k : Int) ≤ 14) = true := by simp; omega
    have gM : ([.string ⟨#[]⟩, .string ⟨#[112, 117, 115, 104]⟩, .string ⟨#[98, 111, 111, 108]⟩, .string ⟨#[108, 111, 97, 100]⟩, .string ⟨#[98, 105, 110, 100]⟩, .string ⟨#[100, 114, 111, 112]⟩, .string ⟨#[99, 97, 108, 108]⟩, .string ⟨#[99, 97, 108, 108, 100, 121, 110]⟩, .string ⟨#[110, 101, 119]⟩, .string ⟨#[116, 101, 115, 116]⟩, .string ⟨#[106, 117, 109, 112]⟩, .string ⟨#[105, 102]⟩, .string ⟨#[112, 114, 105, 109]⟩, .string ⟨#[112, 97, 99, 107]⟩, .string ⟨#[114, 101, 116]⟩] : List Value)[k]'(by simp; omega) = .string (fmtName (k : Int)) := by
      have := namesC_in (.string ⟨#[]⟩) hk
      rw [List.getElem?_eq_getElem (by simp [namesC]; omega)] at this
      simpa [namesC] using this
    have hV : Below w.heap.size w ((w.alloc (.cells #[.int .i64 (k : Int), .int .i64 x.fA, .int .i64 x.fB, .string x.fTrait, .string x.fName] 26)).alloc (.cells #[.string ⟨#[]⟩, .string ⟨#[112, 117, 115, 104]⟩, .string ⟨#[98, 111, 111, 108]⟩, .string ⟨#[108, 111, 97, 100]⟩, .string ⟨#[98, 105, 110, 100]⟩, .string ⟨#[100, 114, 111, 112]⟩, .string ⟨#[99, 97, 108, 108]⟩, .string ⟨#[99, 97, 108, 108, 100, 121, 110]⟩, .string ⟨#[110, 101, 119]⟩, .string ⟨#[116, 101, 115, 116]⟩, .string ⟨#[106, 117, 109, 112]⟩, .string ⟨#[105, 102]⟩, .string ⟨#[112, 114, 105, 109]⟩, .string ⟨#[112, 97, 99, 107]⟩, .string ⟨#[114, 101, 116]⟩] 9)) := ((Below.refl _ _).alloc (Nat.le_refl _) _).alloc (by simp) _
    have HR := Lib.hid (show ((w.alloc (.cells #[.int .i64 (k : Int), .int .i64 x.fA, .int .i64 x.fB, .string x.fTrait, .string x.fName] 26)).alloc (.cells #[.string ⟨#[]⟩, .string ⟨#[112, 117, 115, 104]⟩, .string ⟨#[98, 111, 111, 108]⟩, .string ⟨#[108, 111, 97, 100]⟩, .string ⟨#[98, 105, 110, 100]⟩, .string ⟨#[100, 114, 111, 112]⟩, .string ⟨#[99, 97, 108, 108]⟩, .string ⟨#[99, 97, 108, 108, 100, 121, 110]⟩, .string ⟨#[110, 101, 119]⟩, .string ⟨#[116, 101, 115, 116]⟩, .string ⟨#[106, 117, 109, 112]⟩, .string ⟨#[105, 102]⟩, .string ⟨#[112, 114, 105, 109]⟩, .string ⟨#[112, 97, 99, 107]⟩, .string ⟨#[114, 101, 116]⟩] 9)).heap[w.heap.size]? = some (.cells #[.int .i64 (k : Int), .int .i64 x.fA, .int .i64 x.fB, .string x.fTrait, .string x.fName] 26 (0, 0)) from alloc_lt (by simp) (alloc_at rfl))
    have hl : w.heap.size < ((w.alloc (.cells #[.int .i64 (k : Int), .int .i64 x.fA, .int .i64 x.fB, .string x.fTrait, .string x.fName] 26)).alloc (.cells #[.string ⟨#[]⟩, .string ⟨#[112, 117, 115, 104]⟩, .string ⟨#[98, 111, 111, 108]⟩, .string ⟨#[108, 111, 97, 100]⟩, .string ⟨#[98, 105, 110, 100]⟩, .string ⟨#[100, 114, 111, 112]⟩, .string ⟨#[99, 97, 108, 108]⟩, .string ⟨#[99, 97, 108, 108, 100, 121, 110]⟩, .string ⟨#[110, 101, 119]⟩, .string ⟨#[116, 101, 115, 116]⟩, .string ⟨#[106, 117, 109, 112]⟩, .string ⟨#[105, 102]⟩, .string ⟨#[112, 114, 105, 109]⟩, .string ⟨#[112, 97, 99, 107]⟩, .string ⟨#[114, 101, 116]⟩] 9)).heap.size := by simp; omega
    have gA : ∀ w', Below ((w.alloc (.cells #[.int .i64 (k : Int), .int .i64 x.fA, .int .i64 x.fB, .string x.fTrait, .string x.fName] 26)).alloc (.cells #[.string ⟨#[]⟩, .string ⟨#[112, 117, 115, 104]⟩, .string ⟨#[98, 111, 111, 108]⟩, .string ⟨#[108, 111, 97, 100]⟩, .string ⟨#[98, 105, 110, 100]⟩, .string ⟨#[100, 114, 111, 112]⟩, .string ⟨#[99, 97, 108, 108]⟩, .string ⟨#[99, 97, 108, 108, 100, 121, 110]⟩, .string ⟨#[110, 101, 119]⟩, .string ⟨#[116, 101, 115, 116]⟩, .string ⟨#[106, 117, 109, 112]⟩, .string ⟨#[105, 102]⟩, .string ⟨#[112, 114, 105, 109]⟩, .string ⟨#[112, 97, 99, 107]⟩, .string ⟨#[114, 101, 116]⟩] 9)).heap.size ((w.alloc (.cells #[.int .i64 (k : Int), .int .i64 x.fA, .int .i64 x.fB, .string x.fTrait, .string x.fName] 26)).alloc (.cells #[.string ⟨#[]⟩, .string ⟨#[112, 117, 115, 104]⟩, .string ⟨#[98, 111, 111, 108]⟩, .string ⟨#[108, 111, 97, 100]⟩, .string ⟨#[98, 105, 110, 100]⟩, .string ⟨#[100, 114, 111, 112]⟩, .string ⟨#[99, 97, 108, 108]⟩, .string ⟨#[99, 97, 108, 108, 100, 121, 110]⟩, .string ⟨#[110, 101, 119]⟩, .string ⟨#[116, 101, 115, 116]⟩, .string ⟨#[106, 117, 109, 112]⟩, .string ⟨#[105, 102]⟩, .string ⟨#[112, 114, 105, 109]⟩, .string ⟨#[112, 97, 99, 107]⟩, .string ⟨#[114, 101, 116]⟩] 9)) w' → w'.cell? ⟨w.heap.size, 1, none⟩ = some (.int .i64 x.fA) := fun w' h => cell_row HR.out hl h 1
    have gB : ∀ w', Below ((w.alloc (.cells #[.int .i64 (k : Int), .int .i64 x.fA, .int .i64 x.fB, .string x.fTrait, .string x.fName] 26)).alloc (.cells #[.string ⟨#[]⟩, .string ⟨#[112, 117, 115, 104]⟩, .string ⟨#[98, 111, 111, 108]⟩, .string ⟨#[108, 111, 97, 100]⟩, .string ⟨#[98, 105, 110, 100]⟩, .string ⟨#[100, 114, 111, 112]⟩, .string ⟨#[99, 97, 108, 108]⟩, .string ⟨#[99, 97, 108, 108, 100, 121, 110]⟩, .string ⟨#[110, 101, 119]⟩, .string ⟨#[116, 101, 115, 116]⟩, .string ⟨#[106, 117, 109, 112]⟩, .string ⟨#[105, 102]⟩, .string ⟨#[112, 114, 105, 109]⟩, .string ⟨#[112, 97, 99, 107]⟩, .string ⟨#[114, 101, 116]⟩] 9)).heap.size ((w.alloc (.cells #[.int .i64 (k : Int), .int .i64 x.fA, .int .i64 x.fB, .string x.fTrait, .string x.fName] 26)).alloc (.cells #[.string ⟨#[]⟩, .string ⟨#[112, 117, 115, 104]⟩, .string ⟨#[98, 111, 111, 108]⟩, .string ⟨#[108, 111, 97, 100]⟩, .string ⟨#[98, 105, 110, 100]⟩, .string ⟨#[100, 114, 111, 112]⟩, .string ⟨#[99, 97, 108, 108]⟩, .string ⟨#[99, 97, 108, 108, 100, 121, 110]⟩, .string ⟨#[110, 101, 119]⟩, .string ⟨#[116, 101, 115, 116]⟩, .string ⟨#[106, 117, 109, 112]⟩, .string ⟨#[105, 102]⟩, .string ⟨#[112, 114, 105, 109]⟩, .string ⟨#[112, 97, 99, 107]⟩, .string ⟨#[114, 101, 116]⟩] 9)) w' → w'.cell? ⟨w.heap.size, 2, none⟩ = some (.int .i64 x.fB) := fun w' h => cell_row HR.out hl h 2
    have hI0 : Below ((w.alloc (.cells #[.int .i64 (k : Int), .int .i64 x.fA, .int .i64 x.fB, .string x.fTrait, .string x.fName] 26)).alloc (.cells #[.string ⟨#[]⟩, .string ⟨#[112, 117, 115, 104]⟩, .string ⟨#[98, 111, 111, 108]⟩, .string ⟨#[108, 111, 97, 100]⟩, .string ⟨#[98, 105, 110, 100]⟩, .string ⟨#[100, 114, 111, 112]⟩, .string ⟨#[99, 97, 108, 108]⟩, .string ⟨#[99, 97, 108, 108, 100, 121, 110]⟩, .string ⟨#[110, 101, 119]⟩, .string ⟨#[116, 101, 115, 116]⟩, .string ⟨#[106, 117, 109, 112]⟩, .string ⟨#[105, 102]⟩, .string ⟨#[112, 114, 105, 109]⟩, .string ⟨#[112, 97, 99, 107]⟩, .string ⟨#[114, 101, 116]⟩] 9)).heap.size ((w.alloc (.cells #[.int .i64 (k : Int), .int .i64 x.fA, .int .i64 x.fB, .string x.fTrait, .string x.fName] 26)).alloc (.cells #[.string ⟨#[]⟩, .string ⟨#[112, 117, 115, 104]⟩, .string ⟨#[98, 111, 111, 108]⟩, .string ⟨#[108, 111, 97, 100]⟩, .string ⟨#[98, 105, 110, 100]⟩, .string ⟨#[100, 114, 111, 112]⟩, .string ⟨#[99, 97, 108, 108]⟩, .string ⟨#[99, 97, 108, 108, 100, 121, 110]⟩, .string ⟨#[110, 101, 119]⟩, .string ⟨#[116, 101, 115, 116]⟩, .string ⟨#[106, 117, 109, 112]⟩, .string ⟨#[105, 102]⟩, .string ⟨#[112, 114, 105, 109]⟩, .string ⟨#[112, 97, 99, 107]⟩, .string ⟨#[114, 101, 116]⟩] 9)) ((w.alloc (.cells #[.int .i64 (k : Int), .int .i64 x.fA, .int .i64 x.fB, .string x.fTrait, .string x.fName] 26)).alloc (.cells #[.string ⟨#[]⟩, .string ⟨#[112, 117, 115, 104]⟩, .string ⟨#[98, 111, 111, 108]⟩, .string ⟨#[108, 111, 97, 100]⟩, .string ⟨#[98, 105, 110, 100]⟩, .string ⟨#[100, 114, 111, 112]⟩, .string ⟨#[99, 97, 108, 108]⟩, .string ⟨#[99, 97, 108, 108, 100, 121, 110]⟩, .string ⟨#[110, 101, 119]⟩, .string ⟨#[116, 101, 115, 116]⟩, .string ⟨#[106, 117, 109, 112]⟩, .string ⟨#[105, 102]⟩, .string ⟨#[112, 114, 105, 109]⟩, .string ⟨#[112, 97, 99, 107]⟩, .string ⟨#[114, 101, 116]⟩] 9)).drew := (Below.refl _ _).drew
    go_enter Tryd.func5, Tryd.ntmps5
    go_wp2_with fail
    refine (specl1In_c _ _ _ _).mono ?_
    rintro e w1 ⟨rfl, rfl⟩
    rw [hd]
    go_wp2_with fail
    refine rg 12 (Below ((w.alloc (.cells #[.int .i64 (k : Int), .int .i64 x.fA, .int .i64 x.fB, .string x.fTrait, .string x.fName] 26)).alloc (.cells #[.string ⟨#[]⟩, .string ⟨#[112, 117, 115, 104]⟩, .string ⟨#[98, 111, 111, 108]⟩, .string ⟨#[108, 111, 97, 100]⟩, .string ⟨#[98, 105, 110, 100]⟩, .string ⟨#[100, 114, 111, 112]⟩, .string ⟨#[99, 97, 108, 108]⟩, .string ⟨#[99, 97, 108, 108, 100, 121, 110]⟩, .string ⟨#[110, 101, 119]⟩, .string ⟨#[116, 101, 115, 116]⟩, .string ⟨#[106, 117, 109, 112]⟩, .string ⟨#[105, 102]⟩, .string ⟨#[112, 114, 105, 109]⟩, .string ⟨#[112, 97, 99, 107]⟩, .string ⟨#[114, 101, 116]⟩] 9)).heap.size ((w.alloc (.cells #[.int .i64 (k : Int), .int .i64 x.fA, .int .i64 x.fB, .string x.fTrait, .string x.fName] 26)).alloc (.cells #[.string ⟨#[]⟩, .string ⟨#[112, 117, 115, 104]⟩, .string ⟨#[98, 111, 111, 108]⟩, .string ⟨#[108, 111, 97, 100]⟩, .string ⟨#[98, 105, 110, 100]⟩, .string ⟨#[100, 114, 111, 112]⟩, .string ⟨#[99, 97, 108, 108]⟩, .string ⟨#[99, 97, 108, 108, 100, 121, 110]⟩, .string ⟨#[110, 101, 119]⟩, .string ⟨#[116, 101, 115, 116]⟩, .string ⟨#[106, 117, 109, 112]⟩, .string ⟨#[105, 102]⟩, .string ⟨#[112, 114, 105, 109]⟩, .string ⟨#[112, 97, 99, 107]⟩, .string ⟨#[114, 101, 116]⟩] 9))) (by kernel_rfl) rfl ?_
    refine rg_seg (fuel := 6) [0, 1, 2, 3, 7, 8] hI0 (by kernel_rfl) rfl ?_
    simp only [pick, List.getElem?_cons_zero, List.getElem?_cons_succ]
    iterate 6 (refine sg_fix _ rfl (fun w' hI => by have := gA w' hI; have := gB w' hI; go_simp; first | rfl | rw [if_neg (by omega)]) ?_; simp only [Act.put, List.setIfInBounds_toArray, List.set_cons_zero, List.set_cons_succ])
    refine sg_nil ?_
    refine rg_one (fuel := 5) 4 (by kernel_rfl) rfl (fun K0 hK0 => ?_)
    simp only [pick, List.getElem?_cons_zero, List.getElem?_cons_succ]
    refine rg_call rfl _ _ (by go_simp; exact ⟨rfl, rfl⟩) ?_
    refine (specFormatInt_c _ hA _).mono ?_
    rintro e u1 ⟨rfl, hB1⟩
    have hI1 := hI0.trans (hB1.mono hI0.size)
    refine ⟨_, rfl, hK0 _ _ hI1 ?_⟩
    simp only [Act.put, List.setIfInBounds_toArray, List.set_cons_zero, List.set_cons_succ]
    refine rg_seg (fuel := 3) [5, 6] hI1 (by kernel_rfl) rfl ?_
    simp only [pick, List.getElem?_cons_zero, List.getElem?_cons_succ]
    iterate 2 (refine sg_fix _ rfl (fun w' hI => by have := gA w' hI; have := gB w' hI; go_simp; first | rfl | rw [if_neg (by omega)]) ?_; simp only [Act.put, List.setIfInBounds_toArray, List.set_cons_zero, List.set_cons_succ])
    refine sg_nil ?_
    refine rg_one (fuel := 2) 9 (by kernel_rfl) rfl (fun K1 hK1 => ?_)
    simp only [pick, List.getElem?_cons_zero, List.getElem?_cons_succ]
    refine rg_call rfl _ _ (by go_simp; exact ⟨rfl, rfl⟩) ?_
    refine (specFormatInt_c _ hB _).mono ?_
    rintro e u2 ⟨rfl, hB2⟩
    have hI2 := hI1.trans (hB2.mono hI1.size)
    refine ⟨_, rfl, hK1 _ _ hI2 ?_⟩
    simp only [Act.put, List.setIfInBounds_toArray, List.set_cons_zero, List.set_cons_succ]
    refine rg_seg (fuel := 0) [10, 11] hI2 (by kernel_rfl) rfl ?_
    simp only [pick, List.getElem?_cons_zero, List.getElem?_cons_succ]
    iterate 2 (refine sg_fix _ rfl (fun w' hI => by have := gA w' hI; have := gB w' hI; go_simp; first | rfl | rw [if_neg (by omega)]) ?_; simp only [Act.put, List.setIfInBounds_toArray, List.set_cons_zero, List.set_cons_succ])
    refine sg_nil (rg_end (by kernel_rfl) ?_)
    have gT : u2.cell? ⟨w.heap.size, 3, none⟩ = some (.string x.fTrait) := cell_row HR.out hl hI2 3
    have gN : u2.cell? ⟨w.heap.size, 4, none⟩ = some (.string x.fName) := cell_row HR.out hl hI2 4
    have HF := Lib.hid (hV.trans (hI2.mono hV.size))
    clear gA gB hI0 hI1 hI2 hB1 hB2 HR hl hV
    by_cases hT : x.fTrait = ⟨#[]⟩
    · have bT : x.fTrait.toList.isEmpty = true := by rw [hT, ba_nil]; rfl
      have HT := Lib.hid hT; clear hT
      by_cases hN : x.fName = ⟨#[]⟩
      · have bN : x.fName.toList.isEmpty = true := by rw [hN, ba_nil]; rfl
        have HN := Lib.hid hN; clear hN
        go_wp2
        go_ret
        refine ⟨?_, HF.out⟩
        unfold fmtI
        rw [fmtT_nil HN.out, fmtT_nil HT.out, fmtBase]
        rw [Hx.out]
        rfl
      · have bN : x.fName.toList.isEmpty = false := by simpa using fun h => hN (ba_ext (h.trans ba_nil.symm))
        have HN := Lib.hid hN; clear hN
        go_wp2
        go_ret
        refine ⟨?_, HF.out⟩
        unfold fmtI
        rw [fmtT_cons HN.out, fmtT_nil HT.out, fmtBase]
        rw [Hx.out]
        rfl
    · have bT : x.fTrait.toList.isEmpty = false := by simpa using fun h => hT (ba_ext (h.trans ba_nil.symm))
      have HT := Lib.hid hT; clear hT
      by_cases hN : x.fName = ⟨#[]⟩
      · have bN : x.fName.toList.isEmpty = true := by rw [hN, ba_nil]; rfl
        have HN := Lib.hid hN; clear hN
        go_wp2
        go_ret
        refine ⟨?_, HF.out⟩
        unfold fmtI
        rw [fmtT_nil HN.out, fmtT_cons HT.out, fmtBase]
        rw [Hx.out]
        rfl
      · have bN : x.fName.toList.isEmpty = false := by simpa using fun h => hN (ba_ext (h.trans ba_nil.symm))
        have HN := Lib.hid hN; clear hN
        go_wp2
        go_ret
        refine ⟨?_, HF.out⟩
        unfold fmtI
        rw [fmtT_cons HN.out, fmtT_cons HT.out, fmtBase]
        rw [Hx.out]
        rfl
  · have hd : decide ((1 : Int) ≤ o ∧ o ≤ 14) = false := by simpa using hin
    have Hn := Lib.hid (fmtName_out hin)
    have hV : Below w.heap.size w (w.alloc (.cells #[.int .i64 o, .int .i64 x.fA, .int .i64 x.fB, .string x.fTrait, .string x.fName] 26)) := (Below.refl _ _).alloc (Nat.le_refl _) _
    have HR := Lib.hid (show (w.alloc (.cells #[.int .i64 o, .int .i64 x.fA, .int .i64 x.fB, .string x.fTrait, .string x.fName] 26)).heap[w.heap.size]? = some (.cells #[.int .i64 o, .int .i64 x.fA, .int .i64 x.fB, .string x.fTrait, .string x.fName] 26 (0, 0)) from alloc_at rfl)
    have hl : w.heap.size < (w.alloc (.cells #[.int .i64 o, .int .i64 x.fA, .int .i64 x.fB, .string x.fTrait, .string x.fName] 26)).heap.size := by simp
    have gA : ∀ w', Below (w.alloc (.cells #[.int .i64 o, .int .i64 x.fA, .int .i64 x.fB, .string x.fTrait, .string x.fName] 26)).heap.size (w.alloc (.cells #[.int .i64 o, .int .i64 x.fA, .int .i64 x.fB, .string x.fTrait, .string x.fName] 26)) w' → w'.cell? ⟨w.heap.size, 1, none⟩ = some (.int .i64 x.fA) := fun w' h => cell_row HR.out hl h 1
    have gB : ∀ w', Below (w.alloc (.cells #[.int .i64 o, .int .i64 x.fA, .int .i64 x.fB, .string x.fTrait, .string x.fName] 26)).heap.size (w.alloc (.cells #[.int .i64 o, .int .i64 x.fA, .int .i64 x.fB, .string x.fTrait, .string x.fName] 26)) w' → w'.cell? ⟨w.heap.size, 2, none⟩ = some (.int .i64 x.fB) := fun w' h => cell_row HR.out hl h 2
    have hI0 : Below (w.alloc (.cells #[.int .i64 o, .int .i64 x.fA, .int .i64 x.fB, .string x.fTrait, .string x.fName] 26)).heap.size (w.alloc (.cells #[.int .i64 o, .int .i64 x.fA, .int .i64 x.fB, .string x.fTrait, .string x.fName] 26)) (w.alloc (.cells #[.int .i64 o, .int .i64 x.fA, .int .i64 x.fB, .string x.fTrait, .string x.fName] 26)).drew := (Below.refl _ _).drew
    go_enter Tryd.func5, Tryd.ntmps5
    go_wp2_with fail
    refine (specl1In_c _ _ _ _).mono ?_
    rintro e w1 ⟨rfl, rfl⟩
    rw [hd]
    go_wp2_with fail
    refine rg 12 (Below (w.alloc (.cells #[.int .i64 o, .int .i64 x.fA, .int .i64 x.fB, .string x.fTrait, .string x.fName] 26)).heap.size (w.alloc (.cells #[.int .i64 o, .int .i64 x.fA, .int .i64 x.fB, .string x.fTrait, .string x.fName] 26))) (by kernel_rfl) rfl ?_
    refine rg_seg (fuel := 6) [0, 1, 2, 3, 7, 8] hI0 (by kernel_rfl) rfl ?_
    simp only [pick, List.getElem?_cons_zero, List.getElem?_cons_succ]
    iterate 6 (refine sg_fix _ rfl (fun w' hI => by have := gA w' hI; have := gB w' hI; go_simp; first | rfl | rw [if_neg (by omega)]) ?_; simp only [Act.put, List.setIfInBounds_toArray, List.set_cons_zero, List.set_cons_succ])
    refine sg_nil ?_
    refine rg_one (fuel := 5) 4 (by kernel_rfl) rfl (fun K0 hK0 => ?_)
    simp only [pick, List.getElem?_cons_zero, List.getElem?_cons_succ]
    refine rg_call rfl _ _ (by go_simp; exact ⟨rfl, rfl⟩) ?_
    refine (specFormatInt_c _ hA _).mono ?_
    rintro e u1 ⟨rfl, hB1⟩
    have hI1 := hI0.trans (hB1.mono hI0.size)
    refine ⟨_, rfl, hK0 _ _ hI1 ?_⟩
    simp only [Act.put, List.setIfInBounds_toArray, List.set_cons_zero, List.set_cons_succ]
    refine rg_seg (fuel := 3) [5, 6] hI1 (by kernel_rfl) rfl ?_
    simp only [pick, List.getElem?_cons_zero, List.getElem?_cons_succ]
    iterate 2 (refine sg_fix _ rfl (fun w' hI => by have := gA w' hI; have := gB w' hI; go_simp; first | rfl | rw [if_neg (by omega)]) ?_; simp only [Act.put, List.setIfInBounds_toArray, List.set_cons_zero, List.set_cons_succ])
    refine sg_nil ?_
    refine rg_one (fuel := 2) 9 (by kernel_rfl) rfl (fun K1 hK1 => ?_)
    simp only [pick, List.getElem?_cons_zero, List.getElem?_cons_succ]
    refine rg_call rfl _ _ (by go_simp; exact ⟨rfl, rfl⟩) ?_
    refine (specFormatInt_c _ hB _).mono ?_
    rintro e u2 ⟨rfl, hB2⟩
    have hI2 := hI1.trans (hB2.mono hI1.size)
    refine ⟨_, rfl, hK1 _ _ hI2 ?_⟩
    simp only [Act.put, List.setIfInBounds_toArray, List.set_cons_zero, List.set_cons_succ]
    refine rg_seg (fuel := 0) [10, 11] hI2 (by kernel_rfl) rfl ?_
    simp only [pick, List.getElem?_cons_zero, List.getElem?_cons_succ]
    iterate 2 (refine sg_fix _ rfl (fun w' hI => by have := gA w' hI; have := gB w' hI; go_simp; first | rfl | rw [if_neg (by omega)]) ?_; simp only [Act.put, List.setIfInBounds_toArray, List.set_cons_zero, List.set_cons_succ])
    refine sg_nil (rg_end (by kernel_rfl) ?_)
    have gT : u2.cell? ⟨w.heap.size, 3, none⟩ = some (.string x.fTrait) := cell_row HR.out hl hI2 3
    have gN : u2.cell? ⟨w.heap.size, 4, none⟩ = some (.string x.fName) := cell_row HR.out hl hI2 4
    have HF := Lib.hid (hV.trans (hI2.mono hV.size))
    clear gA gB hI0 hI1 hI2 hB1 hB2 HR hl hV
    by_cases hT : x.fTrait = ⟨#[]⟩
    · have bT : x.fTrait.toList.isEmpty = true := by rw [hT, ba_nil]; rfl
      have HT := Lib.hid hT; clear hT
      by_cases hN : x.fName = ⟨#[]⟩
      · have bN : x.fName.toList.isEmpty = true := by rw [hN, ba_nil]; rfl
        have HN := Lib.hid hN; clear hN
        go_wp2
        go_ret
        refine ⟨?_, HF.out⟩
        unfold fmtI
        rw [fmtT_nil HN.out, fmtT_nil HT.out, fmtBase]
        rw [Hx.out, Hn.out]
        rfl
      · have bN : x.fName.toList.isEmpty = false := by simpa using fun h => hN (ba_ext (h.trans ba_nil.symm))
        have HN := Lib.hid hN; clear hN
        go_wp2
        go_ret
        refine ⟨?_, HF.out⟩
        unfold fmtI
        rw [fmtT_cons HN.out, fmtT_nil HT.out, fmtBase]
        rw [Hx.out, Hn.out]
        rfl
    · have bT : x.fTrait.toList.isEmpty = false := by simpa using fun h => hT (ba_ext (h.trans ba_nil.symm))
      have HT := Lib.hid hT; clear hT
      by_cases hN : x.fName = ⟨#[]⟩
      · have bN : x.fName.toList.isEmpty = true := by rw [hN, ba_nil]; rfl
        have HN := Lib.hid hN; clear hN
        go_wp2
        go_ret
        refine ⟨?_, HF.out⟩
        unfold fmtI
        rw [fmtT_nil HN.out, fmtT_cons HT.out, fmtBase]
        rw [Hx.out, Hn.out]
        rfl
      · have bN : x.fName.toList.isEmpty = false := by simpa using fun h => hN (ba_ext (h.trans ba_nil.symm))
        have HN := Lib.hid hN; clear hN
        go_wp2
        go_ret
        refine ⟨?_, HF.out⟩
        unfold fmtI
        rw [fmtT_cons HN.out, fmtT_cons HT.out, fmtBase]
        rw [Hx.out, Hn.out]
        rfl
def joinB (ws : List ByteArray) : ByteArray := ⟨(Lib.join (ws.map (·.data.toList)) [32]).toArray⟩
theorem joinB_three (n a b : ByteArray) : joinB [n, a, b] = n ++ ⟨#[32]⟩ ++ a ++ ⟨#[32]⟩ ++ b := by
  apply ByteArray.ext
  apply Array.ext'
  simp [joinB, Lib.join_cons, Lib.joinTail, ByteArray.data_append]
theorem joinB_snoc (x : ByteArray) (r : List ByteArray) (t : ByteArray) : joinB (x :: (r ++ [t])) = joinB (x :: r) ++ ⟨#[32]⟩ ++ t := by
  apply ByteArray.ext
  apply Array.ext'
  simp [joinB, Lib.join_cons, Lib.joinTail, ByteArray.data_append]
theorem joinB_four (n a b c : ByteArray) : joinB [n, a, b, c] = n ++ ⟨#[32]⟩ ++ a ++ ⟨#[32]⟩ ++ b ++ ⟨#[32]⟩ ++ c := by
  have := joinB_snoc n [a, b] c
  rw [joinB_three] at this
  exact this
theorem joinB_five (n a b c d : ByteArray) : joinB [n, a, b, c, d] = n ++ ⟨#[32]⟩ ++ a ++ ⟨#[32]⟩ ++ b ++ ⟨#[32]⟩ ++ c ++ ⟨#[32]⟩ ++ d := by
  have := joinB_snoc n [a, b, c] d
  rw [joinB_four] at this
  exact this
theorem sz32 : (⟨#[32]⟩ : ByteArray).size = 1 := rfl
theorem sz63 : (⟨#[63]⟩ : ByteArray).size = 1 := rfl
theorem joinB_size (ws : List ByteArray) : (joinB ws).size = (Lib.join (ws.map (·.data.toList)) [32]).length := by
  unfold joinB
  show (Lib.join (ws.map (·.data.toList)) [32]).toArray.size = _
  simp
/-- the strings ws lie in a row that the call has made -/
def Words (w : World) (base : Nat) (v : Value) (ws : List ByteArray) : Prop := w.ownsRow base 9 1 v ws.length (ws.map Value.string)
theorem Words.below {w w' : World} {base : Nat} {v : Value} {ws : List ByteArray} (h : Words w base v ws) (hB : Below w.heap.size w w') : Words w' base v ws :=
  World.ownsRow.kept h (row := none) ⟨hB.os, hB.tape, hB.output, hB.size, fun k hk _ => hB.block k hk⟩ (by cases v.ownBlock <;> simp)
set_option maxRecDepth 100000 in
theorem implJoin_c (v : Value) (ws : List ByteArray) (base : Nat) (h0 : 0 < ws.length) (hN : ws.length ≤ 1000) (hlen : (joinB ws).size ≤ 140737488355328) : ∀ (w : World) (_ : Words w base v ws),
    Calls Tryd.prog 11 #[v, .string ⟨#[32]⟩] w fun e w' => e = .returned (.string (joinB ws)) ∧ Below w.heap.size w w' := by
  intro w h
  rcases h.2 with ⟨-, hn⟩ | ⟨g, cap, cur, rfl, hb, hg, hc, -, -, -⟩
  · omega
  have hcells : ∀ (j : Nat) x, ws[j]? = some x → w.cell? ⟨g, 0 + j, none⟩ = some (.string x) := by
    intro j x hx
    have := World.ownsRow.cells h (g := g) rfl j (.string x) (by rw [List.getElem?_map, hx]; rfl)
    rw [Addr.add_lit] at this
    exact this
  have hgl : g < w.heap.size := (Array.getElem?_eq_some_iff.1 hg).1
  rw [joinB_size] at hlen
  go_enter Tryd.func11, Tryd.ntmps11
  go_wp2_with fail
  refine (Tryd.strings_Join g 0 cap ws ⟨#[32]⟩ w hcells hgl (by omega) hc hlen).mono ?_
  rintro e w' ⟨rfl, hB⟩
  go_wp2
  go_ret
  exact ⟨rfl, hB⟩
theorem zinfo9 : (Tryd.prog.info? 9).map (fun i => (i.zero, i.size, i.bytes)) = some (some (.string ⟨#[]⟩), 1, 16) := by kernel_rfl
/-- a string more -/
theorem apS {w : World} {ops : Array Oper} {rest : List Oper} {o : Oper} {a : Act} {Q : Exit → Act → World → Prop} (hgd : o.guard = none) (s x : Operand) (ho : o.op = .call { callee := .builtin .append, args := #[s, x], argTypes := #[30, 30] })
    {base : Nat} {v : Value} {ws : List ByteArray} (hs : a.eval s = v) (hown : Words w base v ws) (b : Nat) (hx : a.eval x = .slice (some ⟨b, 0, none⟩) 1 1) (u : ByteArray) (hu : w.cell? ⟨b, 0, none⟩ = some (.string u)) (hn : ws.length ≤ 1000) (hbase : base ≤ w.heap.size)
    (h : ∀ v' w', Words w' base v' (ws ++ [u]) → Below base w w' → wpList Tryd.prog ops Q rest (a.put o.dst v') w') : wpList Tryd.prog ops Q (o :: rest) a w := by
  have hi := zinfo9
  cases hq' : Tryd.prog.info? 9 with
  | none => simp [hq'] at hi
  | some i =>
    simp only [hq', Option.map_some, Option.some.injEq, Prod.mk.injEq] at hi
    obtain ⟨hz', hsize, hby⟩ := hi
    refine wpList_append_own w hgd s x 30 ho base 9 i _ 1 16 Tryd.underlying30 hq' hz' hsize hby rfl (by decide) v ws.length (ws.map Value.string) hs hown ⟨b, 0, none⟩ 1 1 [.string u] hx rfl ?_ (by simp [Value.oneCell']) (by unfold maxLen; omega) (by omega) hbase ?_
    · intro j y hj
      rw [Addr.add_lit]
      cases j with
      | zero => simp at hj; subst hj; exact hu
      | succ j => simp at hj
    · intro v' w' h1 h2 _
      refine h v' w' (by unfold Words; simpa using h1) ⟨h2.os, h2.tape, h2.output, h2.size, fun k hk => h2.block k (Nat.lt_of_lt_of_le hk hbase) (fun e => ?_)⟩
      have := (hown.lt k e.symm).1
      omega
/-- a slice of one-cell values, made in a region -/
theorem rg_bs {P : Program} {ops : Array Oper} {o : Oper} {a : Act} {w : World} {K : Act → World → Prop} (hg : Region.wanted o (yielded ops a.tmps) = true) (t : TypeId) (len : Nat) (parts : Array (Nat × Operand)) (ho : o.op = .buildSlice t len parts)
    {e : TypeId} {z : Value} (ht : P.underlying t = some (.slice e)) (hi : (P.info? e).map (fun i => (i.zero, i.size)) = some (some z, 1)) (vs : List Value) (hp : parts.toList.map (fun x => (x.1, a.eval x.2)) = (vs.zipIdx 0).map fun x => (x.2, x.1))
    (h1 : ∀ v ∈ vs, v.cells = #[v]) (hl : vs.length = len) (h0 : 0 < len) (h24 : len ≤ 2 ^ 24)
    (h : K (a.put o.dst (.slice (some ⟨w.heap.size, 0, none⟩) len len)) (w.alloc (.cells vs.toArray e))) : oneI P ops [o] a w K := by
  cases hq' : P.info? e with
  | none => simp [hq'] at hi
  | some i =>
    simp only [hq', Option.map_some, Option.some.injEq, Prod.mk.injEq] at hi
    obtain ⟨hz', hsize⟩ := hi
    refine ⟨hg, ?_⟩
    have hf := Great.fill_flat vs ((Array.range (len * i.size)).map (z.cells[· % z.cells.size]!)) h1 (by simp [hl, hsize])
    have hr := run_buildSlice (P := P) w t e len (parts.map fun (i, x) => (i, a.eval x)) vs.toArray i z ht hq' hz' (by rw [hsize]; omega) (by rw [hsize]; omega) (by rw [Array.toList_map]; show Instr.fill _ _ (parts.toList.map (fun x => (x.1, a.eval x.2))) = _; rw [hp, hsize]; rw [hsize] at hf; exact hf)
    unfold wpN execOp
    simp only [ho, Sem.run_bind, hr, Result.andThen_ok]
    exact h
set_option maxRecDepth 100000 in
set_option maxHeartbeats 4000000 in
theorem implFormatInstr_c (x : TInstr) (hz : x.sz ≤ 1048576) : ∀ (w : World) (_ : Tab w) (K : Nat → Prop) (_ : ∀ b, K b → b < w.heap.size) (cs : List Value) (_ : Rep w K x.enc cs),
    Calls Tryd.prog 7 #[.agg cs.toArray] w fun e w' => e = .returned (.string (fmtI x)) ∧ Below w.heap.size w w' := by
  intro w ht K hK cs h
  obtain ⟨rfl, hOp, hA, hB, hTs, hNs⟩ := TInstr.opn h
  clear h hTs hNs
  have hO1 := hOp.lo
  have hO2 := hOp.hi
  clear hOp
  rw [TInstr.sz_eq] at hz
  have sA := itoaB_size hA
  have sB := itoaB_size hB
  obtain ⟨o, hx⟩ : ∃ o, x.fOp = o := ⟨_, rfl⟩
  rw [hx] at hO1 hO2 ⊢
  have Hx := Lib.hid hx
  clear hx
  have sN := fmtName_size o
  by_cases hin : 1 ≤ o ∧ o ≤ 14
  · obtain ⟨k, rfl⟩ := Int.eq_ofNat_of_zero_le (show 0 ≤ o by omega)
    have hk : 1 ≤ k ∧ k ≤ 14 := by omega
    have hk0 : 0 < k := by omega
    have hk15 : k < 15 := by omega
    have gM : ([.string ⟨#[63]⟩, .string ⟨#[112, 117, 115, 104]⟩, .string ⟨#[98, 111, 111, 108]⟩, .string ⟨#[108, 111, 97, 100]⟩, .string ⟨#[98, 105, 110, 100]⟩, .string ⟨#[100, 114, 111, 112]⟩, .string ⟨#[99, 97, 108, 108]⟩, .string ⟨#[99, 97, 108, 108, 100, 121, 110]⟩, .string ⟨#[110, 101, 119]⟩, .string ⟨#[116, 101, 115, 116]⟩, .string ⟨#[106, 117, 109, 112]⟩, .string ⟨#[105, 102]⟩, .string ⟨#[112, 114, 105, 109]⟩, .string ⟨#[112, 97, 99, 107]⟩, .string ⟨#[114, 101, 116]⟩] : List Value)[k]'(by simp; omega) = .string (fmtName (k : Int)) := by
      have := namesC_in (.string ⟨#[63]⟩) hk
      rw [List.getElem?_eq_getElem (by simp [namesC]; omega)] at this
      simpa [namesC] using this
    have hV : Below w.heap.size w ((w.alloc (.cells #[.int .i64 (k : Int), .int .i64 x.fA, .int .i64 x.fB, .string x.fTrait, .string x.fName] 26)).alloc (.cells #[.string ⟨#[63]⟩, .string ⟨#[112, 117, 115, 104]⟩, .string ⟨#[98, 111, 111, 108]⟩, .string ⟨#[108, 111, 97, 100]⟩, .string ⟨#[98, 105, 110, 100]⟩, .string ⟨#[100, 114, 111, 112]⟩, .string ⟨#[99, 97, 108, 108]⟩, .string ⟨#[99, 97, 108, 108, 100, 121, 110]⟩, .string ⟨#[110, 101, 119]⟩, .string ⟨#[116, 101, 115, 116]⟩, .string ⟨#[106, 117, 109, 112]⟩, .string ⟨#[105, 102]⟩, .string ⟨#[112, 114, 105, 109]⟩, .string ⟨#[112, 97, 99, 107]⟩, .string ⟨#[114, 101, 116]⟩] 9)) := ((Below.refl _ _).alloc (Nat.le_refl _) _).alloc (by simp) _
    have HR := Lib.hid (show ((w.alloc (.cells #[.int .i64 (k : Int), .int .i64 x.fA, .int .i64 x.fB, .string x.fTrait, .string x.fName] 26)).alloc (.cells #[.string ⟨#[63]⟩, .string ⟨#[112, 117, 115, 104]⟩, .string ⟨#[98, 111, 111, 108]⟩, .string ⟨#[108, 111, 97, 100]⟩, .string ⟨#[98, 105, 110, 100]⟩, .string ⟨#[100, 114, 111, 112]⟩, .string ⟨#[99, 97, 108, 108]⟩, .string ⟨#[99, 97, 108, 108, 100, 121, 110]⟩, .string ⟨#[110, 101, 119]⟩, .string ⟨#[116, 101, 115, 116]⟩, .string ⟨#[106, 117, 109, 112]⟩, .string ⟨#[105, 102]⟩, .string ⟨#[112, 114, 105, 109]⟩, .string ⟨#[112, 97, 99, 107]⟩, .string ⟨#[114, 101, 116]⟩] 9)).heap[w.heap.size]? = some (.cells #[.int .i64 (k : Int), .int .i64 x.fA, .int .i64 x.fB, .string x.fTrait, .string x.fName] 26 (0, 0)) from alloc_lt (by simp) (alloc_at rfl))
    have hl : w.heap.size < ((w.alloc (.cells #[.int .i64 (k : Int), .int .i64 x.fA, .int .i64 x.fB, .string x.fTrait, .string x.fName] 26)).alloc (.cells #[.string ⟨#[63]⟩, .string ⟨#[112, 117, 115, 104]⟩, .string ⟨#[98, 111, 111, 108]⟩, .string ⟨#[108, 111, 97, 100]⟩, .string ⟨#[98, 105, 110, 100]⟩, .string ⟨#[100, 114, 111, 112]⟩, .string ⟨#[99, 97, 108, 108]⟩, .string ⟨#[99, 97, 108, 108, 100, 121, 110]⟩, .string ⟨#[110, 101, 119]⟩, .string ⟨#[116, 101, 115, 116]⟩, .string ⟨#[106, 117, 109, 112]⟩, .string ⟨#[105, 102]⟩, .string ⟨#[112, 114, 105, 109]⟩, .string ⟨#[112, 97, 99, 107]⟩, .string ⟨#[114, 101, 116]⟩] 9)).heap.size := by simp; omega
    have Ht := Lib.hid (Tab.below ht hV)
    have gA : ∀ w', Below ((w.alloc (.cells #[.int .i64 (k : Int), .int .i64 x.fA, .int .i64 x.fB, .string x.fTrait, .string x.fName] 26)).alloc (.cells #[.string ⟨#[63]⟩, .string ⟨#[112, 117, 115, 104]⟩, .string ⟨#[98, 111, 111, 108]⟩, .string ⟨#[108, 111, 97, 100]⟩, .string ⟨#[98, 105, 110, 100]⟩, .string ⟨#[100, 114, 111, 112]⟩, .string ⟨#[99, 97, 108, 108]⟩, .string ⟨#[99, 97, 108, 108, 100, 121, 110]⟩, .string ⟨#[110, 101, 119]⟩, .string ⟨#[116, 101, 115, 116]⟩, .string ⟨#[106, 117, 109, 112]⟩, .string ⟨#[105, 102]⟩, .string ⟨#[112, 114, 105, 109]⟩, .string ⟨#[112, 97, 99, 107]⟩, .string ⟨#[114, 101, 116]⟩] 9)).heap.size ((w.alloc (.cells #[.int .i64 (k : Int), .int .i64 x.fA, .int .i64 x.fB, .string x.fTrait, .string x.fName] 26)).alloc (.cells #[.string ⟨#[63]⟩, .string ⟨#[112, 117, 115, 104]⟩, .string ⟨#[98, 111, 111, 108]⟩, .string ⟨#[108, 111, 97, 100]⟩, .string ⟨#[98, 105, 110, 100]⟩, .string ⟨#[100, 114, 111, 112]⟩, .string ⟨#[99, 97, 108, 108]⟩, .string ⟨#[99, 97, 108, 108, 100, 121, 110]⟩, .string ⟨#[110, 101, 119]⟩, .string ⟨#[116, 101, 115, 116]⟩, .string ⟨#[106, 117, 109, 112]⟩, .string ⟨#[105, 102]⟩, .string ⟨#[112, 114, 105, 109]⟩, .string ⟨#[112, 97, 99, 107]⟩, .string ⟨#[114, 101, 116]⟩] 9)) w' → w'.cell? ⟨w.heap.size, 1, none⟩ = some (.int .i64 x.fA) := fun w' h => cell_row HR.out hl h 1
    have gB : ∀ w', Below ((w.alloc (.cells #[.int .i64 (k : Int), .int .i64 x.fA, .int .i64 x.fB, .string x.fTrait, .string x.fName] 26)).alloc (.cells #[.string ⟨#[63]⟩, .string ⟨#[112, 117, 115, 104]⟩, .string ⟨#[98, 111, 111, 108]⟩, .string ⟨#[108, 111, 97, 100]⟩, .string ⟨#[98, 105, 110, 100]⟩, .string ⟨#[100, 114, 111, 112]⟩, .string ⟨#[99, 97, 108, 108]⟩, .string ⟨#[99, 97, 108, 108, 100, 121, 110]⟩, .string ⟨#[110, 101, 119]⟩, .string ⟨#[116, 101, 115, 116]⟩, .string ⟨#[106, 117, 109, 112]⟩, .string ⟨#[105, 102]⟩, .string ⟨#[112, 114, 105, 109]⟩, .string ⟨#[112, 97, 99, 107]⟩, .string ⟨#[114, 101, 116]⟩] 9)).heap.size ((w.alloc (.cells #[.int .i64 (k : Int), .int .i64 x.fA, .int .i64 x.fB, .string x.fTrait, .string x.fName] 26)).alloc (.cells #[.string ⟨#[63]⟩, .string ⟨#[112, 117, 115, 104]⟩, .string ⟨#[98, 111, 111, 108]⟩, .string ⟨#[108, 111, 97, 100]⟩, .string ⟨#[98, 105, 110, 100]⟩, .string ⟨#[100, 114, 111, 112]⟩, .string ⟨#[99, 97, 108, 108]⟩, .string ⟨#[99, 97, 108, 108, 100, 121, 110]⟩, .string ⟨#[110, 101, 119]⟩, .string ⟨#[116, 101, 115, 116]⟩, .string ⟨#[106, 117, 109, 112]⟩, .string ⟨#[105, 102]⟩, .string ⟨#[112, 114, 105, 109]⟩, .string ⟨#[112, 97, 99, 107]⟩, .string ⟨#[114, 101, 116]⟩] 9)) w' → w'.cell? ⟨w.heap.size, 2, none⟩ = some (.int .i64 x.fB) := fun w' h => cell_row HR.out hl h 2
    have hI0 : Below ((w.alloc (.cells #[.int .i64 (k : Int), .int .i64 x.fA, .int .i64 x.fB, .string x.fTrait, .string x.fName] 26)).alloc (.cells #[.string ⟨#[63]⟩, .string ⟨#[112, 117, 115, 104]⟩, .string ⟨#[98, 111, 111, 108]⟩, .string ⟨#[108, 111, 97, 100]⟩, .string ⟨#[98, 105, 110, 100]⟩, .string ⟨#[100, 114, 111, 112]⟩, .string ⟨#[99, 97, 108, 108]⟩, .string ⟨#[99, 97, 108, 108, 100, 121, 110]⟩, .string ⟨#[110, 101, 119]⟩, .string ⟨#[116, 101, 115, 116]⟩, .string ⟨#[106, 117, 109, 112]⟩, .string ⟨#[105, 102]⟩, .string ⟨#[112, 114, 105, 109]⟩, .string ⟨#[112, 97, 99, 107]⟩, .string ⟨#[114, 101, 116]⟩] 9)).heap.size ((w.alloc (.cells #[.int .i64 (k : Int), .int .i64 x.fA, .int .i64 x.fB, .string x.fTrait, .string x.fName] 26)).alloc (.cells #[.string ⟨#[63]⟩, .string ⟨#[112, 117, 115, 104]⟩, .string ⟨#[98, 111, 111, 108]⟩, .string ⟨#[108, 111, 97, 100]⟩, .string ⟨#[98, 105, 110, 100]⟩, .string ⟨#[100, 114, 111, 112]⟩, .string ⟨#[99, 97, 108, 108]⟩, .string ⟨#[99, 97, 108, 108, 100, 121, 110]⟩, .string ⟨#[110, 101, 119]⟩, .string ⟨#[116, 101, 115, 116]⟩, .string ⟨#[106, 117, 109, 112]⟩, .string ⟨#[105, 102]⟩, .string ⟨#[112, 114, 105, 109]⟩, .string ⟨#[112, 97, 99, 107]⟩, .string ⟨#[114, 101, 116]⟩] 9)) ((w.alloc (.cells #[.int .i64 (k : Int), .int .i64 x.fA, .int .i64 x.fB, .string x.fTrait, .string x.fName] 26)).alloc (.cells #[.string ⟨#[63]⟩, .string ⟨#[112, 117, 115, 104]⟩, .string ⟨#[98, 111, 111, 108]⟩, .string ⟨#[108, 111, 97, 100]⟩, .string ⟨#[98, 105, 110, 100]⟩, .string ⟨#[100, 114, 111, 112]⟩, .string ⟨#[99, 97, 108, 108]⟩, .string ⟨#[99, 97, 108, 108, 100, 121, 110]⟩, .string ⟨#[110, 101, 119]⟩, .string ⟨#[116, 101, 115, 116]⟩, .string ⟨#[106, 117, 109, 112]⟩, .string ⟨#[105, 102]⟩, .string ⟨#[112, 114, 105, 109]⟩, .string ⟨#[112, 97, 99, 107]⟩, .string ⟨#[114, 101, 116]⟩] 9)).drew := (Below.refl _ _).drew
    go_enter Tryd.func7, Tryd.ntmps7
    go_wp2_with fail
    refine rg 9 (Below ((w.alloc (.cells #[.int .i64 (k : Int), .int .i64 x.fA, .int .i64 x.fB, .string x.fTrait, .string x.fName] 26)).alloc (.cells #[.string ⟨#[63]⟩, .string ⟨#[112, 117, 115, 104]⟩, .string ⟨#[98, 111, 111, 108]⟩, .string ⟨#[108, 111, 97, 100]⟩, .string ⟨#[98, 105, 110, 100]⟩, .string ⟨#[100, 114, 111, 112]⟩, .string ⟨#[99, 97, 108, 108]⟩, .string ⟨#[99, 97, 108, 108, 100, 121, 110]⟩, .string ⟨#[110, 101, 119]⟩, .string ⟨#[116, 101, 115, 116]⟩, .string ⟨#[106, 117, 109, 112]⟩, .string ⟨#[105, 102]⟩, .string ⟨#[112, 114, 105, 109]⟩, .string ⟨#[112, 97, 99, 107]⟩, .string ⟨#[114, 101, 116]⟩] 9)).heap.size ((w.alloc (.cells #[.int .i64 (k : Int), .int .i64 x.fA, .int .i64 x.fB, .string x.fTrait, .string x.fName] 26)).alloc (.cells #[.string ⟨#[63]⟩, .string ⟨#[112, 117, 115, 104]⟩, .string ⟨#[98, 111, 111, 108]⟩, .string ⟨#[108, 111, 97, 100]⟩, .string ⟨#[98, 105, 110, 100]⟩, .string ⟨#[100, 114, 111, 112]⟩, .string ⟨#[99, 97, 108, 108]⟩, .string ⟨#[99, 97, 108, 108, 100, 121, 110]⟩, .string ⟨#[110, 101, 119]⟩, .string ⟨#[116, 101, 115, 116]⟩, .string ⟨#[106, 117, 109, 112]⟩, .string ⟨#[105, 102]⟩, .string ⟨#[112, 114, 105, 109]⟩, .string ⟨#[112, 97, 99, 107]⟩, .string ⟨#[114, 101, 116]⟩] 9))) (by kernel_rfl) rfl ?_
    refine rg_seg (fuel := 4) [0, 1, 2, 4, 5] hI0 (by kernel_rfl) rfl ?_
    simp only [pick, List.getElem?_cons_zero, List.getElem?_cons_succ]
    iterate 5 (refine sg_fix _ rfl (fun w' hI => by have := gA w' hI; have := gB w' hI; go_simp; first | rfl | rw [if_neg (by omega)]) ?_; simp only [Act.put, List.setIfInBounds_toArray, List.set_cons_zero, List.set_cons_succ])
    refine sg_nil ?_
    refine rg_one (fuel := 3) 3 (by kernel_rfl) rfl (fun K0 hK0 => ?_)
    simp only [pick, List.getElem?_cons_zero, List.getElem?_cons_succ]
    refine rg_call rfl _ _ (by go_simp; exact ⟨rfl, rfl⟩) ?_
    refine (implFormatInt_c _ hA _ (Ht.out.below hI0)).mono ?_
    rintro e u1 ⟨rfl, hB1⟩
    have hI1 := hI0.trans (hB1.mono hI0.size)
    refine ⟨_, rfl, hK0 _ _ hI1 ?_⟩
    simp only [Act.put, List.setIfInBounds_toArray, List.set_cons_zero, List.set_cons_succ]
    refine rg_one (fuel := 2) 6 (by kernel_rfl) rfl (fun K1 hK1 => ?_)
    simp only [pick, List.getElem?_cons_zero, List.getElem?_cons_succ]
    refine rg_call rfl _ _ (by go_simp; exact ⟨rfl, rfl⟩) ?_
    refine (implFormatInt_c _ hB _ (Ht.out.below hI1)).mono ?_
    rintro e u2 ⟨rfl, hB2⟩
    have hI2 := hI1.trans (hB2.mono hI1.size)
    refine ⟨_, rfl, hK1 _ _ hI2 ?_⟩
    simp only [Act.put, List.setIfInBounds_toArray, List.set_cons_zero, List.set_cons_succ]
    refine rg_one (fuel := 1) 7 (by kernel_rfl) rfl (fun K2 hK2 => ?_)
    simp only [pick, List.getElem?_cons_zero, List.getElem?_cons_succ]
    refine rg_bs rfl 30 3 _ rfl Tryd.underlying30 sinfo9 [.string (fmtName (k : Int)), .string (itoaB x.fA), .string (itoaB x.fB)] rfl (by intro v hv; simp only [List.mem_cons, List.not_mem_nil, or_false] at hv; rcases hv with rfl | rfl | rfl <;> rfl) rfl (by decide) (by decide) ?_
    have hI3 : Below ((w.alloc (.cells #[.int .i64 (k : Int), .int .i64 x.fA, .int .i64 x.fB, .string x.fTrait, .string x.fName] 26)).alloc (.cells #[.string ⟨#[63]⟩, .string ⟨#[112, 117, 115, 104]⟩, .string ⟨#[98, 111, 111, 108]⟩, .string ⟨#[108, 111, 97, 100]⟩, .string ⟨#[98, 105, 110, 100]⟩, .string ⟨#[100, 114, 111, 112]⟩, .string ⟨#[99, 97, 108, 108]⟩, .string ⟨#[99, 97, 108, 108, 100, 121, 110]⟩, .string ⟨#[110, 101, 119]⟩, .string ⟨#[116, 101, 115, 116]⟩, .string ⟨#[106, 117, 109, 112]⟩, .string ⟨#[105, 102]⟩, .string ⟨#[112, 114, 105, 109]⟩, .string ⟨#[112, 97, 99, 107]⟩, .string ⟨#[114, 101, 116]⟩] 9)).heap.size ((w.alloc (.cells #[.int .i64 (k : Int), .int .i64 x.fA, .int .i64 x.fB, .string x.fTrait, .string x.fName] 26)).alloc (.cells #[.string ⟨#[63]⟩, .string ⟨#[112, 117, 115, 104]⟩, .string ⟨#[98, 111, 111, 108]⟩, .string ⟨#[108, 111, 97, 100]⟩, .string ⟨#[98, 105, 110, 100]⟩, .string ⟨#[100, 114, 111, 112]⟩, .string ⟨#[99, 97, 108, 108]⟩, .string ⟨#[99, 97, 108, 108, 100, 121, 110]⟩, .string ⟨#[110, 101, 119]⟩, .string ⟨#[116, 101, 115, 116]⟩, .string ⟨#[106, 117, 109, 112]⟩, .string ⟨#[105, 102]⟩, .string ⟨#[112, 114, 105, 109]⟩, .string ⟨#[112, 97, 99, 107]⟩, .string ⟨#[114, 101, 116]⟩] 9)) (u2.alloc (.cells ([.string (fmtName (k : Int)), .string (itoaB x.fA), .string (itoaB x.fB)] : List Value).toArray 9)) := hI2.alloc hI2.size _
    refine hK2 _ _ hI3 ?_
    simp only [Act.put, List.setIfInBounds_toArray, List.set_cons_zero, List.set_cons_succ]
    refine rg_seg (fuel := 0) [8] hI3 (by kernel_rfl) rfl ?_
    simp only [pick, List.getElem?_cons_zero, List.getElem?_cons_succ]
    iterate 1 (refine sg_fix _ rfl (fun w' hI => by have := gA w' hI; have := gB w' hI; go_simp; first | rfl | rw [if_neg (by omega)]) ?_; simp only [Act.put, List.setIfInBounds_toArray, List.set_cons_zero, List.set_cons_succ])
    refine sg_nil (rg_end (by kernel_rfl) ?_)
    have hb3 : w.heap.size + 1 + 1 ≤ u2.heap.size := by have := hI2.size; simp at this; omega
    have HW := Lib.hid (show Words (u2.alloc (.cells ([.string (fmtName (k : Int)), .string (itoaB x.fA), .string (itoaB x.fB)] : List Value).toArray 9)) u2.heap.size (.slice (some ⟨u2.heap.size, 0, none⟩) 3 3) [fmtName (k : Int), itoaB x.fA, itoaB x.fB] from ⟨rfl, .inr ⟨u2.heap.size, 3, _, rfl, Nat.le_refl _, alloc_at rfl, Nat.le_refl _, by simp [maxLen], rfl, rfl⟩⟩)
    obtain ⟨u3, hu3⟩ : ∃ u3, u3 = u2.alloc (.cells ([.string (fmtName (k : Int)), .string (itoaB x.fA), .string (itoaB x.fB)] : List Value).toArray 9) := ⟨_, rfl⟩
    rw [← hu3] at hI3 HW ⊢
    have y3 : u2.heap.size ≤ u3.heap.size := by rw [hu3]; simp
    clear hu3 gA gB hI0 hI1 hI2 hB1 hB2
    have HV3 := Lib.hid (hV.trans (hI3.mono hV.size))
    have gT : u3.cell? ⟨w.heap.size, 3, none⟩ = some (.string x.fTrait) := cell_row HR.out hl hI3 3
    have gN : u3.cell? ⟨w.heap.size, 4, none⟩ = some (.string x.fName) := cell_row HR.out hl hI3 4
    by_cases hT : x.fTrait = ⟨#[]⟩
    · have bT : x.fTrait.toList.isEmpty = true := by rw [hT, ba_nil]; rfl
      have HT := Lib.hid hT; clear hT
      by_cases hN : x.fName = ⟨#[]⟩
      · have bN : x.fName.toList.isEmpty = true := by rw [hN, ba_nil]; rfl
        have HN := Lib.hid hN; clear hN
        have hlen : (joinB [fmtName (k : Int), itoaB x.fA, itoaB x.fB]).size ≤ 140737488355328 := by rw [joinB_three]; simp only [ByteArray.size_append, sz32]; omega
        go_wp2_with fail
        refine (implJoin_c _ [fmtName (k : Int), itoaB x.fA, itoaB x.fB] u2.heap.size (by simp) (by simp) hlen _ HW.out).mono ?_
        rintro e wz ⟨rfl, hZ⟩
        go_wp2
        go_ret
        refine ⟨?_, hV.trans ((hI3.trans (hZ.mono hI3.size)).mono hV.size)⟩
        unfold fmtI
        rw [fmtT_nil HN.out, fmtT_nil HT.out, fmtBase, Hx.out]
        exact congrArg (fun z => Ending.returned (Value.string z)) (joinB_three _ _ _)
      · have bN : x.fName.toList.isEmpty = false := by simpa using fun h => hN (ba_ext (h.trans ba_nil.symm))
        have HN := Lib.hid hN; clear hN
        have hC3 : Below u3.heap.size u3 (u3.alloc (.cells #[.string x.fName] 9)) := (Below.refl _ _).alloc (Nat.le_refl _) _
        have HW3 := Lib.hid (HW.out.below hC3)
        have HU3 := Lib.hid (show (u3.alloc (.cells #[.string x.fName] 9)).cell? ⟨u3.heap.size, 0, none⟩ = some (.string x.fName) from row_cell (alloc_at rfl) 0)
        have y3x : u2.heap.size ≤ (u3.alloc (.cells #[.string x.fName] 9)).heap.size := Nat.le_trans y3 hC3.size
        go_wp2_with (with_reducible refine apS (v := (.slice (some ⟨u2.heap.size, 0, none⟩) 3 3)) (ws := [fmtName (k : Int), itoaB x.fA, itoaB x.fB]) rfl _ _ rfl rfl HW3.out u3.heap.size rfl x.fName HU3.out (by simp) y3x ?_)
        intro v4 u4 hw3 hD3
        have y4 : u2.heap.size ≤ u4.heap.size := Nat.le_trans y3x hD3.size
        have hI4 : Below ((w.alloc (.cells #[.int .i64 (k : Int), .int .i64 x.fA, .int .i64 x.fB, .string x.fTrait, .string x.fName] 26)).alloc (.cells #[.string ⟨#[63]⟩, .string ⟨#[112, 117, 115, 104]⟩, .string ⟨#[98, 111, 111, 108]⟩, .string ⟨#[108, 111, 97, 100]⟩, .string ⟨#[98, 105, 110, 100]⟩, .string ⟨#[100, 114, 111, 112]⟩, .string ⟨#[99, 97, 108, 108]⟩, .string ⟨#[99, 97, 108, 108, 100, 121, 110]⟩, .string ⟨#[110, 101, 119]⟩, .string ⟨#[116, 101, 115, 116]⟩, .string ⟨#[106, 117, 109, 112]⟩, .string ⟨#[105, 102]⟩, .string ⟨#[112, 114, 105, 109]⟩, .string ⟨#[112, 97, 99, 107]⟩, .string ⟨#[114, 101, 116]⟩] 9)).heap.size ((w.alloc (.cells #[.int .i64 (k : Int), .int .i64 x.fA, .int .i64 x.fB, .string x.fTrait, .string x.fName] 26)).alloc (.cells #[.string ⟨#[63]⟩, .string ⟨#[112, 117, 115, 104]⟩, .string ⟨#[98, 111, 111, 108]⟩, .string ⟨#[108, 111, 97, 100]⟩, .string ⟨#[98, 105, 110, 100]⟩, .string ⟨#[100, 114, 111, 112]⟩, .string ⟨#[99, 97, 108, 108]⟩, .string ⟨#[99, 97, 108, 108, 100, 121, 110]⟩, .string ⟨#[110, 101, 119]⟩, .string ⟨#[116, 101, 115, 116]⟩, .string ⟨#[106, 117, 109, 112]⟩, .string ⟨#[105, 102]⟩, .string ⟨#[112, 114, 105, 109]⟩, .string ⟨#[112, 97, 99, 107]⟩, .string ⟨#[114, 101, 116]⟩] 9)) u4 := hI3.trans ((hC3.mono hI3.size).trans (hD3.mono (by have := hb3; simp; omega)))
        have HW3' := Lib.hid (show Words u4 u2.heap.size v4 [fmtName (k : Int), itoaB x.fA, itoaB x.fB, x.fName] from hw3)
        have gN3 : u4.cell? ⟨w.heap.size, 4, none⟩ = some (.string x.fName) := cell_row HR.out hl hI4 4
        clear hw3 hC3 hD3 HW3 HU3
        have hlen : (joinB [fmtName (k : Int), itoaB x.fA, itoaB x.fB, x.fName]).size ≤ 140737488355328 := by rw [joinB_four]; simp only [ByteArray.size_append, sz32]; omega
        go_wp2_with fail
        refine (implJoin_c _ [fmtName (k : Int), itoaB x.fA, itoaB x.fB, x.fName] u2.heap.size (by simp) (by simp) hlen _ HW3'.out).mono ?_
        rintro e wz ⟨rfl, hZ⟩
        go_wp2
        go_ret
        refine ⟨?_, hV.trans ((hI4.trans (hZ.mono hI4.size)).mono hV.size)⟩
        unfold fmtI
        rw [fmtT_cons HN.out, fmtT_nil HT.out, fmtBase, Hx.out]
        exact congrArg (fun z => Ending.returned (Value.string z)) (joinB_four _ _ _ _)
    · have bT : x.fTrait.toList.isEmpty = false := by simpa using fun h => hT (ba_ext (h.trans ba_nil.symm))
      have HT := Lib.hid hT; clear hT
      by_cases hN : x.fName = ⟨#[]⟩
      · have bN : x.fName.toList.isEmpty = true := by rw [hN, ba_nil]; rfl
        have HN := Lib.hid hN; clear hN
        have hC3 : Below u3.heap.size u3 (u3.alloc (.cells #[.string x.fTrait] 9)) := (Below.refl _ _).alloc (Nat.le_refl _) _
        have HW3 := Lib.hid (HW.out.below hC3)
        have HU3 := Lib.hid (show (u3.alloc (.cells #[.string x.fTrait] 9)).cell? ⟨u3.heap.size, 0, none⟩ = some (.string x.fTrait) from row_cell (alloc_at rfl) 0)
        have y3x : u2.heap.size ≤ (u3.alloc (.cells #[.string x.fTrait] 9)).heap.size := Nat.le_trans y3 hC3.size
        go_wp2_with (with_reducible refine apS (v := (.slice (some ⟨u2.heap.size, 0, none⟩) 3 3)) (ws := [fmtName (k : Int), itoaB x.fA, itoaB x.fB]) rfl _ _ rfl rfl HW3.out u3.heap.size rfl x.fTrait HU3.out (by simp) y3x ?_)
        intro v4 u4 hw3 hD3
        have y4 : u2.heap.size ≤ u4.heap.size := Nat.le_trans y3x hD3.size
        have hI4 : Below ((w.alloc (.cells #[.int .i64 (k : Int), .int .i64 x.fA, .int .i64 x.fB, .string x.fTrait, .string x.fName] 26)).alloc (.cells #[.string ⟨#[63]⟩, .string ⟨#[112, 117, 115, 104]⟩, .string ⟨#[98, 111, 111, 108]⟩, .string ⟨#[108, 111, 97, 100]⟩, .string ⟨#[98, 105, 110, 100]⟩, .string ⟨#[100, 114, 111, 112]⟩, .string ⟨#[99, 97, 108, 108]⟩, .string ⟨#[99, 97, 108, 108, 100, 121, 110]⟩, .string ⟨#[110, 101, 119]⟩, .string ⟨#[116, 101, 115, 116]⟩, .string ⟨#[106, 117, 109, 112]⟩, .string ⟨#[105, 102]⟩, .string ⟨#[112, 114, 105, 109]⟩, .string ⟨#[112, 97, 99, 107]⟩, .string ⟨#[114, 101, 116]⟩] 9)).heap.size ((w.alloc (.cells #[.int .i64 (k : Int), .int .i64 x.fA, .int .i64 x.fB, .string x.fTrait, .string x.fName] 26)).alloc (.cells #[.string ⟨#[63]⟩, .string ⟨#[112, 117, 115, 104]⟩, .string ⟨#[98, 111, 111, 108]⟩, .string ⟨#[108, 111, 97, 100]⟩, .string ⟨#[98, 105, 110, 100]⟩, .string ⟨#[100, 114, 111, 112]⟩, .string ⟨#[99, 97, 108, 108]⟩, .string ⟨#[99, 97, 108, 108, 100, 121, 110]⟩, .string ⟨#[110, 101, 119]⟩, .string ⟨#[116, 101, 115, 116]⟩, .string ⟨#[106, 117, 109, 112]⟩, .string ⟨#[105, 102]⟩, .string ⟨#[112, 114, 105, 109]⟩, .string ⟨#[112, 97, 99, 107]⟩, .string ⟨#[114, 101, 116]⟩] 9)) u4 := hI3.trans ((hC3.mono hI3.size).trans (hD3.mono (by have := hb3; simp; omega)))
        have HW3' := Lib.hid (show Words u4 u2.heap.size v4 [fmtName (k : Int), itoaB x.fA, itoaB x.fB, x.fTrait] from hw3)
        have gN3 : u4.cell? ⟨w.heap.size, 4, none⟩ = some (.string x.fName) := cell_row HR.out hl hI4 4
        clear hw3 hC3 hD3 HW3 HU3
        have hlen : (joinB [fmtName (k : Int), itoaB x.fA, itoaB x.fB, x.fTrait]).size ≤ 140737488355328 := by rw [joinB_four]; simp only [ByteArray.size_append, sz32]; omega
        go_wp2_with fail
        refine (implJoin_c _ [fmtName (k : Int), itoaB x.fA, itoaB x.fB, x.fTrait] u2.heap.size (by simp) (by simp) hlen _ HW3'.out).mono ?_
        rintro e wz ⟨rfl, hZ⟩
        go_wp2
        go_ret
        refine ⟨?_, hV.trans ((hI4.trans (hZ.mono hI4.size)).mono hV.size)⟩
        unfold fmtI
        rw [fmtT_nil HN.out, fmtT_cons HT.out, fmtBase, Hx.out]
        exact congrArg (fun z => Ending.returned (Value.string z)) (joinB_four _ _ _ _)
      · have bN : x.fName.toList.isEmpty = false := by simpa using fun h => hN (ba_ext (h.trans ba_nil.symm))
        have HN := Lib.hid hN; clear hN
        have hC3 : Below u3.heap.size u3 (u3.alloc (.cells #[.string x.fTrait] 9)) := (Below.refl _ _).alloc (Nat.le_refl _) _
        have HW3 := Lib.hid (HW.out.below hC3)
        have HU3 := Lib.hid (show (u3.alloc (.cells #[.string x.fTrait] 9)).cell? ⟨u3.heap.size, 0, none⟩ = some (.string x.fTrait) from row_cell (alloc_at rfl) 0)
        have y3x : u2.heap.size ≤ (u3.alloc (.cells #[.string x.fTrait] 9)).heap.size := Nat.le_trans y3 hC3.size
        go_wp2_with (with_reducible refine apS (v := (.slice (some ⟨u2.heap.size, 0, none⟩) 3 3)) (ws := [fmtName (k : Int), itoaB x.fA, itoaB x.fB]) rfl _ _ rfl rfl HW3.out u3.heap.size rfl x.fTrait HU3.out (by simp) y3x ?_)
        intro v4 u4 hw3 hD3
        have y4 : u2.heap.size ≤ u4.heap.size := Nat.le_trans y3x hD3.size
        have hI4 : Below ((w.alloc (.cells #[.int .i64 (k : Int), .int .i64 x.fA, .int .i64 x.fB, .string x.fTrait, .string x.fName] 26)).alloc (.cells #[.string ⟨#[63]⟩, .string ⟨#[112, 117, 115, 104]⟩, .string ⟨#[98, 111, 111, 108]⟩, .string ⟨#[108, 111, 97, 100]⟩, .string ⟨#[98, 105, 110, 100]⟩, .string ⟨#[100, 114, 111, 112]⟩, .string ⟨#[99, 97, 108, 108]⟩, .string ⟨#[99, 97, 108, 108, 100, 121, 110]⟩, .string ⟨#[110, 101, 119]⟩, .string ⟨#[116, 101, 115, 116]⟩, .string ⟨#[106, 117, 109, 112]⟩, .string ⟨#[105, 102]⟩, .string ⟨#[112, 114, 105, 109]⟩, .string ⟨#[112, 97, 99, 107]⟩, .string ⟨#[114, 101, 116]⟩] 9)).heap.size ((w.alloc (.cells #[.int .i64 (k : Int), .int .i64 x.fA, .int .i64 x.fB, .string x.fTrait, .string x.fName] 26)).alloc (.cells #[.string ⟨#[63]⟩, .string ⟨#[112, 117, 115, 104]⟩, .string ⟨#[98, 111, 111, 108]⟩, .string ⟨#[108, 111, 97, 100]⟩, .string ⟨#[98, 105, 110, 100]⟩, .string ⟨#[100, 114, 111, 112]⟩, .string ⟨#[99, 97, 108, 108]⟩, .string ⟨#[99, 97, 108, 108, 100, 121, 110]⟩, .string ⟨#[110, 101, 119]⟩, .string ⟨#[116, 101, 115, 116]⟩, .string ⟨#[106, 117, 109, 112]⟩, .string ⟨#[105, 102]⟩, .string ⟨#[112, 114, 105, 109]⟩, .string ⟨#[112, 97, 99, 107]⟩, .string ⟨#[114, 101, 116]⟩] 9)) u4 := hI3.trans ((hC3.mono hI3.size).trans (hD3.mono (by have := hb3; simp; omega)))
        have HW3' := Lib.hid (show Words u4 u2.heap.size v4 [fmtName (k : Int), itoaB x.fA, itoaB x.fB, x.fTrait] from hw3)
        have gN3 : u4.cell? ⟨w.heap.size, 4, none⟩ = some (.string x.fName) := cell_row HR.out hl hI4 4
        clear hw3 hC3 hD3 HW3 HU3
        have hC4 : Below u4.heap.size u4 (u4.alloc (.cells #[.string x.fName] 9)) := (Below.refl _ _).alloc (Nat.le_refl _) _
        have HW4 := Lib.hid (HW3'.out.below hC4)
        have HU4 := Lib.hid (show (u4.alloc (.cells #[.string x.fName] 9)).cell? ⟨u4.heap.size, 0, none⟩ = some (.string x.fName) from row_cell (alloc_at rfl) 0)
        have y4x : u2.heap.size ≤ (u4.alloc (.cells #[.string x.fName] 9)).heap.size := Nat.le_trans y4 hC4.size
        go_wp2_with (with_reducible refine apS (v := v4) (ws := [fmtName (k : Int), itoaB x.fA, itoaB x.fB, x.fTrait]) rfl _ _ rfl rfl HW4.out u4.heap.size rfl x.fName HU4.out (by simp) y4x ?_)
        intro v5 u5 hw4 hD4
        have y5 : u2.heap.size ≤ u5.heap.size := Nat.le_trans y4x hD4.size
        have hI5 : Below ((w.alloc (.cells #[.int .i64 (k : Int), .int .i64 x.fA, .int .i64 x.fB, .string x.fTrait, .string x.fName] 26)).alloc (.cells #[.string ⟨#[63]⟩, .string ⟨#[112, 117, 115, 104]⟩, .string ⟨#[98, 111, 111, 108]⟩, .string ⟨#[108, 111, 97, 100]⟩, .string ⟨#[98, 105, 110, 100]⟩, .string ⟨#[100, 114, 111, 112]⟩, .string ⟨#[99, 97, 108, 108]⟩, .string ⟨#[99, 97, 108, 108, 100, 121, 110]⟩, .string ⟨#[110, 101, 119]⟩, .string ⟨#[116, 101, 115, 116]⟩, .string ⟨#[106, 117, 109, 112]⟩, .string ⟨#[105, 102]⟩, .string ⟨#[112, 114, 105, 109]⟩, .string ⟨#[112, 97, 99, 107]⟩, .string ⟨#[114, 101, 116]⟩] 9)).heap.size ((w.alloc (.cells #[.int .i64 (k : Int), .int .i64 x.fA, .int .i64 x.fB, .string x.fTrait, .string x.fName] 26)).alloc (.cells #[.string ⟨#[63]⟩, .string ⟨#[112, 117, 115, 104]⟩, .string ⟨#[98, 111, 111, 108]⟩, .string ⟨#[108, 111, 97, 100]⟩, .string ⟨#[98, 105, 110, 100]⟩, .string ⟨#[100, 114, 111, 112]⟩, .string ⟨#[99, 97, 108, 108]⟩, .string ⟨#[99, 97, 108, 108, 100, 121, 110]⟩, .string ⟨#[110, 101, 119]⟩, .string ⟨#[116, 101, 115, 116]⟩, .string ⟨#[106, 117, 109, 112]⟩, .string ⟨#[105, 102]⟩, .string ⟨#[112, 114, 105, 109]⟩, .string ⟨#[112, 97, 99, 107]⟩, .string ⟨#[114, 101, 116]⟩] 9)) u5 := hI4.trans ((hC4.mono hI4.size).trans (hD4.mono (by have := hb3; simp; omega)))
        have HW4' := Lib.hid (show Words u5 u2.heap.size v5 [fmtName (k : Int), itoaB x.fA, itoaB x.fB, x.fTrait, x.fName] from hw4)
        have gN4 : u5.cell? ⟨w.heap.size, 4, none⟩ = some (.string x.fName) := cell_row HR.out hl hI5 4
        clear hw4 hC4 hD4 HW4 HU4
        have hlen : (joinB [fmtName (k : Int), itoaB x.fA, itoaB x.fB, x.fTrait, x.fName]).size ≤ 140737488355328 := by rw [joinB_five]; simp only [ByteArray.size_append, sz32]; omega
        go_wp2_with fail
        refine (implJoin_c _ [fmtName (k : Int), itoaB x.fA, itoaB x.fB, x.fTrait, x.fName] u2.heap.size (by simp) (by simp) hlen _ HW4'.out).mono ?_
        rintro e wz ⟨rfl, hZ⟩
        go_wp2
        go_ret
        refine ⟨?_, hV.trans ((hI5.trans (hZ.mono hI5.size)).mono hV.size)⟩
        unfold fmtI
        rw [fmtT_cons HN.out, fmtT_cons HT.out, fmtBase, Hx.out]
        exact congrArg (fun z => Ending.returned (Value.string z)) (joinB_five _ _ _ _ _)
  · have Hn := Lib.hid (fmtName_out hin)
    rcases (show o ≤ 0 ∨ (0 < o ∧ 15 ≤ o) by omega) with h0 | ⟨h0, h15⟩
    · have d0 : ¬ (0 < o) := by omega
      have hV : Below w.heap.size w ((w.alloc (.cells #[.int .i64 o, .int .i64 x.fA, .int .i64 x.fB, .string x.fTrait, .string x.fName] 26)).alloc (.cells #[.string ⟨#[63]⟩, .string ⟨#[112, 117, 115, 104]⟩, .string ⟨#[98, 111, 111, 108]⟩, .string ⟨#[108, 111, 97, 100]⟩, .string ⟨#[98, 105, 110, 100]⟩, .string ⟨#[100, 114, 111, 112]⟩, .string ⟨#[99, 97, 108, 108]⟩, .string ⟨#[99, 97, 108, 108, 100, 121, 110]⟩, .string ⟨#[110, 101, 119]⟩, .string ⟨#[116, 101, 115, 116]⟩, .string ⟨#[106, 117, 109, 112]⟩, .string ⟨#[105, 102]⟩, .string ⟨#[112, 114, 105, 109]⟩, .string ⟨#[112, 97, 99, 107]⟩, .string ⟨#[114, 101, 116]⟩] 9)) := ((Below.refl _ _).alloc (Nat.le_refl _) _).alloc (by simp) _
      have HR := Lib.hid (show ((w.alloc (.cells #[.int .i64 o, .int .i64 x.fA, .int .i64 x.fB, .string x.fTrait, .string x.fName] 26)).alloc (.cells #[.string ⟨#[63]⟩, .string ⟨#[112, 117, 115, 104]⟩, .string ⟨#[98, 111, 111, 108]⟩, .string ⟨#[108, 111, 97, 100]⟩, .string ⟨#[98, 105, 110, 100]⟩, .string ⟨#[100, 114, 111, 112]⟩, .string ⟨#[99, 97, 108, 108]⟩, .string ⟨#[99, 97, 108, 108, 100, 121, 110]⟩, .string ⟨#[110, 101, 119]⟩, .string ⟨#[116, 101, 115, 116]⟩, .string ⟨#[106, 117, 109, 112]⟩, .string ⟨#[105, 102]⟩, .string ⟨#[112, 114, 105, 109]⟩, .string ⟨#[112, 97, 99, 107]⟩, .string ⟨#[114, 101, 116]⟩] 9)).heap[w.heap.size]? = some (.cells #[.int .i64 o, .int .i64 x.fA, .int .i64 x.fB, .string x.fTrait, .string x.fName] 26 (0, 0)) from alloc_lt (by simp) (alloc_at rfl))
      have hl : w.heap.size < ((w.alloc (.cells #[.int .i64 o, .int .i64 x.fA, .int .i64 x.fB, .string x.fTrait, .string x.fName] 26)).alloc (.cells #[.string ⟨#[63]⟩, .string ⟨#[112, 117, 115, 104]⟩, .string ⟨#[98, 111, 111, 108]⟩, .string ⟨#[108, 111, 97, 100]⟩, .string ⟨#[98, 105, 110, 100]⟩, .string ⟨#[100, 114, 111, 112]⟩, .string ⟨#[99, 97, 108, 108]⟩, .string ⟨#[99, 97, 108, 108, 100, 121, 110]⟩, .string ⟨#[110, 101, 119]⟩, .string ⟨#[116, 101, 115, 116]⟩, .string ⟨#[106, 117, 109, 112]⟩, .string ⟨#[105, 102]⟩, .string ⟨#[112, 114, 105, 109]⟩, .string ⟨#[112, 97, 99, 107]⟩, .string ⟨#[114, 101, 116]⟩] 9)).heap.size := by simp; omega
      have Ht := Lib.hid (Tab.below ht hV)
      have gA : ∀ w', Below ((w.alloc (.cells #[.int .i64 o, .int .i64 x.fA, .int .i64 x.fB, .string x.fTrait, .string x.fName] 26)).alloc (.cells #[.string ⟨#[63]⟩, .string ⟨#[112, 117, 115, 104]⟩, .string ⟨#[98, 111, 111, 108]⟩, .string ⟨#[108, 111, 97, 100]⟩, .string ⟨#[98, 105, 110, 100]⟩, .string ⟨#[100, 114, 111, 112]⟩, .string ⟨#[99, 97, 108, 108]⟩, .string ⟨#[99, 97, 108, 108, 100, 121, 110]⟩, .string ⟨#[110, 101, 119]⟩, .string ⟨#[116, 101, 115, 116]⟩, .string ⟨#[106, 117, 109, 112]⟩, .string ⟨#[105, 102]⟩, .string ⟨#[112, 114, 105, 109]⟩, .string ⟨#[112, 97, 99, 107]⟩, .string ⟨#[114, 101, 116]⟩] 9)).heap.size ((w.alloc (.cells #[.int .i64 o, .int .i64 x.fA, .int .i64 x.fB, .string x.fTrait, .string x.fName] 26)).alloc (.cells #[.string ⟨#[63]⟩, .string ⟨#[112, 117, 115, 104]⟩, .string ⟨#[98, 111, 111, 108]⟩, .string ⟨#[108, 111, 97, 100]⟩, .string ⟨#[98, 105, 110, 100]⟩, .string ⟨#[100, 114, 111, 112]⟩, .string ⟨#[99, 97, 108, 108]⟩, .string ⟨#[99, 97, 108, 108, 100, 121, 110]⟩, .string ⟨#[110, 101, 119]⟩, .string ⟨#[116, 101, 115, 116]⟩, .string ⟨#[106, 117, 109, 112]⟩, .string ⟨#[105, 102]⟩, .string ⟨#[112, 114, 105, 109]⟩, .string ⟨#[112, 97, 99, 107]⟩, .string ⟨#[114, 101, 116]⟩] 9)) w' → w'.cell? ⟨w.heap.size, 1, none⟩ = some (.int .i64 x.fA) := fun w' h => cell_row HR.out hl h 1
      have gB : ∀ w', Below ((w.alloc (.cells #[.int .i64 o, .int .i64 x.fA, .int .i64 x.fB, .string x.fTrait, .string x.fName] 26)).alloc (.cells #[.string ⟨#[63]⟩, .string ⟨#[112, 117, 115, 104]⟩, .string ⟨#[98, 111, 111, 108]⟩, .string ⟨#[108, 111, 97, 100]⟩, .string ⟨#[98, 105, 110, 100]⟩, .string ⟨#[100, 114, 111, 112]⟩, .string ⟨#[99, 97, 108, 108]⟩, .string ⟨#[99, 97, 108, 108, 100, 121, 110]⟩, .string ⟨#[110, 101, 119]⟩, .string ⟨#[116, 101, 115, 116]⟩, .string ⟨#[106, 117, 109, 112]⟩, .string ⟨#[105, 102]⟩, .string ⟨#[112, 114, 105, 109]⟩, .string ⟨#[112, 97, 99, 107]⟩, .string ⟨#[114, 101, 116]⟩] 9)).heap.size ((w.alloc (.cells #[.int .i64 o, .int .i64 x.fA, .int .i64 x.fB, .string x.fTrait, .string x.fName] 26)).alloc (.cells #[.string ⟨#[63]⟩, .string ⟨#[112, 117, 115, 104]⟩, .string ⟨#[98, 111, 111, 108]⟩, .string ⟨#[108, 111, 97, 100]⟩, .string ⟨#[98, 105, 110, 100]⟩, .string ⟨#[100, 114, 111, 112]⟩, .string ⟨#[99, 97, 108, 108]⟩, .string ⟨#[99, 97, 108, 108, 100, 121, 110]⟩, .string ⟨#[110, 101, 119]⟩, .string ⟨#[116, 101, 115, 116]⟩, .string ⟨#[106, 117, 109, 112]⟩, .string ⟨#[105, 102]⟩, .string ⟨#[112, 114, 105, 109]⟩, .string ⟨#[112, 97, 99, 107]⟩, .string ⟨#[114, 101, 116]⟩] 9)) w' → w'.cell? ⟨w.heap.size, 2, none⟩ = some (.int .i64 x.fB) := fun w' h => cell_row HR.out hl h 2
      have hI0 : Below ((w.alloc (.cells #[.int .i64 o, .int .i64 x.fA, .int .i64 x.fB, .string x.fTrait, .string x.fName] 26)).alloc (.cells #[.string ⟨#[63]⟩, .string ⟨#[112, 117, 115, 104]⟩, .string ⟨#[98, 111, 111, 108]⟩, .string ⟨#[108, 111, 97, 100]⟩, .string ⟨#[98, 105, 110, 100]⟩, .string ⟨#[100, 114, 111, 112]⟩, .string ⟨#[99, 97, 108, 108]⟩, .string ⟨#[99, 97, 108, 108, 100, 121, 110]⟩, .string ⟨#[110, 101, 119]⟩, .string ⟨#[116, 101, 115, 116]⟩, .string ⟨#[106, 117, 109, 112]⟩, .string ⟨#[105, 102]⟩, .string ⟨#[112, 114, 105, 109]⟩, .string ⟨#[112, 97, 99, 107]⟩, .string ⟨#[114, 101, 116]⟩] 9)).heap.size ((w.alloc (.cells #[.int .i64 o, .int .i64 x.fA, .int .i64 x.fB, .string x.fTrait, .string x.fName] 26)).alloc (.cells #[.string ⟨#[63]⟩, .string ⟨#[112, 117, 115, 104]⟩, .string ⟨#[98, 111, 111, 108]⟩, .string ⟨#[108, 111, 97, 100]⟩, .string ⟨#[98, 105, 110, 100]⟩, .string ⟨#[100, 114, 111, 112]⟩, .string ⟨#[99, 97, 108, 108]⟩, .string ⟨#[99, 97, 108, 108, 100, 121, 110]⟩, .string ⟨#[110, 101, 119]⟩, .string ⟨#[116, 101, 115, 116]⟩, .string ⟨#[106, 117, 109, 112]⟩, .string ⟨#[105, 102]⟩, .string ⟨#[112, 114, 105, 109]⟩, .string ⟨#[112, 97, 99, 107]⟩, .string ⟨#[114, 101, 116]⟩] 9)) ((w.alloc (.cells #[.int .i64 o, .int .i64 x.fA, .int .i64 x.fB, .string x.fTrait, .string x.fName] 26)).alloc (.cells #[.string ⟨#[63]⟩, .string ⟨#[112, 117, 115, 104]⟩, .string ⟨#[98, 111, 111, 108]⟩, .string ⟨#[108, 111, 97, 100]⟩, .string ⟨#[98, 105, 110, 100]⟩, .string ⟨#[100, 114, 111, 112]⟩, .string ⟨#[99, 97, 108, 108]⟩, .string ⟨#[99, 97, 108, 108, 100, 121, 110]⟩, .string ⟨#[110, 101, 119]⟩, .string ⟨#[116, 101, 115, 116]⟩, .string ⟨#[106, 117, 109, 112]⟩, .string ⟨#[105, 102]⟩, .string ⟨#[112, 114, 105, 109]⟩, .string ⟨#[112, 97, 99, 107]⟩, .string ⟨#[114, 101, 116]⟩] 9)).drew := (Below.refl _ _).drew
      go_enter Tryd.func7, Tryd.ntmps7
      go_wp2_with fail
      refine rg 9 (Below ((w.alloc (.cells #[.int .i64 o, .int .i64 x.fA, .int .i64 x.fB, .string x.fTrait, .string x.fName] 26)).alloc (.cells #[.string ⟨#[63]⟩, .string ⟨#[112, 117, 115, 104]⟩, .string ⟨#[98, 111, 111, 108]⟩, .string ⟨#[108, 111, 97, 100]⟩, .string ⟨#[98, 105, 110, 100]⟩, .string ⟨#[100, 114, 111, 112]⟩, .string ⟨#[99, 97, 108, 108]⟩, .string ⟨#[99, 97, 108, 108, 100, 121, 110]⟩, .string ⟨#[110, 101, 119]⟩, .string ⟨#[116, 101, 115, 116]⟩, .string ⟨#[106, 117, 109, 112]⟩, .string ⟨#[105, 102]⟩, .string ⟨#[112, 114, 105, 109]⟩, .string ⟨#[112, 97, 99, 107]⟩, .string ⟨#[114, 101, 116]⟩] 9)).heap.size ((w.alloc (.cells #[.int .i64 o, .int .i64 x.fA, .int .i64 x.fB, .string x.fTrait, .string x.fName] 26)).alloc (.cells #[.string ⟨#[63]⟩, .string ⟨#[112, 117, 115, 104]⟩, .string ⟨#[98, 111, 111, 108]⟩, .string ⟨#[108, 111, 97, 100]⟩, .string ⟨#[98, 105, 110, 100]⟩, .string ⟨#[100, 114, 111, 112]⟩, .string ⟨#[99, 97, 108, 108]⟩, .string ⟨#[99, 97, 108, 108, 100, 121, 110]⟩, .string ⟨#[110, 101, 119]⟩, .string ⟨#[116, 101, 115, 116]⟩, .string ⟨#[106, 117, 109, 112]⟩, .string ⟨#[105, 102]⟩, .string ⟨#[112, 114, 105, 109]⟩, .string ⟨#[112, 97, 99, 107]⟩, .string ⟨#[114, 101, 116]⟩] 9))) (by kernel_rfl) rfl ?_
      refine rg_seg (fuel := 4) [0, 1, 2, 4, 5] hI0 (by kernel_rfl) rfl ?_
      simp only [pick, List.getElem?_cons_zero, List.getElem?_cons_succ]
      iterate 5 (refine sg_fix _ rfl (fun w' hI => by have := gA w' hI; have := gB w' hI; go_simp; first | rfl | rw [if_neg (by omega)]) ?_; simp only [Act.put, List.setIfInBounds_toArray, List.set_cons_zero, List.set_cons_succ])
      refine sg_nil ?_
      refine rg_one (fuel := 3) 3 (by kernel_rfl) rfl (fun K0 hK0 => ?_)
      simp only [pick, List.getElem?_cons_zero, List.getElem?_cons_succ]
      refine rg_call rfl _ _ (by go_simp; exact ⟨rfl, rfl⟩) ?_
      refine (implFormatInt_c _ hA _ (Ht.out.below hI0)).mono ?_
      rintro e u1 ⟨rfl, hB1⟩
      have hI1 := hI0.trans (hB1.mono hI0.size)
      refine ⟨_, rfl, hK0 _ _ hI1 ?_⟩
      simp only [Act.put, List.setIfInBounds_toArray, List.set_cons_zero, List.set_cons_succ]
      refine rg_one (fuel := 2) 6 (by kernel_rfl) rfl (fun K1 hK1 => ?_)
      simp only [pick, List.getElem?_cons_zero, List.getElem?_cons_succ]
      refine rg_call rfl _ _ (by go_simp; exact ⟨rfl, rfl⟩) ?_
      refine (implFormatInt_c _ hB _ (Ht.out.below hI1)).mono ?_
      rintro e u2 ⟨rfl, hB2⟩
      have hI2 := hI1.trans (hB2.mono hI1.size)
      refine ⟨_, rfl, hK1 _ _ hI2 ?_⟩
      simp only [Act.put, List.setIfInBounds_toArray, List.set_cons_zero, List.set_cons_succ]
      refine rg_one (fuel := 1) 7 (by kernel_rfl) rfl (fun K2 hK2 => ?_)
      simp only [pick, List.getElem?_cons_zero, List.getElem?_cons_succ]
      refine rg_bs rfl 30 3 _ rfl Tryd.underlying30 sinfo9 [.string (⟨#[63]⟩), .string (itoaB x.fA), .string (itoaB x.fB)] rfl (by intro v hv; simp only [List.mem_cons, List.not_mem_nil, or_false] at hv; rcases hv with rfl | rfl | rfl <;> rfl) rfl (by decide) (by decide) ?_
      have hI3 : Below ((w.alloc (.cells #[.int .i64 o, .int .i64 x.fA, .int .i64 x.fB, .string x.fTrait, .string x.fName] 26)).alloc (.cells #[.string ⟨#[63]⟩, .string ⟨#[112, 117, 115, 104]⟩, .string ⟨#[98, 111, 111, 108]⟩, .string ⟨#[108, 111, 97, 100]⟩, .string ⟨#[98, 105, 110, 100]⟩, .string ⟨#[100, 114, 111, 112]⟩, .string ⟨#[99, 97, 108, 108]⟩, .string ⟨#[99, 97, 108, 108, 100, 121, 110]⟩, .string ⟨#[110, 101, 119]⟩, .string ⟨#[116, 101, 115, 116]⟩, .string ⟨#[106, 117, 109, 112]⟩, .string ⟨#[105, 102]⟩, .string ⟨#[112, 114, 105, 109]⟩, .string ⟨#[112, 97, 99, 107]⟩, .string ⟨#[114, 101, 116]⟩] 9)).heap.size ((w.alloc (.cells #[.int .i64 o, .int .i64 x.fA, .int .i64 x.fB, .string x.fTrait, .string x.fName] 26)).alloc (.cells #[.string ⟨#[63]⟩, .string ⟨#[112, 117, 115, 104]⟩, .string ⟨#[98, 111, 111, 108]⟩, .string ⟨#[108, 111, 97, 100]⟩, .string ⟨#[98, 105, 110, 100]⟩, .string ⟨#[100, 114, 111, 112]⟩, .string ⟨#[99, 97, 108, 108]⟩, .string ⟨#[99, 97, 108, 108, 100, 121, 110]⟩, .string ⟨#[110, 101, 119]⟩, .string ⟨#[116, 101, 115, 116]⟩, .string ⟨#[106, 117, 109, 112]⟩, .string ⟨#[105, 102]⟩, .string ⟨#[112, 114, 105, 109]⟩, .string ⟨#[112, 97, 99, 107]⟩, .string ⟨#[114, 101, 116]⟩] 9)) (u2.alloc (.cells ([.string (⟨#[63]⟩), .string (itoaB x.fA), .string (itoaB x.fB)] : List Value).toArray 9)) := hI2.alloc hI2.size _
      refine hK2 _ _ hI3 ?_
      simp only [Act.put, List.setIfInBounds_toArray, List.set_cons_zero, List.set_cons_succ]
      refine rg_seg (fuel := 0) [8] hI3 (by kernel_rfl) rfl ?_
      simp only [pick, List.getElem?_cons_zero, List.getElem?_cons_succ]
      iterate 1 (refine sg_fix _ rfl (fun w' hI => by have := gA w' hI; have := gB w' hI; go_simp; first | rfl | rw [if_neg (by omega)]) ?_; simp only [Act.put, List.setIfInBounds_toArray, List.set_cons_zero, List.set_cons_succ])
      refine sg_nil (rg_end (by kernel_rfl) ?_)
      have hb3 : w.heap.size + 1 + 1 ≤ u2.heap.size := by have := hI2.size; simp at this; omega
      have HW := Lib.hid (show Words (u2.alloc (.cells ([.string (⟨#[63]⟩), .string (itoaB x.fA), .string (itoaB x.fB)] : List Value).toArray 9)) u2.heap.size (.slice (some ⟨u2.heap.size, 0, none⟩) 3 3) [⟨#[63]⟩, itoaB x.fA, itoaB x.fB] from ⟨rfl, .inr ⟨u2.heap.size, 3, _, rfl, Nat.le_refl _, alloc_at rfl, Nat.le_refl _, by simp [maxLen], rfl, rfl⟩⟩)
      obtain ⟨u3, hu3⟩ : ∃ u3, u3 = u2.alloc (.cells ([.string (⟨#[63]⟩), .string (itoaB x.fA), .string (itoaB x.fB)] : List Value).toArray 9) := ⟨_, rfl⟩
      rw [← hu3] at hI3 HW ⊢
      have y3 : u2.heap.size ≤ u3.heap.size := by rw [hu3]; simp
      clear hu3 gA gB hI0 hI1 hI2 hB1 hB2
      have HV3 := Lib.hid (hV.trans (hI3.mono hV.size))
      have gT : u3.cell? ⟨w.heap.size, 3, none⟩ = some (.string x.fTrait) := cell_row HR.out hl hI3 3
      have gN : u3.cell? ⟨w.heap.size, 4, none⟩ = some (.string x.fName) := cell_row HR.out hl hI3 4
      by_cases hT : x.fTrait = ⟨#[]⟩
      · have bT : x.fTrait.toList.isEmpty = true := by rw [hT, ba_nil]; rfl
        have HT := Lib.hid hT; clear hT
        by_cases hN : x.fName = ⟨#[]⟩
        · have bN : x.fName.toList.isEmpty = true := by rw [hN, ba_nil]; rfl
          have HN := Lib.hid hN; clear hN
          have hlen : (joinB [⟨#[63]⟩, itoaB x.fA, itoaB x.fB]).size ≤ 140737488355328 := by rw [joinB_three]; simp only [ByteArray.size_append, sz32, sz63]; omega
          go_wp2_with fail
          refine (implJoin_c _ [⟨#[63]⟩, itoaB x.fA, itoaB x.fB] u2.heap.size (by simp) (by simp) hlen _ HW.out).mono ?_
          rintro e wz ⟨rfl, hZ⟩
          go_wp2
          go_ret
          refine ⟨?_, hV.trans ((hI3.trans (hZ.mono hI3.size)).mono hV.size)⟩
          unfold fmtI
          rw [fmtT_nil HN.out, fmtT_nil HT.out, fmtBase, Hx.out, Hn.out]
          exact congrArg (fun z => Ending.returned (Value.string z)) (joinB_three _ _ _)
        · have bN : x.fName.toList.isEmpty = false := by simpa using fun h => hN (ba_ext (h.trans ba_nil.symm))
          have HN := Lib.hid hN; clear hN
          have hC3 : Below u3.heap.size u3 (u3.alloc (.cells #[.string x.fName] 9)) := (Below.refl _ _).alloc (Nat.le_refl _) _
          have HW3 := Lib.hid (HW.out.below hC3)
          have HU3 := Lib.hid (show (u3.alloc (.cells #[.string x.fName] 9)).cell? ⟨u3.heap.size, 0, none⟩ = some (.string x.fName) from row_cell (alloc_at rfl) 0)
          have y3x : u2.heap.size ≤ (u3.alloc (.cells #[.string x.fName] 9)).heap.size := Nat.le_trans y3 hC3.size
          go_wp2_with (with_reducible refine apS (v := (.slice (some ⟨u2.heap.size, 0, none⟩) 3 3)) (ws := [⟨#[63]⟩, itoaB x.fA, itoaB x.fB]) rfl _ _ rfl rfl HW3.out u3.heap.size rfl x.fName HU3.out (by simp) y3x ?_)
          intro v4 u4 hw3 hD3
          have y4 : u2.heap.size ≤ u4.heap.size := Nat.le_trans y3x hD3.size
          have hI4 : Below ((w.alloc (.cells #[.int .i64 o, .int .i64 x.fA, .int .i64 x.fB, .string x.fTrait, .string x.fName] 26)).alloc (.cells #[.string ⟨#[63]⟩, .string ⟨#[112, 117, 115, 104]⟩, .string ⟨#[98, 111, 111, 108]⟩, .string ⟨#[108, 111, 97, 100]⟩, .string ⟨#[98, 105, 110, 100]⟩, .string ⟨#[100, 114, 111, 112]⟩, .string ⟨#[99, 97, 108, 108]⟩, .string ⟨#[99, 97, 108, 108, 100, 121, 110]⟩, .string ⟨#[110, 101, 119]⟩, .string ⟨#[116, 101, 115, 116]⟩, .string ⟨#[106, 117, 109, 112]⟩, .string ⟨#[105, 102]⟩, .string ⟨#[112, 114, 105, 109]⟩, .string ⟨#[112, 97, 99, 107]⟩, .string ⟨#[114, 101, 116]⟩] 9)).heap.size ((w.alloc (.cells #[.int .i64 o, .int .i64 x.fA, .int .i64 x.fB, .string x.fTrait, .string x.fName] 26)).alloc (.cells #[.string ⟨#[63]⟩, .string ⟨#[112, 117, 115, 104]⟩, .string ⟨#[98, 111, 111, 108]⟩, .string ⟨#[108, 111, 97, 100]⟩, .string ⟨#[98, 105, 110, 100]⟩, .string ⟨#[100, 114, 111, 112]⟩, .string ⟨#[99, 97, 108, 108]⟩, .string ⟨#[99, 97, 108, 108, 100, 121, 110]⟩, .string ⟨#[110, 101, 119]⟩, .string ⟨#[116, 101, 115, 116]⟩, .string ⟨#[106, 117, 109, 112]⟩, .string ⟨#[105, 102]⟩, .string ⟨#[112, 114, 105, 109]⟩, .string ⟨#[112, 97, 99, 107]⟩, .string ⟨#[114, 101, 116]⟩] 9)) u4 := hI3.trans ((hC3.mono hI3.size).trans (hD3.mono (by have := hb3; simp; omega)))
          have HW3' := Lib.hid (show Words u4 u2.heap.size v4 [⟨#[63]⟩, itoaB x.fA, itoaB x.fB, x.fName] from hw3)
          have gN3 : u4.cell? ⟨w.heap.size, 4, none⟩ = some (.string x.fName) := cell_row HR.out hl hI4 4
          clear hw3 hC3 hD3 HW3 HU3
          have hlen : (joinB [⟨#[63]⟩, itoaB x.fA, itoaB x.fB, x.fName]).size ≤ 140737488355328 := by rw [joinB_four]; simp only [ByteArray.size_append, sz32, sz63]; omega
          go_wp2_with fail
          refine (implJoin_c _ [⟨#[63]⟩, itoaB x.fA, itoaB x.fB, x.fName] u2.heap.size (by simp) (by simp) hlen _ HW3'.out).mono ?_
          rintro e wz ⟨rfl, hZ⟩
          go_wp2
          go_ret
          refine ⟨?_, hV.trans ((hI4.trans (hZ.mono hI4.size)).mono hV.size)⟩
          unfold fmtI
          rw [fmtT_cons HN.out, fmtT_nil HT.out, fmtBase, Hx.out, Hn.out]
          exact congrArg (fun z => Ending.returned (Value.string z)) (joinB_four _ _ _ _)
      · have bT : x.fTrait.toList.isEmpty = false := by simpa using fun h => hT (ba_ext (h.trans ba_nil.symm))
        have HT := Lib.hid hT; clear hT
        by_cases hN : x.fName = ⟨#[]⟩
        · have bN : x.fName.toList.isEmpty = true := by rw [hN, ba_nil]; rfl
          have HN := Lib.hid hN; clear hN
          have hC3 : Below u3.heap.size u3 (u3.alloc (.cells #[.string x.fTrait] 9)) := (Below.refl _ _).alloc (Nat.le_refl _) _
          have HW3 := Lib.hid (HW.out.below hC3)
          have HU3 := Lib.hid (show (u3.alloc (.cells #[.string x.fTrait] 9)).cell? ⟨u3.heap.size, 0, none⟩ = some (.string x.fTrait) from row_cell (alloc_at rfl) 0)
          have y3x : u2.heap.size ≤ (u3.alloc (.cells #[.string x.fTrait] 9)).heap.size := Nat.le_trans y3 hC3.size
          go_wp2_with (with_reducible refine apS (v := (.slice (some ⟨u2.heap.size, 0, none⟩) 3 3)) (ws := [⟨#[63]⟩, itoaB x.fA, itoaB x.fB]) rfl _ _ rfl rfl HW3.out u3.heap.size rfl x.fTrait HU3.out (by simp) y3x ?_)
          intro v4 u4 hw3 hD3
          have y4 : u2.heap.size ≤ u4.heap.size := Nat.le_trans y3x hD3.size
          have hI4 : Below ((w.alloc (.cells #[.int .i64 o, .int .i64 x.fA, .int .i64 x.fB, .string x.fTrait, .string x.fName] 26)).alloc (.cells #[.string ⟨#[63]⟩, .string ⟨#[112, 117, 115, 104]⟩, .string ⟨#[98, 111, 111, 108]⟩, .string ⟨#[108, 111, 97, 100]⟩, .string ⟨#[98, 105, 110, 100]⟩, .string ⟨#[100, 114, 111, 112]⟩, .string ⟨#[99, 97, 108, 108]⟩, .string ⟨#[99, 97, 108, 108, 100, 121, 110]⟩, .string ⟨#[110, 101, 119]⟩, .string ⟨#[116, 101, 115, 116]⟩, .string ⟨#[106, 117, 109, 112]⟩, .string ⟨#[105, 102]⟩, .string ⟨#[112, 114, 105, 109]⟩, .string ⟨#[112, 97, 99, 107]⟩, .string ⟨#[114, 101, 116]⟩] 9)).heap.size ((w.alloc (.cells #[.int .i64 o, .int .i64 x.fA, .int .i64 x.fB, .string x.fTrait, .string x.fName] 26)).alloc (.cells #[.string ⟨#[63]⟩, .string ⟨#[112, 117, 115, 104]⟩, .string ⟨#[98, 111, 111, 108]⟩, .string ⟨#[108, 111, 97, 100]⟩, .string ⟨#[98, 105, 110, 100]⟩, .string ⟨#[100, 114, 111, 112]⟩, .string ⟨#[99, 97, 108, 108]⟩, .string ⟨#[99, 97, 108, 108, 100, 121, 110]⟩, .string ⟨#[110, 101, 119]⟩, .string ⟨#[116, 101, 115, 116]⟩, .string ⟨#[106, 117, 109, 112]⟩, .string ⟨#[105, 102]⟩, .string ⟨#[112, 114, 105, 109]⟩, .string ⟨#[112, 97, 99, 107]⟩, .string ⟨#[114, 101, 116]⟩] 9)) u4 := hI3.trans ((hC3.mono hI3.size).trans (hD3.mono (by have := hb3; simp; omega)))
          have HW3' := Lib.hid (show Words u4 u2.heap.size v4 [⟨#[63]⟩, itoaB x.fA, itoaB x.fB, x.fTrait] from hw3)
          have gN3 : u4.cell? ⟨w.heap.size, 4, none⟩ = some (.string x.fName) := cell_row HR.out hl hI4 4
          clear hw3 hC3 hD3 HW3 HU3
          have hlen : (joinB [⟨#[63]⟩, itoaB x.fA, itoaB x.fB, x.fTrait]).size ≤ 140737488355328 := by rw [joinB_four]; simp only [ByteArray.size_append, sz32, sz63]; omega
          go_wp2_with fail
          refine (implJoin_c _ [⟨#[63]⟩, itoaB x.fA, itoaB x.fB, x.fTrait] u2.heap.size (by simp) (by simp) hlen _ HW3'.out).mono ?_
          rintro e wz ⟨rfl, hZ⟩
          go_wp2
          go_ret
          refine ⟨?_, hV.trans ((hI4.trans (hZ.mono hI4.size)).mono hV.size)⟩
          unfold fmtI
          rw [fmtT_nil HN.out, fmtT_cons HT.out, fmtBase, Hx.out, Hn.out]
          exact congrArg (fun z => Ending.returned (Value.string z)) (joinB_four _ _ _ _)
        · have bN : x.fName.toList.isEmpty = false := by simpa using fun h => hN (ba_ext (h.trans ba_nil.symm))
          have HN := Lib.hid hN; clear hN
          have hC3 : Below u3.heap.size u3 (u3.alloc (.cells #[.string x.fTrait] 9)) := (Below.refl _ _).alloc (Nat.le_refl _) _
          have HW3 := Lib.hid (HW.out.below hC3)
          have HU3 := Lib.hid (show (u3.alloc (.cells #[.string x.fTrait] 9)).cell? ⟨u3.heap.size, 0, none⟩ = some (.string x.fTrait) from row_cell (alloc_at rfl) 0)
          have y3x : u2.heap.size ≤ (u3.alloc (.cells #[.string x.fTrait] 9)).heap.size := Nat.le_trans y3 hC3.size
          go_wp2_with (with_reducible refine apS (v := (.slice (some ⟨u2.heap.size, 0, none⟩) 3 3)) (ws := [⟨#[63]⟩, itoaB x.fA, itoaB x.fB]) rfl _ _ rfl rfl HW3.out u3.heap.size rfl x.fTrait HU3.out (by simp) y3x ?_)
          intro v4 u4 hw3 hD3
          have y4 : u2.heap.size ≤ u4.heap.size := Nat.le_trans y3x hD3.size
          have hI4 : Below ((w.alloc (.cells #[.int .i64 o, .int .i64 x.fA, .int .i64 x.fB, .string x.fTrait, .string x.fName] 26)).alloc (.cells #[.string ⟨#[63]⟩, .string ⟨#[112, 117, 115, 104]⟩, .string ⟨#[98, 111, 111, 108]⟩, .string ⟨#[108, 111, 97, 100]⟩, .string ⟨#[98, 105, 110, 100]⟩, .string ⟨#[100, 114, 111, 112]⟩, .string ⟨#[99, 97, 108, 108]⟩, .string ⟨#[99, 97, 108, 108, 100, 121, 110]⟩, .string ⟨#[110, 101, 119]⟩, .string ⟨#[116, 101, 115, 116]⟩, .string ⟨#[106, 117, 109, 112]⟩, .string ⟨#[105, 102]⟩, .string ⟨#[112, 114, 105, 109]⟩, .string ⟨#[112, 97, 99, 107]⟩, .string ⟨#[114, 101, 116]⟩] 9)).heap.size ((w.alloc (.cells #[.int .i64 o, .int .i64 x.fA, .int .i64 x.fB, .string x.fTrait, .string x.fName] 26)).alloc (.cells #[.string ⟨#[63]⟩, .string ⟨#[112, 117, 115, 104]⟩, .string ⟨#[98, 111, 111, 108]⟩, .string ⟨#[108, 111, 97, 100]⟩, .string ⟨#[98, 105, 110, 100]⟩, .string ⟨#[100, 114, 111, 112]⟩, .string ⟨#[99, 97, 108, 108]⟩, .string ⟨#[99, 97, 108, 108, 100, 121, 110]⟩, .string ⟨#[110, 101, 119]⟩, .string ⟨#[116, 101, 115, 116]⟩, .string ⟨#[106, 117, 109, 112]⟩, .string ⟨#[105, 102]⟩, .string ⟨#[112, 114, 105, 109]⟩, .string ⟨#[112, 97, 99, 107]⟩, .string ⟨#[114, 101, 116]⟩] 9)) u4 := hI3.trans ((hC3.mono hI3.size).trans (hD3.mono (by have := hb3; simp; omega)))
          have HW3' := Lib.hid (show Words u4 u2.heap.size v4 [⟨#[63]⟩, itoaB x.fA, itoaB x.fB, x.fTrait] from hw3)
          have gN3 : u4.cell? ⟨w.heap.size, 4, none⟩ = some (.string x.fName) := cell_row HR.out hl hI4 4
          clear hw3 hC3 hD3 HW3 HU3
          have hC4 : Below u4.heap.size u4 (u4.alloc (.cells #[.string x.fName] 9)) := (Below.refl _ _).alloc (Nat.le_refl _) _
          have HW4 := Lib.hid (HW3'.out.below hC4)
          have HU4 := Lib.hid (show (u4.alloc (.cells #[.string x.fName] 9)).cell? ⟨u4.heap.size, 0, none⟩ = some (.string x.fName) from row_cell (alloc_at rfl) 0)
          have y4x : u2.heap.size ≤ (u4.alloc (.cells #[.string x.fName] 9)).heap.size := Nat.le_trans y4 hC4.size
          go_wp2_with (with_reducible refine apS (v := v4) (ws := [⟨#[63]⟩, itoaB x.fA, itoaB x.fB, x.fTrait]) rfl _ _ rfl rfl HW4.out u4.heap.size rfl x.fName HU4.out (by simp) y4x ?_)
          intro v5 u5 hw4 hD4
          have y5 : u2.heap.size ≤ u5.heap.size := Nat.le_trans y4x hD4.size
          have hI5 : Below ((w.alloc (.cells #[.int .i64 o, .int .i64 x.fA, .int .i64 x.fB, .string x.fTrait, .string x.fName] 26)).alloc (.cells #[.string ⟨#[63]⟩, .string ⟨#[112, 117, 115, 104]⟩, .string ⟨#[98, 111, 111, 108]⟩, .string ⟨#[108, 111, 97, 100]⟩, .string ⟨#[98, 105, 110, 100]⟩, .string ⟨#[100, 114, 111, 112]⟩, .string ⟨#[99, 97, 108, 108]⟩, .string ⟨#[99, 97, 108, 108, 100, 121, 110]⟩, .string ⟨#[110, 101, 119]⟩, .string ⟨#[116, 101, 115, 116]⟩, .string ⟨#[106, 117, 109, 112]⟩, .string ⟨#[105, 102]⟩, .string ⟨#[112, 114, 105, 109]⟩, .string ⟨#[112, 97, 99, 107]⟩, .string ⟨#[114, 101, 116]⟩] 9)).heap.size ((w.alloc (.cells #[.int .i64 o, .int .i64 x.fA, .int .i64 x.fB, .string x.fTrait, .string x.fName] 26)).alloc (.cells #[.string ⟨#[63]⟩, .string ⟨#[112, 117, 115, 104]⟩, .string ⟨#[98, 111, 111, 108]⟩, .string ⟨#[108, 111, 97, 100]⟩, .string ⟨#[98, 105, 110, 100]⟩, .string ⟨#[100, 114, 111, 112]⟩, .string ⟨#[99, 97, 108, 108]⟩, .string ⟨#[99, 97, 108, 108, 100, 121, 110]⟩, .string ⟨#[110, 101, 119]⟩, .string ⟨#[116, 101, 115, 116]⟩, .string ⟨#[106, 117, 109, 112]⟩, .string ⟨#[105, 102]⟩, .string ⟨#[112, 114, 105, 109]⟩, .string ⟨#[112, 97, 99, 107]⟩, .string ⟨#[114, 101, 116]⟩] 9)) u5 := hI4.trans ((hC4.mono hI4.size).trans (hD4.mono (by have := hb3; simp; omega)))
          have HW4' := Lib.hid (show Words u5 u2.heap.size v5 [⟨#[63]⟩, itoaB x.fA, itoaB x.fB, x.fTrait, x.fName] from hw4)
          have gN4 : u5.cell? ⟨w.heap.size, 4, none⟩ = some (.string x.fName) := cell_row HR.out hl hI5 4
          clear hw4 hC4 hD4 HW4 HU4
          have hlen : (joinB [⟨#[63]⟩, itoaB x.fA, itoaB x.fB, x.fTrait, x.fName]).size ≤ 140737488355328 := by rw [joinB_five]; simp only [ByteArray.size_append, sz32, sz63]; omega
          go_wp2_with fail
          refine (implJoin_c _ [⟨#[63]⟩, itoaB x.fA, itoaB x.fB, x.fTrait, x.fName] u2.heap.size (by simp) (by simp) hlen _ HW4'.out).mono ?_
          rintro e wz ⟨rfl, hZ⟩
          go_wp2
          go_ret
          refine ⟨?_, hV.trans ((hI5.trans (hZ.mono hI5.size)).mono hV.size)⟩
          unfold fmtI
          rw [fmtT_cons HN.out, fmtT_cons HT.out, fmtBase, Hx.out, Hn.out]
          exact congrArg (fun z => Ending.returned (Value.string z)) (joinB_five _ _ _ _ _)
    · have d1 : ¬ (o < 15) := by omega
      have hV : Below w.heap.size w ((w.alloc (.cells #[.int .i64 o, .int .i64 x.fA, .int .i64 x.fB, .string x.fTrait, .string x.fName] 26)).alloc (.cells #[.string ⟨#[63]⟩, .string ⟨#[112, 117, 115, 104]⟩, .string ⟨#[98, 111, 111, 108]⟩, .string ⟨#[108, 111, 97, 100]⟩, .string ⟨#[98, 105, 110, 100]⟩, .string ⟨#[100, 114, 111, 112]⟩, .string ⟨#[99, 97, 108, 108]⟩, .string ⟨#[99, 97, 108, 108, 100, 121, 110]⟩, .string ⟨#[110, 101, 119]⟩, .string ⟨#[116, 101, 115, 116]⟩, .string ⟨#[106, 117, 109, 112]⟩, .string ⟨#[105, 102]⟩, .string ⟨#[112, 114, 105, 109]⟩, .string ⟨#[112, 97, 99, 107]⟩, .string ⟨#[114, 101, 116]⟩] 9)) := ((Below.refl _ _).alloc (Nat.le_refl _) _).alloc (by simp) _
      have HR := Lib.hid (show ((w.alloc (.cells #[.int .i64 o, .int .i64 x.fA, .int .i64 x.fB, .string x.fTrait, .string x.fName] 26)).alloc (.cells #[.string ⟨#[63]⟩, .string ⟨#[112, 117, 115, 104]⟩, .string ⟨#[98, 111, 111, 108]⟩, .string ⟨#[108, 111, 97, 100]⟩, .string ⟨#[98, 105, 110, 100]⟩, .string ⟨#[100, 114, 111, 112]⟩, .string ⟨#[99, 97, 108, 108]⟩, .string ⟨#[99, 97, 108, 108, 100, 121, 110]⟩, .string ⟨#[110, 101, 119]⟩, .string ⟨#[116, 101, 115, 116]⟩, .string ⟨#[106, 117, 109, 112]⟩, .string ⟨#[105, 102]⟩, .string ⟨#[112, 114, 105, 109]⟩, .string ⟨#[112, 97, 99, 107]⟩, .string ⟨#[114, 101, 116]⟩] 9)).heap[w.heap.size]? = some (.cells #[.int .i64 o, .int .i64 x.fA, .int .i64 x.fB, .string x.fTrait, .string x.fName] 26 (0, 0)) from alloc_lt (by simp) (alloc_at rfl))
      have hl : w.heap.size < ((w.alloc (.cells #[.int .i64 o, .int .i64 x.fA, .int .i64 x.fB, .string x.fTrait, .string x.fName] 26)).alloc (.cells #[.string ⟨#[63]⟩, .string ⟨#[112, 117, 115, 104]⟩, .string ⟨#[98, 111, 111, 108]⟩, .string ⟨#[108, 111, 97, 100]⟩, .string ⟨#[98, 105, 110, 100]⟩, .string ⟨#[100, 114, 111, 112]⟩, .string ⟨#[99, 97, 108, 108]⟩, .string ⟨#[99, 97, 108, 108, 100, 121, 110]⟩, .string ⟨#[110, 101, 119]⟩, .string ⟨#[116, 101, 115, 116]⟩, .string ⟨#[106, 117, 109, 112]⟩, .string ⟨#[105, 102]⟩, .string ⟨#[112, 114, 105, 109]⟩, .string ⟨#[112, 97, 99, 107]⟩, .string ⟨#[114, 101, 116]⟩] 9)).heap.size := by simp; omega
      have Ht := Lib.hid (Tab.below ht hV)
      have gA : ∀ w', Below ((w.alloc (.cells #[.int .i64 o, .int .i64 x.fA, .int .i64 x.fB, .string x.fTrait, .string x.fName] 26)).alloc (.cells #[.string ⟨#[63]⟩, .string ⟨#[112, 117, 115, 104]⟩, .string ⟨#[98, 111, 111, 108]⟩, .string ⟨#[108, 111, 97, 100]⟩, .string ⟨#[98, 105, 110, 100]⟩, .string ⟨#[100, 114, 111, 112]⟩, .string ⟨#[99, 97, 108, 108]⟩, .string ⟨#[99, 97, 108, 108, 100, 121, 110]⟩, .string ⟨#[110, 101, 119]⟩, .string ⟨#[116, 101, 115, 116]⟩, .string ⟨#[106, 117, 109, 112]⟩, .string ⟨#[105, 102]⟩, .string ⟨#[112, 114, 105, 109]⟩, .string ⟨#[112, 97, 99, 107]⟩, .string ⟨#[114, 101, 116]⟩] 9)).heap.size ((w.alloc (.cells #[.int .i64 o, .int .i64 x.fA, .int .i64 x.fB, .string x.fTrait, .string x.fName] 26)).alloc (.cells #[.string ⟨#[63]⟩, .string ⟨#[112, 117, 115, 104]⟩, .string ⟨#[98, 111, 111, 108]⟩, .string ⟨#[108, 111, 97, 100]⟩, .string ⟨#[98, 105, 110, 100]⟩, .string ⟨#[100, 114, 111, 112]⟩, .string ⟨#[99, 97, 108, 108]⟩, .string ⟨#[99, 97, 108, 108, 100, 121, 110]⟩, .string ⟨#[110, 101, 119]⟩, .string ⟨#[116, 101, 115, 116]⟩, .string ⟨#[106, 117, 109, 112]⟩, .string ⟨#[105, 102]⟩, .string ⟨#[112, 114, 105, 109]⟩, .string ⟨#[112, 97, 99, 107]⟩, .string ⟨#[114, 101, 116]⟩] 9)) w' → w'.cell? ⟨w.heap.size, 1, none⟩ = some (.int .i64 x.fA) := fun w' h => cell_row HR.out hl h 1
      have gB : ∀ w', Below ((w.alloc (.cells #[.int .i64 o, .int .i64 x.fA, .int .i64 x.fB, .string x.fTrait, .string x.fName] 26)).alloc (.cells #[.string ⟨#[63]⟩, .string ⟨#[112, 117, 115, 104]⟩, .string ⟨#[98, 111, 111, 108]⟩, .string ⟨#[108, 111, 97, 100]⟩, .string ⟨#[98, 105, 110, 100]⟩, .string ⟨#[100, 114, 111, 112]⟩, .string ⟨#[99, 97, 108, 108]⟩, .string ⟨#[99, 97, 108, 108, 100, 121, 110]⟩, .string ⟨#[110, 101, 119]⟩, .string ⟨#[116, 101, 115, 116]⟩, .string ⟨#[106, 117, 109, 112]⟩, .string ⟨#[105, 102]⟩, .string ⟨#[112, 114, 105, 109]⟩, .string ⟨#[112, 97, 99, 107]⟩, .string ⟨#[114, 101, 116]⟩] 9)).heap.size ((w.alloc (.cells #[.int .i64 o, .int .i64 x.fA, .int .i64 x.fB, .string x.fTrait, .string x.fName] 26)).alloc (.cells #[.string ⟨#[63]⟩, .string ⟨#[112, 117, 115, 104]⟩, .string ⟨#[98, 111, 111, 108]⟩, .string ⟨#[108, 111, 97, 100]⟩, .string ⟨#[98, 105, 110, 100]⟩, .string ⟨#[100, 114, 111, 112]⟩, .string ⟨#[99, 97, 108, 108]⟩, .string ⟨#[99, 97, 108, 108, 100, 121, 110]⟩, .string ⟨#[110, 101, 119]⟩, .string ⟨#[116, 101, 115, 116]⟩, .string ⟨#[106, 117, 109, 112]⟩, .string ⟨#[105, 102]⟩, .string ⟨#[112, 114, 105, 109]⟩, .string ⟨#[112, 97, 99, 107]⟩, .string ⟨#[114, 101, 116]⟩] 9)) w' → w'.cell? ⟨w.heap.size, 2, none⟩ = some (.int .i64 x.fB) := fun w' h => cell_row HR.out hl h 2
      have hI0 : Below ((w.alloc (.cells #[.int .i64 o, .int .i64 x.fA, .int .i64 x.fB, .string x.fTrait, .string x.fName] 26)).alloc (.cells #[.string ⟨#[63]⟩, .string ⟨#[112, 117, 115, 104]⟩, .string ⟨#[98, 111, 111, 108]⟩, .string ⟨#[108, 111, 97, 100]⟩, .string ⟨#[98, 105, 110, 100]⟩, .string ⟨#[100, 114, 111, 112]⟩, .string ⟨#[99, 97, 108, 108]⟩, .string ⟨#[99, 97, 108, 108, 100, 121, 110]⟩, .string ⟨#[110, 101, 119]⟩, .string ⟨#[116, 101, 115, 116]⟩, .string ⟨#[106, 117, 109, 112]⟩, .string ⟨#[105, 102]⟩, .string ⟨#[112, 114, 105, 109]⟩, .string ⟨#[112, 97, 99, 107]⟩, .string ⟨#[114, 101, 116]⟩] 9)).heap.size ((w.alloc (.cells #[.int .i64 o, .int .i64 x.fA, .int .i64 x.fB, .string x.fTrait, .string x.fName] 26)).alloc (.cells #[.string ⟨#[63]⟩, .string ⟨#[112, 117, 115, 104]⟩, .string ⟨#[98, 111, 111, 108]⟩, .string ⟨#[108, 111, 97, 100]⟩, .string ⟨#[98, 105, 110, 100]⟩, .string ⟨#[100, 114, 111, 112]⟩, .string ⟨#[99, 97, 108, 108]⟩, .string ⟨#[99, 97, 108, 108, 100, 121, 110]⟩, .string ⟨#[110, 101, 119]⟩, .string ⟨#[116, 101, 115, 116]⟩, .string ⟨#[106, 117, 109, 112]⟩, .string ⟨#[105, 102]⟩, .string ⟨#[112, 114, 105, 109]⟩, .string ⟨#[112, 97, 99, 107]⟩, .string ⟨#[114, 101, 116]⟩] 9)) ((w.alloc (.cells #[.int .i64 o, .int .i64 x.fA, .int .i64 x.fB, .string x.fTrait, .string x.fName] 26)).alloc (.cells #[.string ⟨#[63]⟩, .string ⟨#[112, 117, 115, 104]⟩, .string ⟨#[98, 111, 111, 108]⟩, .string ⟨#[108, 111, 97, 100]⟩, .string ⟨#[98, 105, 110, 100]⟩, .string ⟨#[100, 114, 111, 112]⟩, .string ⟨#[99, 97, 108, 108]⟩, .string ⟨#[99, 97, 108, 108, 100, 121, 110]⟩, .string ⟨#[110, 101, 119]⟩, .string ⟨#[116, 101, 115, 116]⟩, .string ⟨#[106, 117, 109, 112]⟩, .string ⟨#[105, 102]⟩, .string ⟨#[112, 114, 105, 109]⟩, .string ⟨#[112, 97, 99, 107]⟩, .string ⟨#[114, 101, 116]⟩] 9)).drew := (Below.refl _ _).drew
      go_enter Tryd.func7, Tryd.ntmps7
      go_wp2_with fail
      refine rg 9 (Below ((w.alloc (.cells #[.int .i64 o, .int .i64 x.fA, .int .i64 x.fB, .string x.fTrait, .string x.fName] 26)).alloc (.cells #[.string ⟨#[63]⟩, .string ⟨#[112, 117, 115, 104]⟩, .string ⟨#[98, 111, 111, 108]⟩, .string ⟨#[108, 111, 97, 100]⟩, .string ⟨#[98, 105, 110, 100]⟩, .string ⟨#[100, 114, 111, 112]⟩, .string ⟨#[99, 97, 108, 108]⟩, .string ⟨#[99, 97, 108, 108, 100, 121, 110]⟩, .string ⟨#[110, 101, 119]⟩, .string ⟨#[116, 101, 115, 116]⟩, .string ⟨#[106, 117, 109, 112]⟩, .string ⟨#[105, 102]⟩, .string ⟨#[112, 114, 105, 109]⟩, .string ⟨#[112, 97, 99, 107]⟩, .string ⟨#[114, 101, 116]⟩] 9)).heap.size ((w.alloc (.cells #[.int .i64 o, .int .i64 x.fA, .int .i64 x.fB, .string x.fTrait, .string x.fName] 26)).alloc (.cells #[.string ⟨#[63]⟩, .string ⟨#[112, 117, 115, 104]⟩, .string ⟨#[98, 111, 111, 108]⟩, .string ⟨#[108, 111, 97, 100]⟩, .string ⟨#[98, 105, 110, 100]⟩, .string ⟨#[100, 114, 111, 112]⟩, .string ⟨#[99, 97, 108, 108]⟩, .string ⟨#[99, 97, 108, 108, 100, 121, 110]⟩, .string ⟨#[110, 101, 119]⟩, .string ⟨#[116, 101, 115, 116]⟩, .string ⟨#[106, 117, 109, 112]⟩, .string ⟨#[105, 102]⟩, .string ⟨#[112, 114, 105, 109]⟩, .string ⟨#[112, 97, 99, 107]⟩, .string ⟨#[114, 101, 116]⟩] 9))) (by kernel_rfl) rfl ?_
      refine rg_seg (fuel := 4) [0, 1, 2, 4, 5] hI0 (by kernel_rfl) rfl ?_
      simp only [pick, List.getElem?_cons_zero, List.getElem?_cons_succ]
      iterate 5 (refine sg_fix _ rfl (fun w' hI => by have := gA w' hI; have := gB w' hI; go_simp; first | rfl | rw [if_neg (by omega)]) ?_; simp only [Act.put, List.setIfInBounds_toArray, List.set_cons_zero, List.set_cons_succ])
      refine sg_nil ?_
      refine rg_one (fuel := 3) 3 (by kernel_rfl) rfl (fun K0 hK0 => ?_)
      simp only [pick, List.getElem?_cons_zero, List.getElem?_cons_succ]
      refine rg_call rfl _ _ (by go_simp; exact ⟨rfl, rfl⟩) ?_
      refine (implFormatInt_c _ hA _ (Ht.out.below hI0)).mono ?_
      rintro e u1 ⟨rfl, hB1⟩
      have hI1 := hI0.trans (hB1.mono hI0.size)
      refine ⟨_, rfl, hK0 _ _ hI1 ?_⟩
      simp only [Act.put, List.setIfInBounds_toArray, List.set_cons_zero, List.set_cons_succ]
      refine rg_one (fuel := 2) 6 (by kernel_rfl) rfl (fun K1 hK1 => ?_)
      simp only [pick, List.getElem?_cons_zero, List.getElem?_cons_succ]
      refine rg_call rfl _ _ (by go_simp; exact ⟨rfl, rfl⟩) ?_
      refine (implFormatInt_c _ hB _ (Ht.out.below hI1)).mono ?_
      rintro e u2 ⟨rfl, hB2⟩
      have hI2 := hI1.trans (hB2.mono hI1.size)
      refine ⟨_, rfl, hK1 _ _ hI2 ?_⟩
      simp only [Act.put, List.setIfInBounds_toArray, List.set_cons_zero, List.set_cons_succ]
      refine rg_one (fuel := 1) 7 (by kernel_rfl) rfl (fun K2 hK2 => ?_)
      simp only [pick, List.getElem?_cons_zero, List.getElem?_cons_succ]
      refine rg_bs rfl 30 3 _ rfl Tryd.underlying30 sinfo9 [.string (⟨#[63]⟩), .string (itoaB x.fA), .string (itoaB x.fB)] rfl (by intro v hv; simp only [List.mem_cons, List.not_mem_nil, or_false] at hv; rcases hv with rfl | rfl | rfl <;> rfl) rfl (by decide) (by decide) ?_
      have hI3 : Below ((w.alloc (.cells #[.int .i64 o, .int .i64 x.fA, .int .i64 x.fB, .string x.fTrait, .string x.fName] 26)).alloc (.cells #[.string ⟨#[63]⟩, .string ⟨#[112, 117, 115, 104]⟩, .string ⟨#[98, 111, 111, 108]⟩, .string ⟨#[108, 111, 97, 100]⟩, .string ⟨#[98, 105, 110, 100]⟩, .string ⟨#[100, 114, 111, 112]⟩, .string ⟨#[99, 97, 108, 108]⟩, .string ⟨#[99, 97, 108, 108, 100, 121, 110]⟩, .string ⟨#[110, 101, 119]⟩, .string ⟨#[116, 101, 115, 116]⟩, .string ⟨#[106, 117, 109, 112]⟩, .string ⟨#[105, 102]⟩, .string ⟨#[112, 114, 105, 109]⟩, .string ⟨#[112, 97, 99, 107]⟩, .string ⟨#[114, 101, 116]⟩] 9)).heap.size ((w.alloc (.cells #[.int .i64 o, .int .i64 x.fA, .int .i64 x.fB, .string x.fTrait, .string x.fName] 26)).alloc (.cells #[.string ⟨#[63]⟩, .string ⟨#[112, 117, 115, 104]⟩, .string ⟨#[98, 111, 111, 108]⟩, .string ⟨#[108, 111, 97, 100]⟩, .string ⟨#[98, 105, 110, 100]⟩, .string ⟨#[100, 114, 111, 112]⟩, .string ⟨#[99, 97, 108, 108]⟩, .string ⟨#[99, 97, 108, 108, 100, 121, 110]⟩, .string ⟨#[110, 101, 119]⟩, .string ⟨#[116, 101, 115, 116]⟩, .string ⟨#[106, 117, 109, 112]⟩, .string ⟨#[105, 102]⟩, .string ⟨#[112, 114, 105, 109]⟩, .string ⟨#[112, 97, 99, 107]⟩, .string ⟨#[114, 101, 116]⟩] 9)) (u2.alloc (.cells ([.string (⟨#[63]⟩), .string (itoaB x.fA), .string (itoaB x.fB)] : List Value).toArray 9)) := hI2.alloc hI2.size _
      refine hK2 _ _ hI3 ?_
      simp only [Act.put, List.setIfInBounds_toArray, List.set_cons_zero, List.set_cons_succ]
      refine rg_seg (fuel := 0) [8] hI3 (by kernel_rfl) rfl ?_
      simp only [pick, List.getElem?_cons_zero, List.getElem?_cons_succ]
      iterate 1 (refine sg_fix _ rfl (fun w' hI => by have := gA w' hI; have := gB w' hI; go_simp; first | rfl | rw [if_neg (by omega)]) ?_; simp only [Act.put, List.setIfInBounds_toArray, List.set_cons_zero, List.set_cons_succ])
      refine sg_nil (rg_end (by kernel_rfl) ?_)
      have hb3 : w.heap.size + 1 + 1 ≤ u2.heap.size := by have := hI2.size; simp at this; omega
      have HW := Lib.hid (show Words (u2.alloc (.cells ([.string (⟨#[63]⟩), .string (itoaB x.fA), .string (itoaB x.fB)] : List Value).toArray 9)) u2.heap.size (.slice (some ⟨u2.heap.size, 0, none⟩) 3 3) [⟨#[63]⟩, itoaB x.fA, itoaB x.fB] from ⟨rfl, .inr ⟨u2.heap.size, 3, _, rfl, Nat.le_refl _, alloc_at rfl, Nat.le_refl _, by simp [maxLen], rfl, rfl⟩⟩)
      obtain ⟨u3, hu3⟩ : ∃ u3, u3 = u2.alloc (.cells ([.string (⟨#[63]⟩), .string (itoaB x.fA), .string (itoaB x.fB)] : List Value).toArray 9) := ⟨_, rfl⟩
      rw [← hu3] at hI3 HW ⊢
      have y3 : u2.heap.size ≤ u3.heap.size := by rw [hu3]; simp
      clear hu3 gA gB hI0 hI1 hI2 hB1 hB2
      have HV3 := Lib.hid (hV.trans (hI3.mono hV.size))
      have gT : u3.cell? ⟨w.heap.size, 3, none⟩ = some (.string x.fTrait) := cell_row HR.out hl hI3 3
      have gN : u3.cell? ⟨w.heap.size, 4, none⟩ = some (.string x.fName) := cell_row HR.out hl hI3 4
      by_cases hT : x.fTrait = ⟨#[]⟩
      · have bT : x.fTrait.toList.isEmpty = true := by rw [hT, ba_nil]; rfl
        have HT := Lib.hid hT; clear hT
        by_cases hN : x.fName = ⟨#[]⟩
        · have bN : x.fName.toList.isEmpty = true := by rw [hN, ba_nil]; rfl
          have HN := Lib.hid hN; clear hN
          have hlen : (joinB [⟨#[63]⟩, itoaB x.fA, itoaB x.fB]).size ≤ 140737488355328 := by rw [joinB_three]; simp only [ByteArray.size_append, sz32, sz63]; omega
          go_wp2_with fail
          refine (implJoin_c _ [⟨#[63]⟩, itoaB x.fA, itoaB x.fB] u2.heap.size (by simp) (by simp) hlen _ HW.out).mono ?_
          rintro e wz ⟨rfl, hZ⟩
          go_wp2
          go_ret
          refine ⟨?_, hV.trans ((hI3.trans (hZ.mono hI3.size)).mono hV.size)⟩
          unfold fmtI
          rw [fmtT_nil HN.out, fmtT_nil HT.out, fmtBase, Hx.out, Hn.out]
          exact congrArg (fun z => Ending.returned (Value.string z)) (joinB_three _ _ _)
        · have bN : x.fName.toList.isEmpty = false := by simpa using fun h => hN (ba_ext (h.trans ba_nil.symm))
          have HN := Lib.hid hN; clear hN
          have hC3 : Below u3.heap.size u3 (u3.alloc (.cells #[.string x.fName] 9)) := (Below.refl _ _).alloc (Nat.le_refl _) _
          have HW3 := Lib.hid (HW.out.below hC3)
          have HU3 := Lib.hid (show (u3.alloc (.cells #[.string x.fName] 9)).cell? ⟨u3.heap.size, 0, none⟩ = some (.string x.fName) from row_cell (alloc_at rfl) 0)
          have y3x : u2.heap.size ≤ (u3.alloc (.cells #[.string x.fName] 9)).heap.size := Nat.le_trans y3 hC3.size
          go_wp2_with (with_reducible refine apS (v := (.slice (some ⟨u2.heap.size, 0, none⟩) 3 3)) (ws := [⟨#[63]⟩, itoaB x.fA, itoaB x.fB]) rfl _ _ rfl rfl HW3.out u3.heap.size rfl x.fName HU3.out (by simp) y3x ?_)
          intro v4 u4 hw3 hD3
          have y4 : u2.heap.size ≤ u4.heap.size := Nat.le_trans y3x hD3.size
          have hI4 : Below ((w.alloc (.cells #[.int .i64 o, .int .i64 x.fA, .int .i64 x.fB, .string x.fTrait, .string x.fName] 26)).alloc (.cells #[.string ⟨#[63]⟩, .string ⟨#[112, 117, 115, 104]⟩, .string ⟨#[98, 111, 111, 108]⟩, .string ⟨#[108, 111, 97, 100]⟩, .string ⟨#[98, 105, 110, 100]⟩, .string ⟨#[100, 114, 111, 112]⟩, .string ⟨#[99, 97, 108, 108]⟩, .string ⟨#[99, 97, 108, 108, 100, 121, 110]⟩, .string ⟨#[110, 101, 119]⟩, .string ⟨#[116, 101, 115, 116]⟩, .string ⟨#[106, 117, 109, 112]⟩, .string ⟨#[105, 102]⟩, .string ⟨#[112, 114, 105, 109]⟩, .string ⟨#[112, 97, 99, 107]⟩, .string ⟨#[114, 101, 116]⟩] 9)).heap.size ((w.alloc (.cells #[.int .i64 o, .int .i64 x.fA, .int .i64 x.fB, .string x.fTrait, .string x.fName] 26)).alloc (.cells #[.string ⟨#[63]⟩, .string ⟨#[112, 117, 115, 104]⟩, .string ⟨#[98, 111, 111, 108]⟩, .string ⟨#[108, 111, 97, 100]⟩, .string ⟨#[98, 105, 110, 100]⟩, .string ⟨#[100, 114, 111, 112]⟩, .string ⟨#[99, 97, 108, 108]⟩, .string ⟨#[99, 97, 108, 108, 100, 121, 110]⟩, .string ⟨#[110, 101, 119]⟩, .string ⟨#[116, 101, 115, 116]⟩, .string ⟨#[106, 117, 109, 112]⟩, .string ⟨#[105, 102]⟩, .string ⟨#[112, 114, 105, 109]⟩, .string ⟨#[112, 97, 99, 107]⟩, .string ⟨#[114, 101, 116]⟩] 9)) u4 := hI3.trans ((hC3.mono hI3.size).trans (hD3.mono (by have := hb3; simp; omega)))
          have HW3' := Lib.hid (show Words u4 u2.heap.size v4 [⟨#[63]⟩, itoaB x.fA, itoaB x.fB, x.fName] from hw3)
          have gN3 : u4.cell? ⟨w.heap.size, 4, none⟩ = some (.string x.fName) := cell_row HR.out hl hI4 4
          clear hw3 hC3 hD3 HW3 HU3
          have hlen : (joinB [⟨#[63]⟩, itoaB x.fA, itoaB x.fB, x.fName]).size ≤ 140737488355328 := by rw [joinB_four]; simp only [ByteArray.size_append, sz32, sz63]; omega
          go_wp2_with fail
          refine (implJoin_c _ [⟨#[63]⟩, itoaB x.fA, itoaB x.fB, x.fName] u2.heap.size (by simp) (by simp) hlen _ HW3'.out).mono ?_
          rintro e wz ⟨rfl, hZ⟩
          go_wp2
          go_ret
          refine ⟨?_, hV.trans ((hI4.trans (hZ.mono hI4.size)).mono hV.size)⟩
          unfold fmtI
          rw [fmtT_cons HN.out, fmtT_nil HT.out, fmtBase, Hx.out, Hn.out]
          exact congrArg (fun z => Ending.returned (Value.string z)) (joinB_four _ _ _ _)
      · have bT : x.fTrait.toList.isEmpty = false := by simpa using fun h => hT (ba_ext (h.trans ba_nil.symm))
        have HT := Lib.hid hT; clear hT
        by_cases hN : x.fName = ⟨#[]⟩
        · have bN : x.fName.toList.isEmpty = true := by rw [hN, ba_nil]; rfl
          have HN := Lib.hid hN; clear hN
          have hC3 : Below u3.heap.size u3 (u3.alloc (.cells #[.string x.fTrait] 9)) := (Below.refl _ _).alloc (Nat.le_refl _) _
          have HW3 := Lib.hid (HW.out.below hC3)
          have HU3 := Lib.hid (show (u3.alloc (.cells #[.string x.fTrait] 9)).cell? ⟨u3.heap.size, 0, none⟩ = some (.string x.fTrait) from row_cell (alloc_at rfl) 0)
          have y3x : u2.heap.size ≤ (u3.alloc (.cells #[.string x.fTrait] 9)).heap.size := Nat.le_trans y3 hC3.size
          go_wp2_with (with_reducible refine apS (v := (.slice (some ⟨u2.heap.size, 0, none⟩) 3 3)) (ws := [⟨#[63]⟩, itoaB x.fA, itoaB x.fB]) rfl _ _ rfl rfl HW3.out u3.heap.size rfl x.fTrait HU3.out (by simp) y3x ?_)
          intro v4 u4 hw3 hD3
          have y4 : u2.heap.size ≤ u4.heap.size := Nat.le_trans y3x hD3.size
          have hI4 : Below ((w.alloc (.cells #[.int .i64 o, .int .i64 x.fA, .int .i64 x.fB, .string x.fTrait, .string x.fName] 26)).alloc (.cells #[.string ⟨#[63]⟩, .string ⟨#[112, 117, 115, 104]⟩, .string ⟨#[98, 111, 111, 108]⟩, .string ⟨#[108, 111, 97, 100]⟩, .string ⟨#[98, 105, 110, 100]⟩, .string ⟨#[100, 114, 111, 112]⟩, .string ⟨#[99, 97, 108, 108]⟩, .string ⟨#[99, 97, 108, 108, 100, 121, 110]⟩, .string ⟨#[110, 101, 119]⟩, .string ⟨#[116, 101, 115, 116]⟩, .string ⟨#[106, 117, 109, 112]⟩, .string ⟨#[105, 102]⟩, .string ⟨#[112, 114, 105, 109]⟩, .string ⟨#[112, 97, 99, 107]⟩, .string ⟨#[114, 101, 116]⟩] 9)).heap.size ((w.alloc (.cells #[.int .i64 o, .int .i64 x.fA, .int .i64 x.fB, .string x.fTrait, .string x.fName] 26)).alloc (.cells #[.string ⟨#[63]⟩, .string ⟨#[112, 117, 115, 104]⟩, .string ⟨#[98, 111, 111, 108]⟩, .string ⟨#[108, 111, 97, 100]⟩, .string ⟨#[98, 105, 110, 100]⟩, .string ⟨#[100, 114, 111, 112]⟩, .string ⟨#[99, 97, 108, 108]⟩, .string ⟨#[99, 97, 108, 108, 100, 121, 110]⟩, .string ⟨#[110, 101, 119]⟩, .string ⟨#[116, 101, 115, 116]⟩, .string ⟨#[106, 117, 109, 112]⟩, .string ⟨#[105, 102]⟩, .string ⟨#[112, 114, 105, 109]⟩, .string ⟨#[112, 97, 99, 107]⟩, .string ⟨#[114, 101, 116]⟩] 9)) u4 := hI3.trans ((hC3.mono hI3.size).trans (hD3.mono (by have := hb3; simp; omega)))
          have HW3' := Lib.hid (show Words u4 u2.heap.size v4 [⟨#[63]⟩, itoaB x.fA, itoaB x.fB, x.fTrait] from hw3)
          have gN3 : u4.cell? ⟨w.heap.size, 4, none⟩ = some (.string x.fName) := cell_row HR.out hl hI4 4
          clear hw3 hC3 hD3 HW3 HU3
          have hlen : (joinB [⟨#[63]⟩, itoaB x.fA, itoaB x.fB, x.fTrait]).size ≤ 140737488355328 := by rw [joinB_four]; simp only [ByteArray.size_append, sz32, sz63]; omega
          go_wp2_with fail
          refine (implJoin_c _ [⟨#[63]⟩, itoaB x.fA, itoaB x.fB, x.fTrait] u2.heap.size (by simp) (by simp) hlen _ HW3'.out).mono ?_
          rintro e wz ⟨rfl, hZ⟩
          go_wp2
          go_ret
          refine ⟨?_, hV.trans ((hI4.trans (hZ.mono hI4.size)).mono hV.size)⟩
          unfold fmtI
          rw [fmtT_nil HN.out, fmtT_cons HT.out, fmtBase, Hx.out, Hn.out]
          exact congrArg (fun z => Ending.returned (Value.string z)) (joinB_four _ _ _ _)
        · have bN : x.fName.toList.isEmpty = false := by simpa using fun h => hN (ba_ext (h.trans ba_nil.symm))
          have HN := Lib.hid hN; clear hN
          have hC3 : Below u3.heap.size u3 (u3.alloc (.cells #[.string x.fTrait] 9)) := (Below.refl _ _).alloc (Nat.le_refl _) _
          have HW3 := Lib.hid (HW.out.below hC3)
          have HU3 := Lib.hid (show (u3.alloc (.cells #[.string x.fTrait] 9)).cell? ⟨u3.heap.size, 0, none⟩ = some (.string x.fTrait) from row_cell (alloc_at rfl) 0)
          have y3x : u2.heap.size ≤ (u3.alloc (.cells #[.string x.fTrait] 9)).heap.size := Nat.le_trans y3 hC3.size
          go_wp2_with (with_reducible refine apS (v := (.slice (some ⟨u2.heap.size, 0, none⟩) 3 3)) (ws := [⟨#[63]⟩, itoaB x.fA, itoaB x.fB]) rfl _ _ rfl rfl HW3.out u3.heap.size rfl x.fTrait HU3.out (by simp) y3x ?_)
          intro v4 u4 hw3 hD3
          have y4 : u2.heap.size ≤ u4.heap.size := Nat.le_trans y3x hD3.size
          have hI4 : Below ((w.alloc (.cells #[.int .i64 o, .int .i64 x.fA, .int .i64 x.fB, .string x.fTrait, .string x.fName] 26)).alloc (.cells #[.string ⟨#[63]⟩, .string ⟨#[112, 117, 115, 104]⟩, .string ⟨#[98, 111, 111, 108]⟩, .string ⟨#[108, 111, 97, 100]⟩, .string ⟨#[98, 105, 110, 100]⟩, .string ⟨#[100, 114, 111, 112]⟩, .string ⟨#[99, 97, 108, 108]⟩, .string ⟨#[99, 97, 108, 108, 100, 121, 110]⟩, .string ⟨#[110, 101, 119]⟩, .string ⟨#[116, 101, 115, 116]⟩, .string ⟨#[106, 117, 109, 112]⟩, .string ⟨#[105, 102]⟩, .string ⟨#[112, 114, 105, 109]⟩, .string ⟨#[112, 97, 99, 107]⟩, .string ⟨#[114, 101, 116]⟩] 9)).heap.size ((w.alloc (.cells #[.int .i64 o, .int .i64 x.fA, .int .i64 x.fB, .string x.fTrait, .string x.fName] 26)).alloc (.cells #[.string ⟨#[63]⟩, .string ⟨#[112, 117, 115, 104]⟩, .string ⟨#[98, 111, 111, 108]⟩, .string ⟨#[108, 111, 97, 100]⟩, .string ⟨#[98, 105, 110, 100]⟩, .string ⟨#[100, 114, 111, 112]⟩, .string ⟨#[99, 97, 108, 108]⟩, .string ⟨#[99, 97, 108, 108, 100, 121, 110]⟩, .string ⟨#[110, 101, 119]⟩, .string ⟨#[116, 101, 115, 116]⟩, .string ⟨#[106, 117, 109, 112]⟩, .string ⟨#[105, 102]⟩, .string ⟨#[112, 114, 105, 109]⟩, .string ⟨#[112, 97, 99, 107]⟩, .string ⟨#[114, 101, 116]⟩] 9)) u4 := hI3.trans ((hC3.mono hI3.size).trans (hD3.mono (by have := hb3; simp; omega)))
          have HW3' := Lib.hid (show Words u4 u2.heap.size v4 [⟨#[63]⟩, itoaB x.fA, itoaB x.fB, x.fTrait] from hw3)
          have gN3 : u4.cell? ⟨w.heap.size, 4, none⟩ = some (.string x.fName) := cell_row HR.out hl hI4 4
          clear hw3 hC3 hD3 HW3 HU3
          have hC4 : Below u4.heap.size u4 (u4.alloc (.cells #[.string x.fName] 9)) := (Below.refl _ _).alloc (Nat.le_refl _) _
          have HW4 := Lib.hid (HW3'.out.below hC4)
          have HU4 := Lib.hid (show (u4.alloc (.cells #[.string x.fName] 9)).cell? ⟨u4.heap.size, 0, none⟩ = some (.string x.fName) from row_cell (alloc_at rfl) 0)
          have y4x : u2.heap.size ≤ (u4.alloc (.cells #[.string x.fName] 9)).heap.size := Nat.le_trans y4 hC4.size
          go_wp2_with (with_reducible refine apS (v := v4) (ws := [⟨#[63]⟩, itoaB x.fA, itoaB x.fB, x.fTrait]) rfl _ _ rfl rfl HW4.out u4.heap.size rfl x.fName HU4.out (by simp) y4x ?_)
          intro v5 u5 hw4 hD4
          have y5 : u2.heap.size ≤ u5.heap.size := Nat.le_trans y4x hD4.size
          have hI5 : Below ((w.alloc (.cells #[.int .i64 o, .int .i64 x.fA, .int .i64 x.fB, .string x.fTrait, .string x.fName] 26)).alloc (.cells #[.string ⟨#[63]⟩, .string ⟨#[112, 117, 115, 104]⟩, .string ⟨#[98, 111, 111, 108]⟩, .string ⟨#[108, 111, 97, 100]⟩, .string ⟨#[98, 105, 110, 100]⟩, .string ⟨#[100, 114, 111, 112]⟩, .string ⟨#[99, 97, 108, 108]⟩, .string ⟨#[99, 97, 108, 108, 100, 121, 110]⟩, .string ⟨#[110, 101, 119]⟩, .string ⟨#[116, 101, 115, 116]⟩, .string ⟨#[106, 117, 109, 112]⟩, .string ⟨#[105, 102]⟩, .string ⟨#[112, 114, 105, 109]⟩, .string ⟨#[112, 97, 99, 107]⟩, .string ⟨#[114, 101, 116]⟩] 9)).heap.size ((w.alloc (.cells #[.int .i64 o, .int .i64 x.fA, .int .i64 x.fB, .string x.fTrait, .string x.fName] 26)).alloc (.cells #[.string ⟨#[63]⟩, .string ⟨#[112, 117, 115, 104]⟩, .string ⟨#[98, 111, 111, 108]⟩, .string ⟨#[108, 111, 97, 100]⟩, .string ⟨#[98, 105, 110, 100]⟩, .string ⟨#[100, 114, 111, 112]⟩, .string ⟨#[99, 97, 108, 108]⟩, .string ⟨#[99, 97, 108, 108, 100, 121, 110]⟩, .string ⟨#[110, 101, 119]⟩, .string ⟨#[116, 101, 115, 116]⟩, .string ⟨#[106, 117, 109, 112]⟩, .string ⟨#[105, 102]⟩, .string ⟨#[112, 114, 105, 109]⟩, .string ⟨#[112, 97, 99, 107]⟩, .string ⟨#[114, 101, 116]⟩] 9)) u5 := hI4.trans ((hC4.mono hI4.size).trans (hD4.mono (by have := hb3; simp; omega)))
          have HW4' := Lib.hid (show Words u5 u2.heap.size v5 [⟨#[63]⟩, itoaB x.fA, itoaB x.fB, x.fTrait, x.fName] from hw4)
          have gN4 : u5.cell? ⟨w.heap.size, 4, none⟩ = some (.string x.fName) := cell_row HR.out hl hI5 4
          clear hw4 hC4 hD4 HW4 HU4
          have hlen : (joinB [⟨#[63]⟩, itoaB x.fA, itoaB x.fB, x.fTrait, x.fName]).size ≤ 140737488355328 := by rw [joinB_five]; simp only [ByteArray.size_append, sz32, sz63]; omega
          go_wp2_with fail
          refine (implJoin_c _ [⟨#[63]⟩, itoaB x.fA, itoaB x.fB, x.fTrait, x.fName] u2.heap.size (by simp) (by simp) hlen _ HW4'.out).mono ?_
          rintro e wz ⟨rfl, hZ⟩
          go_wp2
          go_ret
          refine ⟨?_, hV.trans ((hI5.trans (hZ.mono hI5.size)).mono hV.size)⟩
          unfold fmtI
          rw [fmtT_cons HN.out, fmtT_cons HT.out, fmtBase, Hx.out, Hn.out]
          exact congrArg (fun z => Ending.returned (Value.string z)) (joinB_five _ _ _ _ _)
end Go.Proofs.YtnlmldgbhdcpbaaDoor
