/- spec.FormatInt and impl.FormatInt; Walks by the Den rules. No condition but sizes. -/
import Derived.Test.YtkadbimpaplnmaaGreatDoorM16
import Derived.Test.YtkadbimpaplnmaaGreatDoorM17
import Derived.Test.YtkadbimpaplnmaaGreatDoorM21
import Derived.Test.YtkadbimpaplnmaaGreatDoorM29
import Derived.Test.YtkadbimpaplnmaaGreatDoorM32
import Derived.Great.BuildSlice
import Derived.Great.FillDense
import Derived.Laws.BytesArg
import Derived.Lib.ItoaLen
import Derived.Lib.SmallJoins
namespace Go.Proofs.YtkadbimpaplnmaaGreatDoor
open Go.RowKit
set_option maxRecDepth 10000
set_option linter.unusedSimpArgs false
set_option maxHeartbeats 4000000
def digs (k : Nat) (out : List UInt8) : List UInt8 :=
 if h : k = 0 then out else digs (k / 10) (UInt8.ofNat (48 + k % 10) :: out)
 termination_by k
 decreasing_by omega
theorem digs_zero (o : List UInt8) : digs 0 o = o := by rw [digs]; simp
theorem digs_pos {k : Nat} (h : 0 < k) (o : List UInt8) : digs k o = digs (k / 10) (UInt8.ofNat (48 + k % 10) :: o) := by
 rw [digs, dif_neg (by omega)]
theorem digs_dec (k : Nat) : ∀ (o : List UInt8), 0 < k → digs k o = Lib.decDigits k ++ o := by
 induction k using Nat.strongRecOn with
 | ind k ih =>
  intro o hk
  rw [digs_pos hk]
  by_cases h : k < 10
  ·have h0 : k / 10 = 0 := by omega
   have h1 : k % 10 = k := by omega
   rw [h0, digs_zero, h1]
   rw [Lib.decDigits, dif_pos h]
   rfl
  ·rw [ih (k / 10) (by omega) _ (by omega)]
   conv => rhs; rw [Lib.decDigits, dif_neg h]
   simp
def itoaB (n : Int) : ByteArray := ⟨(Lib.itoa n).toArray⟩
theorem itoaB_pos {k : Nat} (h : 0 < k) : itoaB (k : Int) = ⟨(digs k []).toArray⟩ := by
 unfold itoaB Lib.itoa
 rw [if_neg (by omega), digs_dec k [] h]
 simp
theorem itoaB_neg {k : Nat} (h : 0 < k) : itoaB (-(k : Int)) = ⟨(45 :: digs k []).toArray⟩ := by
 unfold itoaB Lib.itoa
 rw [if_pos (by omega), digs_dec k [] h]
 simp
theorem itoaB_zero : itoaB 0 = ⟨#[48]⟩ := by
 unfold itoaB Lib.itoa
 rw [if_neg (by omega), Lib.decDigits, dif_pos (by decide)]
 rfl
theorem cons_bytes (x : Int) (o : List UInt8) : strOfNums [x] ++ (⟨o.toArray⟩ : ByteArray) = ⟨(UInt8.ofNat x.toNat :: o).toArray⟩ := by
 apply ByteArray.ext
 simp [strOfNums, ByteArray.data_append]
theorem m_bytes (o : List UInt8) : (⟨#[45]⟩ : ByteArray) ++ ⟨o.toArray⟩ = ⟨(45 :: o).toArray⟩ := by
 apply ByteArray.ext
 simp [ByteArray.data_append]
theorem pow_step {m n : Nat} {x : UInt8} {q : List UInt8} (h : m * 10 ^ q.length ≤ n) : m / 10 * 10 ^ (x :: q).length ≤ n := by
 have h3 : m / 10 * 10 ≤ m := by omega
 have h4 : m / 10 * 10 ^ (x :: q).length = m / 10 * 10 * 10 ^ q.length := by rw [List.length_cons, Nat.pow_succ, Nat.mul_assoc, Nat.mul_comm (10 ^ q.length) 10]
 rw [h4]
 exact Nat.le_trans (Nat.mul_le_mul_right _ h3) h
theorem len_step {m n : Nat} {x : UInt8} {q : List UInt8} (h : m * 10 ^ q.length ≤ n) (h1 : 0 < m) (hn : n ≤ 9223372036854775808) (hq : q.length ≤ 19) : (x :: q).length ≤ 19 := by
 simp only [List.length_cons]
 rcases Nat.lt_or_ge q.length 19 with h4 | h4
 ·omega
 ·exfalso
  have h5 : 10 ^ 19 ≤ 10 ^ q.length := Nat.pow_le_pow_right (by decide) h4
  have h6 : 1 * 10 ^ q.length ≤ m * 10 ^ q.length := Nat.mul_le_mul_right _ h1
  omega
set_option maxRecDepth 100000 in
set_option maxHeartbeats 1000000 in
theorem specFormatInt_pos (n : Nat) (h0 : 0 < n) (hn : n ≤ 9223372036854775807) : ∀ (w : World),
  Calls Tryz.prog 11 #[.int .i64 (n : Int)] w fun e w' => e = .returned (.string (itoaB (n : Int))) ∧ Below w.heap.size w w' := by
 intro w
 rw [itoaB_pos h0]
 go_enter Tryz.func11, Tryz.ntmps11
 go_wp2
 have Hg : Hid (digs n [] = digs n []) := rfl
 go_loopw [0, 4] (fun t o wr => ∃ (m : Nat) (q : List UInt8), t = .int .i64 m ∧ o = .string ⟨q.toArray⟩ ∧ Hid (digs m q = digs n []) ∧ m ≤ n ∧ Hid (m * 10 ^ q.length ≤ n) ∧ q.length ≤ 19 ∧ Below w.heap.size w wr) (fun t _ _ => (intOf t).toNat)
 case atStart => exact ⟨n, [], rfl, rfl, Hg, Nat.le_refl _, by show n * 10 ^ 0 ≤ n; omega, by simp, Below.refl _ _⟩
 case round =>
  clear Hg
  obtain ⟨m, q, rfl, rfl, Hs, hm, Hp, hq, hB⟩ := hrel
  by_cases h1 : 0 < m
  ·have kc := fun (W : World) (b : Nat) (h : W.cell? ⟨b, 0, none⟩ = some (.int .u8 (48 + (m : Int) % 10))) => run_convert_bytes_arg (P := Tryz.prog) W 58 5 Tryz.underlying58 Tryz.underlying5 b 0 1 1 [48 + (m : Int) % 10] rfl (fun i hi => by obtain rfl : i = 0 := (by omega); simpa using h) 9 Tryz.underlying9
   have hm1 : (m : Int) ≤ 9223372036854775807 := by omega
   have hx : UInt8.ofNat (48 + (m : Int) % 10).toNat = UInt8.ofNat (48 + m % 10) := by congr 1
   have hz : (strOfNums [48 + (m : Int) % 10]).size = 1 := strOfNums_size _
   go_wp2
   go_roundw
   case rel =>
    refine ⟨m / 10, UInt8.ofNat (48 + m % 10) :: q, by go_num, ?_, ?_, by omega, ?_, ?_, hB.alloc hB.size _⟩
    ·rw [cons_bytes, hx]
    ·show _ = _
     rw [← digs_pos h1]
     exact Hs.out
    ·exact pow_step Hp.out
    ·exact len_step Hp.out h1 (by omega) hq
   case measure => simp [intOf]; omega
  ·obtain rfl : m = 0 := by omega
   have e := Hs.out
   rw [digs_zero] at e
   have E := Lib.hid e
   clear e
   go_wp2
   go_ret
   refine ⟨?_, hB⟩
   rw [E.out]
   rfl
set_option maxRecDepth 100000 in
set_option maxHeartbeats 1000000 in
theorem specFormatInt_neg (n : Nat) (h0 : 0 < n) (hn : n ≤ 9223372036854775808) : ∀ (w : World),
  Calls Tryz.prog 11 #[.int .i64 (-(n : Int))] w fun e w' => e = .returned (.string (itoaB (-(n : Int)))) ∧ Below w.heap.size w w' := by
 intro w
 rw [itoaB_neg h0]
 have hn0 : -(n : Int) < 0 := by omega
 have hn1 : ¬ (-(n : Int) = 0) := by omega
 go_enter Tryz.func11, Tryz.ntmps11
 go_wp2
 have Hg : Hid (digs n [] = digs n []) := rfl
 go_loopw [0, 4] (fun t o wr => ∃ (m : Nat) (q : List UInt8), t = .int .i64 (-(m : Int)) ∧ o = .string ⟨q.toArray⟩ ∧ Hid (digs m q = digs n []) ∧ m ≤ n ∧ Hid (m * 10 ^ q.length ≤ n) ∧ q.length ≤ 19 ∧ Below w.heap.size w wr) (fun t _ _ => (-(intOf t)).toNat)
 case atStart => exact ⟨n, [], rfl, rfl, Hg, Nat.le_refl _, by show n * 10 ^ 0 ≤ n; omega, by simp, Below.refl _ _⟩
 case round =>
  clear Hg
  obtain ⟨m, q, rfl, rfl, Hs, hm, Hp, hq, hB⟩ := hrel
  by_cases h1 : 0 < m
  ·have hm1 : (m : Int) ≤ 9223372036854775808 := by omega
   have hd : (-(m : Int)).tdiv 10 = -((m : Int) / 10) := by rw [Int.neg_tdiv, Int.tdiv_eq_ediv_of_nonneg (by omega)]
   by_cases h2 : m % 10 = 0
   ·have kc := fun (W : World) (b : Nat) (h : W.cell? ⟨b, 0, none⟩ = some (.int .u8 48)) => run_convert_bytes_arg (P := Tryz.prog) W 58 5 Tryz.underlying58 Tryz.underlying5 b 0 1 1 [48] rfl (fun i hi => by obtain rfl : i = 0 := (by omega); simpa using h) 9 Tryz.underlying9
    have hx : UInt8.ofNat (48 : Int).toNat = UInt8.ofNat (48 + m % 10) := by rw [h2]; rfl
    have hz : (strOfNums [48]).size = 1 := strOfNums_size _
    have hr : (-(m : Int)).tmod 10 = 0 := by rw [Int.neg_tmod, Int.tmod_eq_emod_of_nonneg (by omega)]; omega
    have Hx := Lib.hid hx
    clear hx h2
    go_wp2
    go_roundw
    case rel =>
     refine ⟨m / 10, UInt8.ofNat (48 + m % 10) :: q, congrArg (Value.int .i64) (by omega), ?_, ?_, by omega, ?_, ?_, hB.alloc hB.size _⟩
     ·rw [cons_bytes, Hx.out]
     ·show _ = _
      rw [← digs_pos h1]
      exact Hs.out
     ·exact pow_step Hp.out
     ·exact len_step Hp.out h1 (by omega) hq
    case measure => simp [intOf]; omega
   ·have kc := fun (W : World) (b : Nat) (h : W.cell? ⟨b, 0, none⟩ = some (.int .u8 (48 + (m : Int) % 10))) => run_convert_bytes_arg (P := Tryz.prog) W 58 5 Tryz.underlying58 Tryz.underlying5 b 0 1 1 [48 + (m : Int) % 10] rfl (fun i hi => by obtain rfl : i = 0 := (by omega); simpa using h) 9 Tryz.underlying9
    have hx : UInt8.ofNat (48 + (m : Int) % 10).toNat = UInt8.ofNat (48 + m % 10) := by congr 1
    have hz : (strOfNums [48 + (m : Int) % 10]).size = 1 := strOfNums_size _
    have hr : (-(m : Int)).tmod 10 = -((m : Int) % 10) := by rw [Int.neg_tmod, Int.tmod_eq_emod_of_nonneg (by omega)]
    have hl : -((m : Int) % 10) < 0 := by omega
    go_wp2
    go_roundw
    case rel =>
     refine ⟨m / 10, UInt8.ofNat (48 + m % 10) :: q, congrArg (Value.int .i64) (by omega), ?_, ?_, by omega, ?_, ?_, hB.alloc hB.size _⟩
     ·rw [cons_bytes, hx]
     ·show _ = _
      rw [← digs_pos h1]
      exact Hs.out
     ·exact pow_step Hp.out
     ·exact len_step Hp.out h1 (by omega) hq
    case measure => simp [intOf]; omega
  ·obtain rfl : m = 0 := by omega
   have e := Hs.out
   rw [digs_zero] at e
   have E := Lib.hid e
   clear e
   go_wp2
   go_ret
   refine ⟨?_, hB⟩
   rw [m_bytes, E.out]
   rfl
theorem specFormatInt_c (n : Int) (hn : InR n) : ∀ (w : World),
  Calls Tryz.prog 11 #[.int .i64 n] w fun e w' => e = .returned (.string (itoaB n)) ∧ Below w.heap.size w w' := by
 have h1 := hn.lo
 have h2 := hn.hi
 rcases (show n < 0 ∨ n = 0 ∨ 0 < n by omega) with h | h | h
 ·obtain ⟨k, hk⟩ := Int.eq_ofNat_of_zero_le (show 0 ≤ -n by omega)
  obtain rfl : n = -(k : Int) := by omega
  exact specFormatInt_neg k (by omega) (by omega)
 ·subst h
  intro w
  rw [itoaB_zero]
  go_enter Tryz.func11, Tryz.ntmps11
  go_wp2
  go_ret
  exact ⟨rfl, Below.refl _ _⟩
 ·obtain ⟨k, rfl⟩ := Int.eq_ofNat_of_zero_le (Int.le_of_lt h)
  exact specFormatInt_pos k (by omega) (by omega)
theorem glb_at {i : Nat} (h : i < 20) : (0, i, some (.int .u64 ((10 ^ i : Nat) : Int))) ∈ glb := by
 unfold glb
 exact List.mem_append_left _ (List.mem_map.2 ⟨i, by simpa using h, rfl⟩)
theorem tab_of {w : World} {F : Nat → Nat} (h : Gl w F) : Lib.TabIs Tryz.prog w "internal/strconv.uint64pow10" .u64 Lib.pow10Tab := by
 have h20 := (h (0, 20, none) (by simp [glb])).2
 have h0 := (h _ (glb_at (i := 0) (by omega))).2
 have hg : Tryz.prog.globalNamed "internal/strconv.uint64pow10" = some 0 := by kernel_rfl
 unfold Lib.TabIs World.var?
 rw [hg]
 simp only [Option.bind_some]
 cases hc : w.heap[0]? with
 | none => simp only [World.cell?, hc] at h0; cases h0
 | some ob =>
  cases ob with
  | cells cs t n =>
   show some cs = _
   congr 1
   have hall : ∀ i, i < 20 → cs[i]? = some (.int .u64 ((10 ^ i : Nat) : Int)) := fun i hi => by
    have := (h _ (glb_at hi)).2
    simp only [World.cell?, hc] at this
    split at this
    ·cases this
    ·exact this
   have hs : cs.size ≤ 20 := by
    simp only [World.cell?, hc] at h20
    split at h20
    ·rename_i hq; simp at hq
    ·simpa using h20
   have hs2 : cs.size = 20 := by
    have := (Array.getElem?_eq_some_iff.1 (hall 19 (by omega))).1
    omega
   have hz : (Lib.pow10Tab.map fun z => Value.int .u64 z).toArray.size = 20 := by simp [Lib.pow10Tab]
   apply Array.ext
   ·exact hs2.trans hz.symm
   ·intro i h1 h2
    have := hall i (by omega)
    rw [Array.getElem?_eq_getElem h1] at this
    simp only [Option.some.injEq] at this
    rw [this]
    simp [Lib.pow10Tab]
  | _ => simp only [World.cell?, hc] at h0; cases h0
theorem gl_of {w : World} (h : Lib.TabIs Tryz.prog w "internal/strconv.uint64pow10" .u64 Lib.pow10Tab) : Gl w (Fz w) := by
 have hg : Tryz.prog.globalNamed "internal/strconv.uint64pow10" = some 0 := by kernel_rfl
 unfold Lib.TabIs World.var? at h
 rw [hg] at h
 simp only [Option.bind_some] at h
 split at h
 ·rename_i cs _ _ hc
  simp only [Option.some.injEq] at h
  have hs : cs.size = 20 := by rw [h]; simp [Lib.pow10Tab]
  have hF : Fz w 0 = 21 := by unfold Fz; rw [hc]; simp [hs]
  intro p hp
  unfold glb at hp
  rcases List.mem_append.1 hp with q | q
  ·obtain ⟨i, hi, rfl⟩ := List.mem_map.1 q
   have hi2 : i < 20 := by simpa using hi
   refine ⟨by show i < Fz w 0; omega, ?_⟩
   show w.cell? ⟨0, i, none⟩ = some _
   unfold World.cell?
   rw [hc, h]
   simp [Lib.pow10Tab, hi2]
  ·simp only [List.mem_singleton] at q
   subst q
   refine ⟨by show 20 < Fz w 0; omega, ?_⟩
   show w.cell? ⟨0, 20, none⟩ = none
   unfold World.cell?
   rw [hc]
   simp [hs]
 ·cases h
theorem grow_below (w : World) (k : Nat) (os : Array Obj) : Below w.heap.size w (Sort.grow (w.drewN k) os) := by
 refine ⟨rfl, rfl, rfl, ?_, ?_⟩
 ·show w.heap.size ≤ (w.heap ++ os).size
  simp
 ·intro b hb
  show (w.heap ++ os)[b]? = _
  rw [Array.getElem?_append_left hb]
theorem implFormatInt_c (n : Int) (hn : InR n) : ∀ (w : World) (_ : Lib.TabIs Tryz.prog w "internal/strconv.uint64pow10" .u64 Lib.pow10Tab),
  Calls Tryz.prog 15 #[.int .i64 n] w fun e w' => e = .returned (.string (itoaB n)) ∧ Below w.heap.size w w' := by
 intro w ht
 go_enter Tryz.func15, Tryz.ntmps15
 go_wp2_with fail
 refine (itoa_w n hn.lo hn.hi w ht).mono ?_
 rintro e w' ⟨rfl, k, os, rfl⟩
 go_wp2
 go_ret
 exact ⟨rfl, grow_below _ _ _⟩
theorem itoaB_len (n : Int) (h : -9223372036854775808 ≤ n ∧ n ≤ 9223372036854775807) : (itoaB n).size ≤ 21 := by
 have := Lib.itoa_length_le n h.1 h.2
 simpa [itoaB, ByteArray.size] using this
theorem fi_leaf (n : Int) (hn : InR n) (w : World) (F : Nat → Nat) : rp w F (.lf (.string (itoaB n))) [.string (itoaB n)] [] ∧ DD.mk (.lf (.string (itoaB n))) [.string (itoaB n)] = .string (itoaB n) := by
 have h1 := itoaB_len n hn
 refine ⟨?_, rfl⟩
 simp only [rp, okLeaf]
 exact ⟨trivial, by unfold maxLen; omega, trivial⟩
theorem sFmtI_d (n : Int) (hn : InR n) (h : HP) : CS cx.P 11 [.d (.lf (.int .i64 n))] h (.d (.lf (.string (itoaB n)))) h := by
 refine CS.ofVal (c := cx) (args := [.lf (.int .i64 n)]) (v := .string (itoaB n)) (fun w F => fi_leaf n hn w F) (fun w vs ⟨F, hF, hgl, hl, hv⟩ => ?_) h
 obtain ⟨c0, h0, e0⟩ := hv 0 _ rfl
 simp only [DD.vw, rp] at h0
 obtain ⟨rfl, -, -⟩ := h0
 match vs, hl, e0 with
 | [u], _, e0 =>
  simp [DD.mk] at e0
  subst e0
  exact specFormatInt_c n hn w
theorem iFmtI_d (n : Int) (hn : InR n) (h : HP) : CS cx.P 15 [.d (.lf (.int .i64 n))] h (.d (.lf (.string (itoaB n)))) h := by
 refine CS.ofVal (c := cx) (args := [.lf (.int .i64 n)]) (v := .string (itoaB n)) (fun w F => fi_leaf n hn w F) (fun w vs ⟨F, hF, hgl, hl, hv⟩ => ?_) h
 obtain ⟨c0, h0, e0⟩ := hv 0 _ rfl
 simp only [DD.vw, rp] at h0
 obtain ⟨rfl, -, -⟩ := h0
 match vs, hl, e0 with
 | [u], _, e0 =>
  simp [DD.mk] at e0
  subst e0
  exact implFormatInt_c n hn w (tab_of hgl)
theorem txD_vws (l : List TSExpr) : DD.vws (l.map txD) = l.map txD := by simp only [DD.vws_eq, List.map_map]; rfl
attribute [simp] txD_vws
theorem joinT_d (x : TSExpr) (hz : x.sz ≤ 134217728) (h : HP) : CS cx.P 95 [.d (.sl false .one (x.fList.map txD)), .d (.lf (.string ⟨#[32]⟩))] h (.d (.lf (.string (joinS ⟨#[32]⟩ (x.fList.map eText))))) h := by
 have h1 := eTexts_size x.fList
 have h2 := x.sz_eq
 unfold szs at h2
 rw [TSExpr.szLs_eq, eTexts_eq] at h1
 rw [txD_map]
 exact Join_d (x.fList.map eText) ⟨#[32]⟩ (by simp; omega) (by decide) (by omega) h
theorem l2Text_a (x : TSExpr) (hz : x.sz ≤ 134217728) (hc : ∀ y ∈ x.fList, ∀ h, CS cx.P 46 [.d (y.dd false)] h (.d (.lf (.string (eText y)))) h) (h : HP) : CS cx.P 46 [.d (x.dd false)] h (.d (.lf (.string (eText x)))) h := by
 have hz2 := x.sz_eq; unfold szs at hz2
 have ht := eText_size x
 refine Ze Tryz.func46 rfl 31 ?_
 apply Zr; intros
 iterate 2 (refine Zo ?_; simp)
 exact Zx
 refine W.seq ?_
 apply Zr; intros
 iterate 3 (refine Zo ?_; simp)
 exact Zx
 refine Zc rfl ?_ ?_ <;> intro hb0 <;> try simp at hb0
 have hres := eText_atom hb0
 apply Zr; intros
 iterate 3 (refine Zo ?_; simp)
 exact Zx
 refine W.ret (Zq ?_)
 simp [Tryz.f46, hres]
 refine W.skip ?_
 apply Zr; intros
 iterate 2 (refine Zo ?_; simp)
 exact Zx
 refine W.seq ?_
 apply Zr; intros
 refine Zo ?_; simp
 exact Zx
 refine W.block ?_
 refine W.loopk [1] [1] (fun k0 => [(4, .d (.lf (.int .i64 (k0 : Int)))), (3, .d (.sl true .one (tk txD x.fList k0)))]) (fun _ => []) x.fList.length rfl (by simp) fun k0 hk0 T hT => ?_
 simp at hT; subst hT
 have hl := tk_len (f := txD) hk0
 refine W.seq ?_
 apply Zr; intros
 iterate 5 (refine Zo ?_ (by simp [hl] <;> omega); simp [hl])
 exact Zx
 refine Zc rfl ?_ ?_ <;> intro hb1 <;> try simp at hb1
 have hx := ixNext hb1 (by omega)
 refine W.skip ?_
 refine Zb ?_
 apply Zs; intros
 refine Zm [18] ?_ (by simp [hl, hb1, hx] <;> omega); simp [hl, hb1, hx]
 iterate 5 (refine Zo ?_ (by simp [hl, hb1, hx] <;> omega); simp [hl, hb1, hx])
 refine Zl [] rfl Tryz.func46 (hc x.fList[k0] (gm hb1) _) ?_ (by simp [hl, hb1, hx]); simp [hl, hb1, hx]
 iterate 3 (refine Zo ?_ (by simp [hl, hb1, hx] <;> omega); simp [hl, hb1, hx])
 exact Zx
 apply Zs; intros
 iterate 3 (refine Zo ?_ (by simp [hl, hb1, hx] <;> omega); simp [hl, hb1, hx])
 exact Zx
 refine ⟨hb1, Wz.to rfl rfl rfl ?_⟩
 have hs := tk_snoc (f := txD) hb1
 simp at hs
 simp [hs]
 have hkl : k0 = x.fList.length := by omega
 subst hkl
 simp only [tk_full]
 have hres := eText_list hb0
 rw [hres] at ht
 simp only [ByteArray.size_append] at ht
 refine W.exit ?_
 apply Zr; intros
 refine Zo ?_ (by simp [hl] <;> omega); simp [hl]
 refine Zl [] rfl Tryz.func95 (joinT_d x hz _) ?_ (by simp [hl]); simp [hl]
 iterate 3 (refine Zo ?_ (by simp [hl] <;> omega); simp [hl])
 exact Zx
 refine W.ret (Zq ?_)
 simp [Tryz.f46, hres]
theorem l2Text_d (x : TSExpr) (hz : x.sz ≤ 134217728) (h : HP) : CS cx.P 46 [.d (x.dd false)] h (.d (.lf (.string (eText x)))) h := l2Text_a x hz (fun y hy h => l2Text_d y (by have h1 := szL_le TSExpr.sz hy; have h2 := x.sz_eq; unfold szs at h2; omega) h) h
termination_by SizeOf.sizeOf x
decreasing_by have := List.sizeOf_lt_of_mem hy; have := x.lt_fList; omega
theorem sFmtE_d (x : TSExpr) (hz : x.sz ≤ 134217728) (h : HP) : CS cx.P 23 [.d (x.dd false)] h (.d (.lf (.string (fmtE x)))) h := by
 refine Ze Tryz.func23 rfl 8 ?_
 apply Zr; intros
 iterate 2 (refine Zo ?_; simp)
 exact Zx
 refine W.seq ?_
 apply Zr; intros
 refine Zo ?_; simp
 refine Zl [] rfl Tryz.func45 (sValidE_d x hz _) ?_; simp
 refine Zo ?_; simp
 exact Zx
 refine Zc rfl ?_ ?_ <;> intro hb0 <;> try simp at hb0
 apply Zr; intros
 refine Zo ?_; simp
 exact Zx
 refine W.ret (Zq ?_)
 simp [Tryz.f23, fmtE, hb0]
 refine W.skip ?_
 apply Zr; intros
 refine Zo ?_; simp
 refine Zl [] rfl Tryz.func46 (l2Text_d x hz _) ?_; simp
 refine Zo ?_; simp
 exact Zx
 refine W.ret (Zq ?_)
 simp [Tryz.f23, fmtE, hb0]
end Go.Proofs.YtkadbimpaplnmaaGreatDoor
