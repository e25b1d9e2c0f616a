/- The functions held.. of the laws. Conditions: the numbers begin at 0 or above and stay at or below 2 ^ 62. -/
import Derived.Test.YtkmiecgcibjkbaaMkFlat
namespace Go.Proofs.Ytkmiecgcibjkbaa
open Go.RowKit
set_option maxRecDepth 100000 in
set_option maxHeartbeats 1000000 in
theorem heldInstrS_c (l : List TInstr) : ∀ (w : World) (K : Nat → Prop) (_ : ∀ b, K b → b < w.heap.size) (k : Int) (v : Value) (_ : Rep w K (.sl (mks k (l.map TInstr.enc))) [v]) (_ : 0 ≤ k) (_ : k + (cnts (l.map TInstr.enc) : Nat) ≤ 4611686018427387904),
    Calls Try.prog 29 #[v, .int .i64 k] w fun e w' => e = .returned (.int .i64 (k + (cnts (l.map TInstr.enc) : Nat))) ∧ Below w.heap.size w w' := by
  intro w K hK k v h h0 hlim
  obtain ⟨a, cap, rfl, hcp, hm, hE⟩ := held_open TInstr.width h
  unfold maxLen at hm
  have Hlim := Lib.hid hlim
  clear h hlim
  go_enter Try.func29, Try.ntmps29
  go_wp2
  go_loopw [5, 1] (fun i kk wr => ∃ (n : Nat) (c : Int), n ≤ l.length ∧ i = .int .i64 n ∧ kk = .int .i64 c ∧ 0 ≤ c ∧ Hid (c = k + (cnts ((l.map TInstr.enc).take n) : Nat)) ∧ Below w.heap.size w wr) (fun i _ _ => l.length - (intOf i).toNat)
  case atStart => exact ⟨0, k, Nat.zero_le _, rfl, rfl, h0, Lib.hid (by simp only [List.take_zero, cnts]; omega), Below.refl _ _⟩
  case round =>
    obtain ⟨n, c, hn, rfl, rfl, hc0, Hc, hB⟩ := hrel
    by_cases hlt : n < l.length
    · obtain ⟨b, off, rfl, hKb, cs, hcs, hr⟩ := hE n hlt
      obtain ⟨hM, hN⟩ := held_cnt hlt Hc.out Hlim.out
      rw [← Hc.out] at hr
      have gr := Rep.ext hB hK hr
      have gcs := hcs.ext hB (hK b hKb)
      have hbl : b < wr.heap.size := Nat.lt_of_lt_of_le (hK b hKb) hB.size
      have hK' : ∀ b, K b → b < wr.heap.size := fun b h => Nat.lt_of_lt_of_le (hK b h) hB.size
      clear hE hcs hr Hc Hlim hKb
      generalize l[n] = x at *
      rw [TInstr.cnt_flat] at hM hN
      obtain rfl := TInstr.mrep_flat gr
      have HN := Lib.hid hN
      have g0 : ∀ w', Below wr.heap.size wr w' → w'.cell? ⟨b, off + n * 5, none⟩ = some (.int .i64 (c)) := fun w' q => by simpa using gcs.ext q hbl 0 _ rfl
      have g1 : ∀ w', Below wr.heap.size wr w' → w'.cell? ⟨b, off + n * 5 + 1, none⟩ = some (.int .i64 (c + 1)) := fun w' q => gcs.ext q hbl 1 _ rfl
      have g2 : ∀ w', Below wr.heap.size wr w' → w'.cell? ⟨b, off + n * 5 + 2, none⟩ = some (.int .i64 (c + 1 + 1)) := fun w' q => gcs.ext q hbl 2 _ rfl
      have g3 : ∀ w', Below wr.heap.size wr w' → w'.cell? ⟨b, off + n * 5 + 3, none⟩ = some (.string (mtext (c + 1 + 1 + 1))) := fun w' q => gcs.ext q hbl 3 _ rfl
      have g4 : ∀ w', Below wr.heap.size wr w' → w'.cell? ⟨b, off + n * 5 + 4, none⟩ = some (.string (mtext (c + 1 + 1 + 1 + 1))) := fun w' q => gcs.ext q hbl 4 _ rfl
      have hW : Below wr.heap.size wr wr := Below.refl _ _
      clear hN gr gcs hbl
      go_wp2_with fail
      have hd1 : Below wr.heap.size wr wr.drew := hW.drew
      refine rg 8 (Below wr.heap.size wr) (by kernel_rfl) rfl ?_
      refine rg_seg (fuel := 2) [0, 1, 2, 3, 4, 5] hd1 (by kernel_rfl) rfl ?_
      simp only [pick, List.getElem?_cons_zero, List.getElem?_cons_succ]
      iterate 6 (refine sg_fix _ rfl (fun w' hI => by go_simp; rfl) ?_; simp only [Act.put, List.setIfInBounds_toArray, List.set_cons_zero, List.set_cons_succ])
      refine sg_nil ?_
      refine rg_one (fuel := 1) 6 (by kernel_rfl) rfl (fun K1 hK1 => ?_)
      simp only [pick, List.getElem?_cons_zero, List.getElem?_cons_succ]
      refine rg_call rfl _ _ (by go_simp; exact ⟨rfl, rfl⟩) ?_
      refine (markText_c _ (by omega) _).mono ?_
      rintro e w1 ⟨rfl, hB1⟩
      have hW1 : Below wr.heap.size wr w1 := hd1.trans (hB1.mono hd1.size)
      refine ⟨_, rfl, hK1 _ _ hW1 ?_⟩
      simp only [Act.put, List.setIfInBounds_toArray, List.set_cons_zero, List.set_cons_succ]
      refine rg_seg (fuel := 0) [7] hW1 (by kernel_rfl) rfl ?_
      simp only [pick, List.getElem?_cons_zero, List.getElem?_cons_succ]
      refine sg_fix _ rfl (fun w' hI => by go_simp; rfl) ?_; simp only [Act.put, List.setIfInBounds_toArray, List.set_cons_zero, List.set_cons_succ]
      refine sg_nil (rg_end (by kernel_rfl) ?_)
      go_wp2_with fail
      have hd2 : Below wr.heap.size wr w1.drew := hW1.drew
      refine rg 8 (Below wr.heap.size wr) (by kernel_rfl) rfl ?_
      refine rg_seg (fuel := 2) [0, 1, 2, 3, 4, 5] hd2 (by kernel_rfl) rfl ?_
      simp only [pick, List.getElem?_cons_zero, List.getElem?_cons_succ]
      iterate 6 (refine sg_fix _ rfl (fun w' hI => by go_simp; rfl) ?_; simp only [Act.put, List.setIfInBounds_toArray, List.set_cons_zero, List.set_cons_succ])
      refine sg_nil ?_
      refine rg_one (fuel := 1) 6 (by kernel_rfl) rfl (fun K1 hK1 => ?_)
      simp only [pick, List.getElem?_cons_zero, List.getElem?_cons_succ]
      refine rg_call rfl _ _ (by go_simp; exact ⟨rfl, rfl⟩) ?_
      refine (markText_c _ (by omega) _).mono ?_
      rintro e w2 ⟨rfl, hB2⟩
      have hW2 : Below wr.heap.size wr w2 := hd2.trans (hB2.mono hd2.size)
      refine ⟨_, rfl, hK1 _ _ hW2 ?_⟩
      simp only [Act.put, List.setIfInBounds_toArray, List.set_cons_zero, List.set_cons_succ]
      refine rg_seg (fuel := 0) [7] hW2 (by kernel_rfl) rfl ?_
      simp only [pick, List.getElem?_cons_zero, List.getElem?_cons_succ]
      refine sg_fix _ rfl (fun w' hI => by go_simp; rfl) ?_; simp only [Act.put, List.setIfInBounds_toArray, List.set_cons_zero, List.set_cons_succ]
      refine sg_nil (rg_end (by kernel_rfl) ?_)
      have HF := Lib.hid (hB.trans (hW2.mono hB.size))
      go_wp2
      go_roundw
      case rel => exact ⟨n + 1, _, hlt, by go_num, rfl, by omega, Lib.hid (by have := HN.out; omega), HF.out⟩
      case measure => simp [intOf]; omega
    · obtain rfl : n = l.length := by omega
      have HE := Lib.hid Hc.out
      rw [List.take_of_length_le (by simp)] at HE
      go_wp2
      go_ret
      exact ⟨ret_int HE.out, hB⟩
set_option maxRecDepth 100000 in
set_option maxHeartbeats 1000000 in
theorem heldCode_c (x : TCode) : ∀ (w : World) (K : Nat → Prop) (_ : ∀ b, K b → b < w.heap.size) (k : Int) (cs : List Value) (_ : Rep w K (tmk k x.enc) cs) (_ : 0 ≤ k) (_ : k + (tcnt x.enc : Nat) ≤ 4611686018427387904),
    Calls Try.prog 12 #[.agg cs.toArray, .int .i64 k] w fun e w' => e = .returned (.int .i64 (k + (tcnt x.enc : Nat))) ∧ Below w.heap.size w w' := by
  intro w K hK k cs h h0 hlim
  rw [TCode.tcnt_eq] at hlim ⊢
  obtain ⟨c1, rfl, o1⟩ := TCode.tmrep_open h
  clear h
  have hW : Below w.heap.size w (w.alloc (.cells #[.int .i64 x.fParams, c1] 29)) := (Below.refl _ _).alloc (Nat.le_refl _) _
  have hx : Below (w.heap.size + 1) (w.alloc (.cells #[.int .i64 x.fParams, c1] 29)) (w.alloc (.cells #[.int .i64 x.fParams, c1] 29)) := Below.refl _ _
  go_enter Try.func12, Try.ntmps12
  go_wp2_with fail
  refine (heldInstrS_c x.fList _ K (fun b hb => Nat.lt_of_lt_of_le (hK b hb) hW.size) _ _ (Rep.ext hW hK o1) (by omega) (by omega)).mono ?_
  rintro e w1 ⟨rfl, hB1⟩
  have hx1 : Below (w.heap.size + 1) (w.alloc (.cells #[.int .i64 x.fParams, c1] 29)) w1 := hx.trans (hB1.mono (by have := hx.size; simp at this ⊢ <;> omega))
  have hb1 : Below w.heap.size w w1 := hW.trans (hx1.mono (Nat.le_succ _))
  have hc1 := (bcell hx1).1
  go_wp2
  go_ret
  exact ⟨ret_int (by omega), hb1⟩
end Go.Proofs.Ytkmiecgcibjkbaa
