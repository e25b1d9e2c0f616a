/- The functions held.. of the laws. Conditions: the numbers begin at 0 or above and stay at or below 2 ^ 62. -/
import Derived.Test.YtkmiecgcibjkbaaGreatMkFlat
namespace Go.Proofs.YtkmiecgcibjkbaaGreat
open Go.RowKit
set_option maxRecDepth 100000 in
set_option maxHeartbeats 1000000 in
theorem heldStringS_c (l : List ByteArray) : ∀ (w : World) (K : Nat → Prop) (_ : ∀ b, K b → b < w.heap.size) (k : Int) (v : Value) (_ : Rep w K (.sl (mks k (l.map encS))) [v]) (_ : 0 ≤ k) (_ : k + (cnts (l.map encS) : Nat) ≤ 4611686018427387904),
    Calls Tryz.prog 23 #[v, .int .i64 k] w fun e w' => e = .returned (.int .i64 (k + (cnts (l.map encS) : Nat))) ∧ Below w.heap.size w w' := by
  intro w K hK k v h h0 hlim
  obtain ⟨a, cap, rfl, hcp, hm, hE⟩ := held_open encS_w h
  unfold maxLen at hm
  have Hlim := Lib.hid hlim
  clear h hlim
  go_enter Tryz.func23, Tryz.ntmps23
  go_wp2
  go_loopw [5, 1] (fun i kk wr => ∃ (n : Nat) (c : Int), n ≤ l.length ∧ i = .int .i64 n ∧ kk = .int .i64 c ∧ 0 ≤ c ∧ Hid (c = k + (cnts ((l.map encS).take n) : Nat)) ∧ Below w.heap.size w wr) (fun i _ _ => l.length - (intOf i).toNat)
  case atStart => exact ⟨0, k, Nat.zero_le _, rfl, rfl, h0, Lib.hid (by simp only [List.take_zero, cnts]; omega), Below.refl _ _⟩
  case round =>
    obtain ⟨n, c, hn, rfl, rfl, hc0, Hc, hB⟩ := hrel
    by_cases hlt : n < l.length
    · obtain ⟨b, off, rfl, hKb, cs, hcs, hr⟩ := hE n hlt
      obtain ⟨hM, hN⟩ := held_cnt hlt Hc.out Hlim.out
      rw [← Hc.out] at hr
      have gr := Rep.ext hB hK hr
      have gcs := hcs.ext hB (hK b hKb)
      have hbl : b < wr.heap.size := Nat.lt_of_lt_of_le (hK b hKb) hB.size
      have hK' : ∀ b, K b → b < wr.heap.size := fun b h => Nat.lt_of_lt_of_le (hK b h) hB.size
      clear hE hcs hr Hc Hlim hKb
      generalize l[n] = x at *
      rw [cntS_flat] at hM hN
      obtain rfl := mrepS_flat gr
      have HN := Lib.hid hN
      have g0 : ∀ w', Below wr.heap.size wr w' → w'.cell? ⟨b, off + n, none⟩ = some (.string (mtext (c))) := fun w' q => by simpa using gcs.ext q hbl 0 _ rfl
      have hW : Below wr.heap.size wr wr := Below.refl _ _
      clear hN gr gcs hbl
      go_wp2_with fail
      have hd1 : Below wr.heap.size wr wr.drew := hW.drew
      refine rg 7 (Below wr.heap.size wr) (by kernel_rfl) rfl ?_
      refine rg_seg (fuel := 2) [0, 1, 2, 3, 4] hd1 (by kernel_rfl) rfl ?_
      simp only [pick, List.getElem?_cons_zero, List.getElem?_cons_succ]
      iterate 5 (refine sg_fix _ rfl (fun w' hI => by go_simp; rfl) ?_; simp only [Act.put, List.setIfInBounds_toArray, List.set_cons_zero, List.set_cons_succ])
      refine sg_nil ?_
      refine rg_one (fuel := 1) 5 (by kernel_rfl) rfl (fun K1 hK1 => ?_)
      simp only [pick, List.getElem?_cons_zero, List.getElem?_cons_succ]
      refine rg_call rfl _ _ (by go_simp; exact ⟨rfl, rfl⟩) ?_
      refine (markText_c _ (by omega) _).mono ?_
      rintro e w1 ⟨rfl, hB1⟩
      have hW1 : Below wr.heap.size wr w1 := hd1.trans (hB1.mono hd1.size)
      refine ⟨_, rfl, hK1 _ _ hW1 ?_⟩
      simp only [Act.put, List.setIfInBounds_toArray, List.set_cons_zero, List.set_cons_succ]
      refine rg_seg (fuel := 0) [6] hW1 (by kernel_rfl) rfl ?_
      simp only [pick, List.getElem?_cons_zero, List.getElem?_cons_succ]
      refine sg_fix _ rfl (fun w' hI => by go_simp; rfl) ?_; simp only [Act.put, List.setIfInBounds_toArray, List.set_cons_zero, List.set_cons_succ]
      refine sg_nil (rg_end (by kernel_rfl) ?_)
      have HF := Lib.hid (hB.trans (hW1.mono hB.size))
      go_wp2
      go_roundw
      case rel => exact ⟨n + 1, _, hlt, by go_num, rfl, by omega, Lib.hid (by have := HN.out; omega), HF.out⟩
      case measure => simp [intOf]; omega
    · obtain rfl : n = l.length := by omega
      have HE := Lib.hid Hc.out
      rw [List.take_of_length_le (by simp)] at HE
      go_wp2
      go_ret
      exact ⟨ret_int HE.out, hB⟩
def HeldTypeS (N : Nat) : Prop := ∀ (l : List TType), SizeOf.sizeOf l < N → ∀ (w : World) (K : Nat → Prop) (_ : ∀ b, K b → b < w.heap.size) (k : Int) (v : Value) (_ : Rep w K (.sl (mks k (l.map TType.enc))) [v]) (_ : 0 ≤ k) (_ : k + (cnts (l.map TType.enc) : Nat) ≤ 4611686018427387904),
    Calls Tryz.prog 84 #[v, .int .i64 k] w fun e w' => e = .returned (.int .i64 (k + (cnts (l.map TType.enc) : Nat))) ∧ Below w.heap.size w w'
set_option maxRecDepth 100000 in
set_option maxHeartbeats 1000000 in
theorem stepHeldTypeS (N : Nat) (iHeldTypeS : HeldTypeS N) : HeldTypeS (N + 1) := by
  intro l hN w K hK k v h h0 hlim
  obtain ⟨a, cap, rfl, hcp, hm, hE⟩ := held_open TType.width h
  unfold maxLen at hm
  have Hlim := Lib.hid hlim
  clear h hlim
  go_enter Tryz.func84, Tryz.ntmps84
  go_wp2
  go_loopw [5, 1] (fun i kk wr => ∃ (n : Nat) (c : Int), n ≤ l.length ∧ i = .int .i64 n ∧ kk = .int .i64 c ∧ 0 ≤ c ∧ Hid (c = k + (cnts ((l.map TType.enc).take n) : Nat)) ∧ Below w.heap.size w wr) (fun i _ _ => l.length - (intOf i).toNat)
  case atStart => exact ⟨0, k, Nat.zero_le _, rfl, rfl, h0, Lib.hid (by simp only [List.take_zero, cnts]; omega), Below.refl _ _⟩
  case round =>
    obtain ⟨n, c, hn, rfl, rfl, hc0, Hc, hB⟩ := hrel
    by_cases hlt : n < l.length
    · obtain ⟨b, off, rfl, hKb, cs, hcs, hr⟩ := hE n hlt
      obtain ⟨hM, hN⟩ := held_cnt hlt Hc.out Hlim.out
      rw [← Hc.out] at hr
      have gr := Rep.ext hB hK hr
      have gcs := hcs.ext hB (hK b hKb)
      have hbl : b < wr.heap.size := Nat.lt_of_lt_of_le (hK b hKb) hB.size
      have hK' : ∀ b, K b → b < wr.heap.size := fun b h => Nat.lt_of_lt_of_le (hK b h) hB.size
      have hz : SizeOf.sizeOf l[n] < SizeOf.sizeOf l := List.sizeOf_lt_of_mem (List.getElem_mem hlt)
      clear hE hcs hr Hc Hlim hKb
      generalize l[n] = x at *
      rw [TType.cnt_flat] at hM hN
      obtain ⟨c2, rfl, o2⟩ := TType.mrep_flat gr
      have HN := Lib.hid hN
      have g0 : ∀ w', Below wr.heap.size wr w' → w'.cell? ⟨b, off + n * 3, none⟩ = some (.int .i64 (c)) := fun w' q => by simpa using gcs.ext q hbl 0 _ rfl
      have g1 : ∀ w', Below wr.heap.size wr w' → w'.cell? ⟨b, off + n * 3 + 1, none⟩ = some (.string (mtext (c + 1))) := fun w' q => gcs.ext q hbl 1 _ rfl
      have g2 : ∀ w', Below wr.heap.size wr w' → w'.cell? ⟨b, off + n * 3 + 2, none⟩ = some (c2) := fun w' q => gcs.ext q hbl 2 _ rfl
      have hW : Below wr.heap.size wr wr := Below.refl _ _
      clear hN gr gcs hbl
      go_wp2_with fail
      have hd1 : Below wr.heap.size wr wr.drew := hW.drew
      refine rg 8 (Below wr.heap.size wr) (by kernel_rfl) rfl ?_
      refine rg_seg (fuel := 2) [0, 1, 2, 3, 4, 5] hd1 (by kernel_rfl) rfl ?_
      simp only [pick, List.getElem?_cons_zero, List.getElem?_cons_succ]
      iterate 6 (refine sg_fix _ rfl (fun w' hI => by go_simp; rfl) ?_; simp only [Act.put, List.setIfInBounds_toArray, List.set_cons_zero, List.set_cons_succ])
      refine sg_nil ?_
      refine rg_one (fuel := 1) 6 (by kernel_rfl) rfl (fun K1 hK1 => ?_)
      simp only [pick, List.getElem?_cons_zero, List.getElem?_cons_succ]
      refine rg_call rfl _ _ (by go_simp; exact ⟨rfl, rfl⟩) ?_
      refine (markText_c _ (by omega) _).mono ?_
      rintro e w1 ⟨rfl, hB1⟩
      have hW1 : Below wr.heap.size wr w1 := hd1.trans (hB1.mono hd1.size)
      refine ⟨_, rfl, hK1 _ _ hW1 ?_⟩
      simp only [Act.put, List.setIfInBounds_toArray, List.set_cons_zero, List.set_cons_succ]
      refine rg_seg (fuel := 0) [7] hW1 (by kernel_rfl) rfl ?_
      simp only [pick, List.getElem?_cons_zero, List.getElem?_cons_succ]
      refine sg_fix _ rfl (fun w' hI => by go_simp; rfl) ?_; simp only [Act.put, List.setIfInBounds_toArray, List.set_cons_zero, List.set_cons_succ]
      refine sg_nil (rg_end (by kernel_rfl) ?_)
      go_wp2_with fail
      refine (iHeldTypeS x.fArgs (by have := TType.lt_fArgs x; omega) w1 K (fun b hb => Nat.lt_of_lt_of_le (hK' b hb) hW1.size) _ _ (Rep.ext hW1 hK' o2) (by omega) (by omega)).mono ?_
      rintro e w2 ⟨rfl, hB2⟩
      have hW2 : Below wr.heap.size wr w2 := hW1.trans (hB2.mono hW1.size)
      have HF := Lib.hid (hB.trans (hW2.mono hB.size))
      go_wp2
      go_roundw
      case rel => exact ⟨n + 1, _, hlt, by go_num, rfl, by omega, Lib.hid (by have := HN.out; omega), HF.out⟩
      case measure => simp [intOf]; omega
    · obtain rfl : n = l.length := by omega
      have HE := Lib.hid Hc.out
      rw [List.take_of_length_le (by simp)] at HE
      go_wp2
      go_ret
      exact ⟨ret_int HE.out, hB⟩
theorem HeldTypeS_all : ∀ N : Nat, HeldTypeS N
  | 0 => fun _ h => absurd h (Nat.not_lt_zero _)
  | N + 1 => by
    have i0 := HeldTypeS_all N
    exact stepHeldTypeS N i0
theorem heldTypeS_c (l : List TType) : ∀ (w : World) (K : Nat → Prop) (_ : ∀ b, K b → b < w.heap.size) (k : Int) (v : Value) (_ : Rep w K (.sl (mks k (l.map TType.enc))) [v]) (_ : 0 ≤ k) (_ : k + (cnts (l.map TType.enc) : Nat) ≤ 4611686018427387904),
    Calls Tryz.prog 84 #[v, .int .i64 k] w fun e w' => e = .returned (.int .i64 (k + (cnts (l.map TType.enc) : Nat))) ∧ Below w.heap.size w w' := (HeldTypeS_all (SizeOf.sizeOf l + 1)) l (Nat.lt_succ_self _)
set_option maxRecDepth 100000 in
set_option maxHeartbeats 1000000 in
theorem heldBoundS_c (l : List TBound) : ∀ (w : World) (K : Nat → Prop) (_ : ∀ b, K b → b < w.heap.size) (k : Int) (v : Value) (_ : Rep w K (.sl (mks k (l.map TBound.enc))) [v]) (_ : 0 ≤ k) (_ : k + (cnts (l.map TBound.enc) : Nat) ≤ 4611686018427387904),
    Calls Tryz.prog 82 #[v, .int .i64 k] w fun e w' => e = .returned (.int .i64 (k + (cnts (l.map TBound.enc) : Nat))) ∧ Below w.heap.size w w' := by
  intro w K hK k v h h0 hlim
  obtain ⟨a, cap, rfl, hcp, hm, hE⟩ := held_open TBound.width h
  unfold maxLen at hm
  have Hlim := Lib.hid hlim
  clear h hlim
  go_enter Tryz.func82, Tryz.ntmps82
  go_wp2
  go_loopw [5, 1] (fun i kk wr => ∃ (n : Nat) (c : Int), n ≤ l.length ∧ i = .int .i64 n ∧ kk = .int .i64 c ∧ 0 ≤ c ∧ Hid (c = k + (cnts ((l.map TBound.enc).take n) : Nat)) ∧ Below w.heap.size w wr) (fun i _ _ => l.length - (intOf i).toNat)
  case atStart => exact ⟨0, k, Nat.zero_le _, rfl, rfl, h0, Lib.hid (by simp only [List.take_zero, cnts]; omega), Below.refl _ _⟩
  case round =>
    obtain ⟨n, c, hn, rfl, rfl, hc0, Hc, hB⟩ := hrel
    by_cases hlt : n < l.length
    · obtain ⟨b, off, rfl, hKb, cs, hcs, hr⟩ := hE n hlt
      obtain ⟨hM, hN⟩ := held_cnt hlt Hc.out Hlim.out
      rw [← Hc.out] at hr
      have gr := Rep.ext hB hK hr
      have gcs := hcs.ext hB (hK b hKb)
      have hbl : b < wr.heap.size := Nat.lt_of_lt_of_le (hK b hKb) hB.size
      have hK' : ∀ b, K b → b < wr.heap.size := fun b h => Nat.lt_of_lt_of_le (hK b h) hB.size
      clear hE hcs hr Hc Hlim hKb
      generalize l[n] = x at *
      rw [TBound.cnt_flat] at hM hN
      obtain ⟨c3, rfl, o3⟩ := TBound.mrep_flat gr
      have HN := Lib.hid hN
      have g0 : ∀ w', Below wr.heap.size wr w' → w'.cell? ⟨b, off + n * 4, none⟩ = some (.string (mtext (c))) := fun w' q => by simpa using gcs.ext q hbl 0 _ rfl
      have g1 : ∀ w', Below wr.heap.size wr w' → w'.cell? ⟨b, off + n * 4 + 1, none⟩ = some (.int .i64 (c + 1)) := fun w' q => gcs.ext q hbl 1 _ rfl
      have g2 : ∀ w', Below wr.heap.size wr w' → w'.cell? ⟨b, off + n * 4 + 2, none⟩ = some (.string (mtext (c + 1 + 1))) := fun w' q => gcs.ext q hbl 2 _ rfl
      have g3 : ∀ w', Below wr.heap.size wr w' → w'.cell? ⟨b, off + n * 4 + 3, none⟩ = some (c3) := fun w' q => gcs.ext q hbl 3 _ rfl
      have hW : Below wr.heap.size wr wr := Below.refl _ _
      clear hN gr gcs hbl
      go_wp2_with fail
      have hd1 : Below wr.heap.size wr wr.drew := hW.drew
      refine rg 8 (Below wr.heap.size wr) (by kernel_rfl) rfl ?_
      refine rg_seg (fuel := 2) [0, 1, 2, 3, 4, 5] hd1 (by kernel_rfl) rfl ?_
      simp only [pick, List.getElem?_cons_zero, List.getElem?_cons_succ]
      iterate 6 (refine sg_fix _ rfl (fun w' hI => by go_simp; rfl) ?_; simp only [Act.put, List.setIfInBounds_toArray, List.set_cons_zero, List.set_cons_succ])
      refine sg_nil ?_
      refine rg_one (fuel := 1) 6 (by kernel_rfl) rfl (fun K1 hK1 => ?_)
      simp only [pick, List.getElem?_cons_zero, List.getElem?_cons_succ]
      refine rg_call rfl _ _ (by go_simp; exact ⟨rfl, rfl⟩) ?_
      refine (markText_c _ (by omega) _).mono ?_
      rintro e w1 ⟨rfl, hB1⟩
      have hW1 : Below wr.heap.size wr w1 := hd1.trans (hB1.mono hd1.size)
      refine ⟨_, rfl, hK1 _ _ hW1 ?_⟩
      simp only [Act.put, List.setIfInBounds_toArray, List.set_cons_zero, List.set_cons_succ]
      refine rg_seg (fuel := 0) [7] hW1 (by kernel_rfl) rfl ?_
      simp only [pick, List.getElem?_cons_zero, List.getElem?_cons_succ]
      refine sg_fix _ rfl (fun w' hI => by go_simp; rfl) ?_; simp only [Act.put, List.setIfInBounds_toArray, List.set_cons_zero, List.set_cons_succ]
      refine sg_nil (rg_end (by kernel_rfl) ?_)
      go_wp2_with fail
      have hd2 : Below wr.heap.size wr w1.drew := hW1.drew
      refine rg 9 (Below wr.heap.size wr) (by kernel_rfl) rfl ?_
      refine rg_seg (fuel := 2) [0, 1, 2, 3, 4, 5, 6] hd2 (by kernel_rfl) rfl ?_
      simp only [pick, List.getElem?_cons_zero, List.getElem?_cons_succ]
      iterate 7 (refine sg_fix _ rfl (fun w' hI => by go_simp; rfl) ?_; simp only [Act.put, List.setIfInBounds_toArray, List.set_cons_zero, List.set_cons_succ])
      refine sg_nil ?_
      refine rg_one (fuel := 1) 7 (by kernel_rfl) rfl (fun K1 hK1 => ?_)
      simp only [pick, List.getElem?_cons_zero, List.getElem?_cons_succ]
      refine rg_call rfl _ _ (by go_simp; exact ⟨rfl, rfl⟩) ?_
      refine (markText_c _ (by omega) _).mono ?_
      rintro e w2 ⟨rfl, hB2⟩
      have hW2 : Below wr.heap.size wr w2 := hd2.trans (hB2.mono hd2.size)
      refine ⟨_, rfl, hK1 _ _ hW2 ?_⟩
      simp only [Act.put, List.setIfInBounds_toArray, List.set_cons_zero, List.set_cons_succ]
      refine rg_seg (fuel := 0) [8] hW2 (by kernel_rfl) rfl ?_
      simp only [pick, List.getElem?_cons_zero, List.getElem?_cons_succ]
      refine sg_fix _ rfl (fun w' hI => by go_simp; rfl) ?_; simp only [Act.put, List.setIfInBounds_toArray, List.set_cons_zero, List.set_cons_succ]
      refine sg_nil (rg_end (by kernel_rfl) ?_)
      go_wp2_with fail
      refine (heldTypeS_c x.fType.fArgs w2 K (fun b hb => Nat.lt_of_lt_of_le (hK' b hb) hW2.size) _ _ (Rep.ext hW2 hK' o3) (by omega) (by omega)).mono ?_
      rintro e w3 ⟨rfl, hB3⟩
      have hW3 : Below wr.heap.size wr w3 := hW2.trans (hB3.mono hW2.size)
      have HF := Lib.hid (hB.trans (hW3.mono hB.size))
      go_wp2
      go_roundw
      case rel => exact ⟨n + 1, _, hlt, by go_num, rfl, by omega, Lib.hid (by have := HN.out; omega), HF.out⟩
      case measure => simp [intOf]; omega
    · obtain rfl : n = l.length := by omega
      have HE := Lib.hid Hc.out
      rw [List.take_of_length_le (by simp)] at HE
      go_wp2
      go_ret
      exact ⟨ret_int HE.out, hB⟩
end Go.Proofs.YtkmiecgcibjkbaaGreat
