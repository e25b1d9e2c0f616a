/- The functions held.. of the laws. Conditions: the numbers begin at 0 or above and stay at or below 2 ^ 62. -/
import Derived.Test.YtkmiecgcibjkbaaGreatMkFlat
namespace Go.Proofs.YtkmiecgcibjkbaaGreat
open Go.RowKit
set_option maxRecDepth 100000 in
set_option maxHeartbeats 1000000 in
theorem heldStringS_c (l : List ByteArray) : ∀ (w : World) (K : Nat → Prop) (_ : ∀ b, K b → b < w.heap.size) (k : Int) (v : Value) (_ : Rep w K (.sl (mks k (l.map encS))) [v]) (_ : 0 ≤ k) (_ : k + (cnts (l.map encS) : Nat) ≤ 4611686018427387904),
    Calls Tryz.prog 23 #[v, .int .i64 k] w fun e w' => e = .returned (.int .i64 (k + (cnts (l.map encS) : Nat))) ∧ Below w.heap.size w w' := by
  intro w K hK k v h h0 hlim
  obtain ⟨a, cap, rfl, hcp, hm, hE⟩ := held_open encS_w h
  unfold maxLen at hm
  have Hlim := Lib.hid hlim
  clear h hlim
  go_enter Tryz.func23, Tryz.ntmps23
  go_wp2
  go_loopw [5, 1] (fun i kk wr => ∃ (n : Nat) (c : Int), n ≤ l.length ∧ i = .int .i64 n ∧ kk = .int .i64 c ∧ 0 ≤ c ∧ Hid (c = k + (cnts ((l.map encS).take n) : Nat)) ∧ Below w.heap.size w wr) (fun i _ _ => l.length - (intOf i).toNat)
  case atStart => exact ⟨0, k, Nat.zero_le _, rfl, rfl, h0, Lib.hid (by simp only [List.take_zero, cnts]; omega), Below.refl _ _⟩
  case round =>
    obtain ⟨n, c, hn, rfl, rfl, hc0, Hc, hB⟩ := hrel
    by_cases hlt : n < l.length
    · obtain ⟨b, off, rfl, hKb, cs, hcs, hr⟩ := hE n hlt
      obtain ⟨hM, hN⟩ := held_cnt hlt Hc.out Hlim.out
      rw [← Hc.out] at hr
      have gr := Rep.ext hB hK hr
      have gcs := hcs.ext hB (hK b hKb)
      have hbl : b < wr.heap.size := Nat.lt_of_lt_of_le (hK b hKb) hB.size
      have hK' : ∀ b, K b → b < wr.heap.size := fun b h => Nat.lt_of_lt_of_le (hK b h) hB.size
      clear hE hcs hr Hc Hlim hKb
      generalize l[n] = x at *
      rw [cntS_flat] at hM hN
      obtain rfl := mrepS_flat gr
      have HN := Lib.hid hN
      have g0 : ∀ w', Below wr.heap.size wr w' → w'.cell? ⟨b, off + n, none⟩ = some (.string (mtext (c))) := fun w' q => by simpa using gcs.ext q hbl 0 _ rfl
      have hW : Below wr.heap.size wr wr := Below.refl _ _
      clear hN gr gcs hbl
      go_wp2_with fail
      have hd1 : Below wr.heap.size wr wr.drew := hW.drew
      refine rg 7 (Below wr.heap.size wr) (by kernel_rfl) rfl ?_
      refine rg_seg (fuel := 2) [0, 1, 2, 3, 4] hd1 (by kernel_rfl) rfl ?_
      simp only [pick, List.getElem?_cons_zero, List.getElem?_cons_succ]
      iterate 5 (refine sg_fix _ rfl (fun w' hI => by go_simp; rfl) ?_; simp only [Act.put, List.setIfInBounds_toArray, List.set_cons_zero, List.set_cons_succ])
      refine sg_nil ?_
      refine rg_one (fuel := 1) 5 (by kernel_rfl) rfl (fun K1 hK1 => ?_)
      simp only [pick, List.getElem?_cons_zero, List.getElem?_cons_succ]
      refine rg_call rfl _ _ (by go_simp; exact ⟨rfl, rfl⟩) ?_
      refine (markText_c _ (by omega) _).mono ?_
      rintro e w1 ⟨rfl, hB1⟩
      have hW1 : Below wr.heap.size wr w1 := hd1.trans (hB1.mono hd1.size)
      refine ⟨_, rfl, hK1 _ _ hW1 ?_⟩
      simp only [Act.put, List.setIfInBounds_toArray, List.set_cons_zero, List.set_cons_succ]
      refine rg_seg (fuel := 0) [6] hW1 (by kernel_rfl) rfl ?_
      simp only [pick, List.getElem?_cons_zero, List.getElem?_cons_succ]
      refine sg_fix _ rfl (fun w' hI => by go_simp; rfl) ?_; simp only [Act.put, List.setIfInBounds_toArray, List.set_cons_zero, List.set_cons_succ]
      refine sg_nil (rg_end (by kernel_rfl) ?_)
      have HF := Lib.hid (hB.trans (hW1.mono hB.size))
      go_wp2
      go_roundw
      case rel => exact ⟨n + 1, _, hlt, by go_num, rfl, by omega, Lib.hid (by have := HN.out; omega), HF.out⟩
      case measure => simp [intOf]; omega
    · obtain rfl : n = l.length := by omega
      have HE := Lib.hid Hc.out
      rw [List.take_of_length_le (by simp)] at HE
      go_wp2
      go_ret
      exact ⟨ret_int HE.out, hB⟩
def HeldEvidenceS (N : Nat) : Prop := ∀ (l : List TEvidence), SizeOf.sizeOf l < N → ∀ (w : World) (K : Nat → Prop) (_ : ∀ b, K b → b < w.heap.size) (k : Int) (v : Value) (_ : Rep w K (.sl (mks k (l.map TEvidence.enc))) [v]) (_ : 0 ≤ k) (_ : k + (cnts (l.map TEvidence.enc) : Nat) ≤ 4611686018427387904),
    Calls Tryz.prog 85 #[v, .int .i64 k] w fun e w' => e = .returned (.int .i64 (k + (cnts (l.map TEvidence.enc) : Nat))) ∧ Below w.heap.size w w'
set_option maxRecDepth 100000 in
set_option maxHeartbeats 1000000 in
theorem stepHeldEvidenceS (N : Nat) (iHeldEvidenceS : HeldEvidenceS N) : HeldEvidenceS (N + 1) := by
  intro l hN w K hK k v h h0 hlim
  obtain ⟨a, cap, rfl, hcp, hm, hE⟩ := held_open TEvidence.width h
  unfold maxLen at hm
  have Hlim := Lib.hid hlim
  clear h hlim
  go_enter Tryz.func85, Tryz.ntmps85
  go_wp2
  go_loopw [5, 1] (fun i kk wr => ∃ (n : Nat) (c : Int), n ≤ l.length ∧ i = .int .i64 n ∧ kk = .int .i64 c ∧ 0 ≤ c ∧ Hid (c = k + (cnts ((l.map TEvidence.enc).take n) : Nat)) ∧ Below w.heap.size w wr) (fun i _ _ => l.length - (intOf i).toNat)
  case atStart => exact ⟨0, k, Nat.zero_le _, rfl, rfl, h0, Lib.hid (by simp only [List.take_zero, cnts]; omega), Below.refl _ _⟩
  case round =>
    obtain ⟨n, c, hn, rfl, rfl, hc0, Hc, hB⟩ := hrel
    by_cases hlt : n < l.length
    · obtain ⟨b, off, rfl, hKb, cs, hcs, hr⟩ := hE n hlt
      obtain ⟨hM, hN⟩ := held_cnt hlt Hc.out Hlim.out
      rw [← Hc.out] at hr
      have gr := Rep.ext hB hK hr
      have gcs := hcs.ext hB (hK b hKb)
      have hbl : b < wr.heap.size := Nat.lt_of_lt_of_le (hK b hKb) hB.size
      have hK' : ∀ b, K b → b < wr.heap.size := fun b h => Nat.lt_of_lt_of_le (hK b h) hB.size
      have hz : SizeOf.sizeOf l[n] < SizeOf.sizeOf l := List.sizeOf_lt_of_mem (List.getElem_mem hlt)
      clear hE hcs hr Hc Hlim hKb
      generalize l[n] = x at *
      rw [TEvidence.cnt_flat] at hM hN
      obtain ⟨c4, rfl, o4⟩ := TEvidence.mrep_flat gr
      have HN := Lib.hid hN
      have g0 : ∀ w', Below wr.heap.size wr w' → w'.cell? ⟨b, off + n * 5, none⟩ = some (.int .i64 (c)) := fun w' q => by simpa using gcs.ext q hbl 0 _ rfl
      have g1 : ∀ w', Below wr.heap.size wr w' → w'.cell? ⟨b, off + n * 5 + 1, none⟩ = some (.int .i64 (c + 1)) := fun w' q => gcs.ext q hbl 1 _ rfl
      have g2 : ∀ w', Below wr.heap.size wr w' → w'.cell? ⟨b, off + n * 5 + 2, none⟩ = some (.int .i64 (c + 1 + 1)) := fun w' q => gcs.ext q hbl 2 _ rfl
      have g3 : ∀ w', Below wr.heap.size wr w' → w'.cell? ⟨b, off + n * 5 + 3, none⟩ = some (.int .i64 (c + 1 + 1 + 1)) := fun w' q => gcs.ext q hbl 3 _ rfl
      have g4 : ∀ w', Below wr.heap.size wr w' → w'.cell? ⟨b, off + n * 5 + 4, none⟩ = some (c4) := fun w' q => gcs.ext q hbl 4 _ rfl
      have hW : Below wr.heap.size wr wr := Below.refl _ _
      clear hN gr gcs hbl
      go_wp2_with fail
      refine (iHeldEvidenceS x.fArgs (by have := TEvidence.lt_fArgs x; omega) wr K (fun b hb => Nat.lt_of_lt_of_le (hK' b hb) hW.size) _ _ (Rep.ext hW hK' o4) (by omega) (by omega)).mono ?_
      rintro e w1 ⟨rfl, hB1⟩
      have hW1 : Below wr.heap.size wr w1 := hW.trans (hB1.mono hW.size)
      have HF := Lib.hid (hB.trans (hW1.mono hB.size))
      go_wp2
      go_roundw
      case rel => exact ⟨n + 1, _, hlt, by go_num, rfl, by omega, Lib.hid (by have := HN.out; omega), HF.out⟩
      case measure => simp [intOf]; omega
    · obtain rfl : n = l.length := by omega
      have HE := Lib.hid Hc.out
      rw [List.take_of_length_le (by simp)] at HE
      go_wp2
      go_ret
      exact ⟨ret_int HE.out, hB⟩
theorem HeldEvidenceS_all : ∀ N : Nat, HeldEvidenceS N
  | 0 => fun _ h => absurd h (Nat.not_lt_zero _)
  | N + 1 => by
    have i0 := HeldEvidenceS_all N
    exact stepHeldEvidenceS N i0
theorem heldEvidenceS_c (l : List TEvidence) : ∀ (w : World) (K : Nat → Prop) (_ : ∀ b, K b → b < w.heap.size) (k : Int) (v : Value) (_ : Rep w K (.sl (mks k (l.map TEvidence.enc))) [v]) (_ : 0 ≤ k) (_ : k + (cnts (l.map TEvidence.enc) : Nat) ≤ 4611686018427387904),
    Calls Tryz.prog 85 #[v, .int .i64 k] w fun e w' => e = .returned (.int .i64 (k + (cnts (l.map TEvidence.enc) : Nat))) ∧ Below w.heap.size w w' := (HeldEvidenceS_all (SizeOf.sizeOf l + 1)) l (Nat.lt_succ_self _)
def HeldTypeS (N : Nat) : Prop := ∀ (l : List TType), SizeOf.sizeOf l < N → ∀ (w : World) (K : Nat → Prop) (_ : ∀ b, K b → b < w.heap.size) (k : Int) (v : Value) (_ : Rep w K (.sl (mks k (l.map TType.enc))) [v]) (_ : 0 ≤ k) (_ : k + (cnts (l.map TType.enc) : Nat) ≤ 4611686018427387904),
    Calls Tryz.prog 84 #[v, .int .i64 k] w fun e w' => e = .returned (.int .i64 (k + (cnts (l.map TType.enc) : Nat))) ∧ Below w.heap.size w w'
set_option maxRecDepth 100000 in
set_option maxHeartbeats 1000000 in
theorem stepHeldTypeS (N : Nat) (iHeldTypeS : HeldTypeS N) : HeldTypeS (N + 1) := by
  intro l hN w K hK k v h h0 hlim
  obtain ⟨a, cap, rfl, hcp, hm, hE⟩ := held_open TType.width h
  unfold maxLen at hm
  have Hlim := Lib.hid hlim
  clear h hlim
  go_enter Tryz.func84, Tryz.ntmps84
  go_wp2
  go_loopw [5, 1] (fun i kk wr => ∃ (n : Nat) (c : Int), n ≤ l.length ∧ i = .int .i64 n ∧ kk = .int .i64 c ∧ 0 ≤ c ∧ Hid (c = k + (cnts ((l.map TType.enc).take n) : Nat)) ∧ Below w.heap.size w wr) (fun i _ _ => l.length - (intOf i).toNat)
  case atStart => exact ⟨0, k, Nat.zero_le _, rfl, rfl, h0, Lib.hid (by simp only [List.take_zero, cnts]; omega), Below.refl _ _⟩
  case round =>
    obtain ⟨n, c, hn, rfl, rfl, hc0, Hc, hB⟩ := hrel
    by_cases hlt : n < l.length
    · obtain ⟨b, off, rfl, hKb, cs, hcs, hr⟩ := hE n hlt
      obtain ⟨hM, hN⟩ := held_cnt hlt Hc.out Hlim.out
      rw [← Hc.out] at hr
      have gr := Rep.ext hB hK hr
      have gcs := hcs.ext hB (hK b hKb)
      have hbl : b < wr.heap.size := Nat.lt_of_lt_of_le (hK b hKb) hB.size
      have hK' : ∀ b, K b → b < wr.heap.size := fun b h => Nat.lt_of_lt_of_le (hK b h) hB.size
      have hz : SizeOf.sizeOf l[n] < SizeOf.sizeOf l := List.sizeOf_lt_of_mem (List.getElem_mem hlt)
      clear hE hcs hr Hc Hlim hKb
      generalize l[n] = x at *
      rw [TType.cnt_flat] at hM hN
      obtain ⟨c2, rfl, o2⟩ := TType.mrep_flat gr
      have HN := Lib.hid hN
      have g0 : ∀ w', Below wr.heap.size wr w' → w'.cell? ⟨b, off + n * 3, none⟩ = some (.int .i64 (c)) := fun w' q => by simpa using gcs.ext q hbl 0 _ rfl
      have g1 : ∀ w', Below wr.heap.size wr w' → w'.cell? ⟨b, off + n * 3 + 1, none⟩ = some (.string (mtext (c + 1))) := fun w' q => gcs.ext q hbl 1 _ rfl
      have g2 : ∀ w', Below wr.heap.size wr w' → w'.cell? ⟨b, off + n * 3 + 2, none⟩ = some (c2) := fun w' q => gcs.ext q hbl 2 _ rfl
      have hW : Below wr.heap.size wr wr := Below.refl _ _
      clear hN gr gcs hbl
      go_wp2_with fail
      have hd1 : Below wr.heap.size wr wr.drew := hW.drew
      refine rg 8 (Below wr.heap.size wr) (by kernel_rfl) rfl ?_
      refine rg_seg (fuel := 2) [0, 1, 2, 3, 4, 5] hd1 (by kernel_rfl) rfl ?_
      simp only [pick, List.getElem?_cons_zero, List.getElem?_cons_succ]
      iterate 6 (refine sg_fix _ rfl (fun w' hI => by go_simp; rfl) ?_; simp only [Act.put, List.setIfInBounds_toArray, List.set_cons_zero, List.set_cons_succ])
      refine sg_nil ?_
      refine rg_one (fuel := 1) 6 (by kernel_rfl) rfl (fun K1 hK1 => ?_)
      simp only [pick, List.getElem?_cons_zero, List.getElem?_cons_succ]
      refine rg_call rfl _ _ (by go_simp; exact ⟨rfl, rfl⟩) ?_
      refine (markText_c _ (by omega) _).mono ?_
      rintro e w1 ⟨rfl, hB1⟩
      have hW1 : Below wr.heap.size wr w1 := hd1.trans (hB1.mono hd1.size)
      refine ⟨_, rfl, hK1 _ _ hW1 ?_⟩
      simp only [Act.put, List.setIfInBounds_toArray, List.set_cons_zero, List.set_cons_succ]
      refine rg_seg (fuel := 0) [7] hW1 (by kernel_rfl) rfl ?_
      simp only [pick, List.getElem?_cons_zero, List.getElem?_cons_succ]
      refine sg_fix _ rfl (fun w' hI => by go_simp; rfl) ?_; simp only [Act.put, List.setIfInBounds_toArray, List.set_cons_zero, List.set_cons_succ]
      refine sg_nil (rg_end (by kernel_rfl) ?_)
      go_wp2_with fail
      refine (iHeldTypeS x.fArgs (by have := TType.lt_fArgs x; omega) w1 K (fun b hb => Nat.lt_of_lt_of_le (hK' b hb) hW1.size) _ _ (Rep.ext hW1 hK' o2) (by omega) (by omega)).mono ?_
      rintro e w2 ⟨rfl, hB2⟩
      have hW2 : Below wr.heap.size wr w2 := hW1.trans (hB2.mono hW1.size)
      have HF := Lib.hid (hB.trans (hW2.mono hB.size))
      go_wp2
      go_roundw
      case rel => exact ⟨n + 1, _, hlt, by go_num, rfl, by omega, Lib.hid (by have := HN.out; omega), HF.out⟩
      case measure => simp [intOf]; omega
    · obtain rfl : n = l.length := by omega
      have HE := Lib.hid Hc.out
      rw [List.take_of_length_le (by simp)] at HE
      go_wp2
      go_ret
      exact ⟨ret_int HE.out, hB⟩
theorem HeldTypeS_all : ∀ N : Nat, HeldTypeS N
  | 0 => fun _ h => absurd h (Nat.not_lt_zero _)
  | N + 1 => by
    have i0 := HeldTypeS_all N
    exact stepHeldTypeS N i0
theorem heldTypeS_c (l : List TType) : ∀ (w : World) (K : Nat → Prop) (_ : ∀ b, K b → b < w.heap.size) (k : Int) (v : Value) (_ : Rep w K (.sl (mks k (l.map TType.enc))) [v]) (_ : 0 ≤ k) (_ : k + (cnts (l.map TType.enc) : Nat) ≤ 4611686018427387904),
    Calls Tryz.prog 84 #[v, .int .i64 k] w fun e w' => e = .returned (.int .i64 (k + (cnts (l.map TType.enc) : Nat))) ∧ Below w.heap.size w w' := (HeldTypeS_all (SizeOf.sizeOf l + 1)) l (Nat.lt_succ_self _)
set_option maxRecDepth 100000 in
set_option maxHeartbeats 1000000 in
theorem heldBoundS_c (l : List TBound) : ∀ (w : World) (K : Nat → Prop) (_ : ∀ b, K b → b < w.heap.size) (k : Int) (v : Value) (_ : Rep w K (.sl (mks k (l.map TBound.enc))) [v]) (_ : 0 ≤ k) (_ : k + (cnts (l.map TBound.enc) : Nat) ≤ 4611686018427387904),
    Calls Tryz.prog 82 #[v, .int .i64 k] w fun e w' => e = .returned (.int .i64 (k + (cnts (l.map TBound.enc) : Nat))) ∧ Below w.heap.size w w' := by
  intro w K hK k v h h0 hlim
  obtain ⟨a, cap, rfl, hcp, hm, hE⟩ := held_open TBound.width h
  unfold maxLen at hm
  have Hlim := Lib.hid hlim
  clear h hlim
  go_enter Tryz.func82, Tryz.ntmps82
  go_wp2
  go_loopw [5, 1] (fun i kk wr => ∃ (n : Nat) (c : Int), n ≤ l.length ∧ i = .int .i64 n ∧ kk = .int .i64 c ∧ 0 ≤ c ∧ Hid (c = k + (cnts ((l.map TBound.enc).take n) : Nat)) ∧ Below w.heap.size w wr) (fun i _ _ => l.length - (intOf i).toNat)
  case atStart => exact ⟨0, k, Nat.zero_le _, rfl, rfl, h0, Lib.hid (by simp only [List.take_zero, cnts]; omega), Below.refl _ _⟩
  case round =>
    obtain ⟨n, c, hn, rfl, rfl, hc0, Hc, hB⟩ := hrel
    by_cases hlt : n < l.length
    · obtain ⟨b, off, rfl, hKb, cs, hcs, hr⟩ := hE n hlt
      obtain ⟨hM, hN⟩ := held_cnt hlt Hc.out Hlim.out
      rw [← Hc.out] at hr
      have gr := Rep.ext hB hK hr
      have gcs := hcs.ext hB (hK b hKb)
      have hbl : b < wr.heap.size := Nat.lt_of_lt_of_le (hK b hKb) hB.size
      have hK' : ∀ b, K b → b < wr.heap.size := fun b h => Nat.lt_of_lt_of_le (hK b h) hB.size
      clear hE hcs hr Hc Hlim hKb
      generalize l[n] = x at *
      rw [TBound.cnt_flat] at hM hN
      obtain ⟨c3, rfl, o3⟩ := TBound.mrep_flat gr
      have HN := Lib.hid hN
      have g0 : ∀ w', Below wr.heap.size wr w' → w'.cell? ⟨b, off + n * 4, none⟩ = some (.string (mtext (c))) := fun w' q => by simpa using gcs.ext q hbl 0 _ rfl
      have g1 : ∀ w', Below wr.heap.size wr w' → w'.cell? ⟨b, off + n * 4 + 1, none⟩ = some (.int .i64 (c + 1)) := fun w' q => gcs.ext q hbl 1 _ rfl
      have g2 : ∀ w', Below wr.heap.size wr w' → w'.cell? ⟨b, off + n * 4 + 2, none⟩ = some (.string (mtext (c + 1 + 1))) := fun w' q => gcs.ext q hbl 2 _ rfl
      have g3 : ∀ w', Below wr.heap.size wr w' → w'.cell? ⟨b, off + n * 4 + 3, none⟩ = some (c3) := fun w' q => gcs.ext q hbl 3 _ rfl
      have hW : Below wr.heap.size wr wr := Below.refl _ _
      clear hN gr gcs hbl
      go_wp2_with fail
      have hd1 : Below wr.heap.size wr wr.drew := hW.drew
      refine rg 8 (Below wr.heap.size wr) (by kernel_rfl) rfl ?_
      refine rg_seg (fuel := 2) [0, 1, 2, 3, 4, 5] hd1 (by kernel_rfl) rfl ?_
      simp only [pick, List.getElem?_cons_zero, List.getElem?_cons_succ]
      iterate 6 (refine sg_fix _ rfl (fun w' hI => by go_simp; rfl) ?_; simp only [Act.put, List.setIfInBounds_toArray, List.set_cons_zero, List.set_cons_succ])
      refine sg_nil ?_
      refine rg_one (fuel := 1) 6 (by kernel_rfl) rfl (fun K1 hK1 => ?_)
      simp only [pick, List.getElem?_cons_zero, List.getElem?_cons_succ]
      refine rg_call rfl _ _ (by go_simp; exact ⟨rfl, rfl⟩) ?_
      refine (markText_c _ (by omega) _).mono ?_
      rintro e w1 ⟨rfl, hB1⟩
      have hW1 : Below wr.heap.size wr w1 := hd1.trans (hB1.mono hd1.size)
      refine ⟨_, rfl, hK1 _ _ hW1 ?_⟩
      simp only [Act.put, List.setIfInBounds_toArray, List.set_cons_zero, List.set_cons_succ]
      refine rg_seg (fuel := 0) [7] hW1 (by kernel_rfl) rfl ?_
      simp only [pick, List.getElem?_cons_zero, List.getElem?_cons_succ]
      refine sg_fix _ rfl (fun w' hI => by go_simp; rfl) ?_; simp only [Act.put, List.setIfInBounds_toArray, List.set_cons_zero, List.set_cons_succ]
      refine sg_nil (rg_end (by kernel_rfl) ?_)
      go_wp2_with fail
      have hd2 : Below wr.heap.size wr w1.drew := hW1.drew
      refine rg 9 (Below wr.heap.size wr) (by kernel_rfl) rfl ?_
      refine rg_seg (fuel := 2) [0, 1, 2, 3, 4, 5, 6] hd2 (by kernel_rfl) rfl ?_
      simp only [pick, List.getElem?_cons_zero, List.getElem?_cons_succ]
      iterate 7 (refine sg_fix _ rfl (fun w' hI => by go_simp; rfl) ?_; simp only [Act.put, List.setIfInBounds_toArray, List.set_cons_zero, List.set_cons_succ])
      refine sg_nil ?_
      refine rg_one (fuel := 1) 7 (by kernel_rfl) rfl (fun K1 hK1 => ?_)
      simp only [pick, List.getElem?_cons_zero, List.getElem?_cons_succ]
      refine rg_call rfl _ _ (by go_simp; exact ⟨rfl, rfl⟩) ?_
      refine (markText_c _ (by omega) _).mono ?_
      rintro e w2 ⟨rfl, hB2⟩
      have hW2 : Below wr.heap.size wr w2 := hd2.trans (hB2.mono hd2.size)
      refine ⟨_, rfl, hK1 _ _ hW2 ?_⟩
      simp only [Act.put, List.setIfInBounds_toArray, List.set_cons_zero, List.set_cons_succ]
      refine rg_seg (fuel := 0) [8] hW2 (by kernel_rfl) rfl ?_
      simp only [pick, List.getElem?_cons_zero, List.getElem?_cons_succ]
      refine sg_fix _ rfl (fun w' hI => by go_simp; rfl) ?_; simp only [Act.put, List.setIfInBounds_toArray, List.set_cons_zero, List.set_cons_succ]
      refine sg_nil (rg_end (by kernel_rfl) ?_)
      go_wp2_with fail
      refine (heldTypeS_c x.fType.fArgs w2 K (fun b hb => Nat.lt_of_lt_of_le (hK' b hb) hW2.size) _ _ (Rep.ext hW2 hK' o3) (by omega) (by omega)).mono ?_
      rintro e w3 ⟨rfl, hB3⟩
      have hW3 : Below wr.heap.size wr w3 := hW2.trans (hB3.mono hW2.size)
      have HF := Lib.hid (hB.trans (hW3.mono hB.size))
      go_wp2
      go_roundw
      case rel => exact ⟨n + 1, _, hlt, by go_num, rfl, by omega, Lib.hid (by have := HN.out; omega), HF.out⟩
      case measure => simp [intOf]; omega
    · obtain rfl : n = l.length := by omega
      have HE := Lib.hid Hc.out
      rw [List.take_of_length_le (by simp)] at HE
      go_wp2
      go_ret
      exact ⟨ret_int HE.out, hB⟩
def HeldCoreArmS (N : Nat) : Prop := ∀ (l : List TCoreArm), SizeOf.sizeOf l < N → ∀ (w : World) (K : Nat → Prop) (_ : ∀ b, K b → b < w.heap.size) (k : Int) (v : Value) (_ : Rep w K (.sl (mks k (l.map TCoreArm.enc))) [v]) (_ : 0 ≤ k) (_ : k + (cnts (l.map TCoreArm.enc) : Nat) ≤ 4611686018427387904),
    Calls Tryz.prog 87 #[v, .int .i64 k] w fun e w' => e = .returned (.int .i64 (k + (cnts (l.map TCoreArm.enc) : Nat))) ∧ Below w.heap.size w w'
def HeldCoreS (N : Nat) : Prop := ∀ (l : List TCore), SizeOf.sizeOf l < N → ∀ (w : World) (K : Nat → Prop) (_ : ∀ b, K b → b < w.heap.size) (k : Int) (v : Value) (_ : Rep w K (.sl (mks k (l.map TCore.enc))) [v]) (_ : 0 ≤ k) (_ : k + (cnts (l.map TCore.enc) : Nat) ≤ 4611686018427387904),
    Calls Tryz.prog 86 #[v, .int .i64 k] w fun e w' => e = .returned (.int .i64 (k + (cnts (l.map TCore.enc) : Nat))) ∧ Below w.heap.size w w'
set_option maxRecDepth 100000 in
set_option maxHeartbeats 1000000 in
theorem stepHeldCoreArmS (N : Nat) (iHeldCoreArmS : HeldCoreArmS N) (iHeldCoreS : HeldCoreS N) : HeldCoreArmS (N + 1) := by
  intro l hN w K hK k v h h0 hlim
  obtain ⟨a, cap, rfl, hcp, hm, hE⟩ := held_open TCoreArm.width h
  unfold maxLen at hm
  have Hlim := Lib.hid hlim
  clear h hlim
  go_enter Tryz.func87, Tryz.ntmps87
  go_wp2
  go_loopw [5, 1] (fun i kk wr => ∃ (n : Nat) (c : Int), n ≤ l.length ∧ i = .int .i64 n ∧ kk = .int .i64 c ∧ 0 ≤ c ∧ Hid (c = k + (cnts ((l.map TCoreArm.enc).take n) : Nat)) ∧ Below w.heap.size w wr) (fun i _ _ => l.length - (intOf i).toNat)
  case atStart => exact ⟨0, k, Nat.zero_le _, rfl, rfl, h0, Lib.hid (by simp only [List.take_zero, cnts]; omega), Below.refl _ _⟩
  case round =>
    obtain ⟨n, c, hn, rfl, rfl, hc0, Hc, hB⟩ := hrel
    by_cases hlt : n < l.length
    · obtain ⟨b, off, rfl, hKb, cs, hcs, hr⟩ := hE n hlt
      obtain ⟨hM, hN⟩ := held_cnt hlt Hc.out Hlim.out
      rw [← Hc.out] at hr
      have gr := Rep.ext hB hK hr
      have gcs := hcs.ext hB (hK b hKb)
      have hbl : b < wr.heap.size := Nat.lt_of_lt_of_le (hK b hKb) hB.size
      have hK' : ∀ b, K b → b < wr.heap.size := fun b h => Nat.lt_of_lt_of_le (hK b h) hB.size
      have hz : SizeOf.sizeOf l[n] < SizeOf.sizeOf l := List.sizeOf_lt_of_mem (List.getElem_mem hlt)
      clear hE hcs hr Hc Hlim hKb
      generalize l[n] = x at *
      rw [TCoreArm.cnt_flat] at hM hN
      obtain ⟨c1, c8, c9, c10, c11, c12, rfl, o1, o8, o9, o10, o11, o12⟩ := TCoreArm.mrep_flat gr
      have HN := Lib.hid hN
      have g0 : ∀ w', Below wr.heap.size wr w' → w'.cell? ⟨b, off + n * 13, none⟩ = some (.string (mtext (c))) := fun w' q => by simpa using gcs.ext q hbl 0 _ rfl
      have g1 : ∀ w', Below wr.heap.size wr w' → w'.cell? ⟨b, off + n * 13 + 1, none⟩ = some (c1) := fun w' q => gcs.ext q hbl 1 _ rfl
      have g2 : ∀ w', Below wr.heap.size wr w' → w'.cell? ⟨b, off + n * 13 + 2, none⟩ = some (.int .i64 (c + 1 + (cnts (x.fVars.map encS) : Nat))) := fun w' q => gcs.ext q hbl 2 _ rfl
      have g3 : ∀ w', Below wr.heap.size wr w' → w'.cell? ⟨b, off + n * 13 + 3, none⟩ = some (.string (mtext (c + 1 + (cnts (x.fVars.map encS) : Nat) + 1))) := fun w' q => gcs.ext q hbl 3 _ rfl
      have g4 : ∀ w', Below wr.heap.size wr w' → w'.cell? ⟨b, off + n * 13 + 4, none⟩ = some (.string (mtext (c + 1 + (cnts (x.fVars.map encS) : Nat) + 1 + 1))) := fun w' q => gcs.ext q hbl 4 _ rfl
      have g5 : ∀ w', Below wr.heap.size wr w' → w'.cell? ⟨b, off + n * 13 + 5, none⟩ = some (.int .i64 (c + 1 + (cnts (x.fVars.map encS) : Nat) + 1 + 1 + 1)) := fun w' q => gcs.ext q hbl 5 _ rfl
      have g6 : ∀ w', Below wr.heap.size wr w' → w'.cell? ⟨b, off + n * 13 + 6, none⟩ = some (.int .i64 (c + 1 + (cnts (x.fVars.map encS) : Nat) + 1 + 1 + 1 + 1)) := fun w' q => gcs.ext q hbl 6 _ rfl
      have g7 : ∀ w', Below wr.heap.size wr w' → w'.cell? ⟨b, off + n * 13 + 7, none⟩ = some (.string (mtext (c + 1 + (cnts (x.fVars.map encS) : Nat) + 1 + 1 + 1 + 1 + 1))) := fun w' q => gcs.ext q hbl 7 _ rfl
      have g8 : ∀ w', Below wr.heap.size wr w' → w'.cell? ⟨b, off + n * 13 + 8, none⟩ = some (c8) := fun w' q => gcs.ext q hbl 8 _ rfl
      have g9 : ∀ w', Below wr.heap.size wr w' → w'.cell? ⟨b, off + n * 13 + 9, none⟩ = some (c9) := fun w' q => gcs.ext q hbl 9 _ rfl
      have g10 : ∀ w', Below wr.heap.size wr w' → w'.cell? ⟨b, off + n * 13 + 10, none⟩ = some (c10) := fun w' q => gcs.ext q hbl 10 _ rfl
      have g11 : ∀ w', Below wr.heap.size wr w' → w'.cell? ⟨b, off + n * 13 + 11, none⟩ = some (c11) := fun w' q => gcs.ext q hbl 11 _ rfl
      have g12 : ∀ w', Below wr.heap.size wr w' → w'.cell? ⟨b, off + n * 13 + 12, none⟩ = some (c12) := fun w' q => gcs.ext q hbl 12 _ rfl
      have hW : Below wr.heap.size wr wr := Below.refl _ _
      clear hN gr gcs hbl
      go_wp2_with fail
      have hd1 : Below wr.heap.size wr wr.drew := hW.drew
      refine rg 8 (Below wr.heap.size wr) (by kernel_rfl) rfl ?_
      refine rg_seg (fuel := 2) [0, 1, 2, 3, 4, 5] hd1 (by kernel_rfl) rfl ?_
      simp only [pick, List.getElem?_cons_zero, List.getElem?_cons_succ]
      iterate 6 (refine sg_fix _ rfl (fun w' hI => by go_simp; rfl) ?_; simp only [Act.put, List.setIfInBounds_toArray, List.set_cons_zero, List.set_cons_succ])
      refine sg_nil ?_
      refine rg_one (fuel := 1) 6 (by kernel_rfl) rfl (fun K1 hK1 => ?_)
      simp only [pick, List.getElem?_cons_zero, List.getElem?_cons_succ]
      refine rg_call rfl _ _ (by go_simp; exact ⟨rfl, rfl⟩) ?_
      refine (markText_c _ (by omega) _).mono ?_
      rintro e w1 ⟨rfl, hB1⟩
      have hW1 : Below wr.heap.size wr w1 := hd1.trans (hB1.mono hd1.size)
      refine ⟨_, rfl, hK1 _ _ hW1 ?_⟩
      simp only [Act.put, List.setIfInBounds_toArray, List.set_cons_zero, List.set_cons_succ]
      refine rg_seg (fuel := 0) [7] hW1 (by kernel_rfl) rfl ?_
      simp only [pick, List.getElem?_cons_zero, List.getElem?_cons_succ]
      refine sg_fix _ rfl (fun w' hI => by go_simp; rfl) ?_; simp only [Act.put, List.setIfInBounds_toArray, List.set_cons_zero, List.set_cons_succ]
      refine sg_nil (rg_end (by kernel_rfl) ?_)
      go_wp2_with fail
      refine (heldStringS_c x.fVars w1 K (fun b hb => Nat.lt_of_lt_of_le (hK' b hb) hW1.size) _ _ (Rep.ext hW1 hK' o1) (by omega) (by omega)).mono ?_
      rintro e w2 ⟨rfl, hB2⟩
      have hW2 : Below wr.heap.size wr w2 := hW1.trans (hB2.mono hW1.size)
      go_wp2_with fail
      have hd3 : Below wr.heap.size wr w2.drew := hW2.drew
      refine rg 9 (Below wr.heap.size wr) (by kernel_rfl) rfl ?_
      refine rg_seg (fuel := 2) [0, 1, 2, 3, 4, 5, 6] hd3 (by kernel_rfl) rfl ?_
      simp only [pick, List.getElem?_cons_zero, List.getElem?_cons_succ]
      iterate 7 (refine sg_fix _ rfl (fun w' hI => by go_simp; rfl) ?_; simp only [Act.put, List.setIfInBounds_toArray, List.set_cons_zero, List.set_cons_succ])
      refine sg_nil ?_
      refine rg_one (fuel := 1) 7 (by kernel_rfl) rfl (fun K1 hK1 => ?_)
      simp only [pick, List.getElem?_cons_zero, List.getElem?_cons_succ]
      refine rg_call rfl _ _ (by go_simp; exact ⟨rfl, rfl⟩) ?_
      refine (markText_c _ (by omega) _).mono ?_
      rintro e w3 ⟨rfl, hB3⟩
      have hW3 : Below wr.heap.size wr w3 := hd3.trans (hB3.mono hd3.size)
      refine ⟨_, rfl, hK1 _ _ hW3 ?_⟩
      simp only [Act.put, List.setIfInBounds_toArray, List.set_cons_zero, List.set_cons_succ]
      refine rg_seg (fuel := 0) [8] hW3 (by kernel_rfl) rfl ?_
      simp only [pick, List.getElem?_cons_zero, List.getElem?_cons_succ]
      refine sg_fix _ rfl (fun w' hI => by go_simp; rfl) ?_; simp only [Act.put, List.setIfInBounds_toArray, List.set_cons_zero, List.set_cons_succ]
      refine sg_nil (rg_end (by kernel_rfl) ?_)
      go_wp2_with fail
      have hd4 : Below wr.heap.size wr w3.drew := hW3.drew
      refine rg 9 (Below wr.heap.size wr) (by kernel_rfl) rfl ?_
      refine rg_seg (fuel := 2) [0, 1, 2, 3, 4, 5, 6] hd4 (by kernel_rfl) rfl ?_
      simp only [pick, List.getElem?_cons_zero, List.getElem?_cons_succ]
      iterate 7 (refine sg_fix _ rfl (fun w' hI => by go_simp; rfl) ?_; simp only [Act.put, List.setIfInBounds_toArray, List.set_cons_zero, List.set_cons_succ])
      refine sg_nil ?_
      refine rg_one (fuel := 1) 7 (by kernel_rfl) rfl (fun K1 hK1 => ?_)
      simp only [pick, List.getElem?_cons_zero, List.getElem?_cons_succ]
      refine rg_call rfl _ _ (by go_simp; exact ⟨rfl, rfl⟩) ?_
      refine (markText_c _ (by omega) _).mono ?_
      rintro e w4 ⟨rfl, hB4⟩
      have hW4 : Below wr.heap.size wr w4 := hd4.trans (hB4.mono hd4.size)
      refine ⟨_, rfl, hK1 _ _ hW4 ?_⟩
      simp only [Act.put, List.setIfInBounds_toArray, List.set_cons_zero, List.set_cons_succ]
      refine rg_seg (fuel := 0) [8] hW4 (by kernel_rfl) rfl ?_
      simp only [pick, List.getElem?_cons_zero, List.getElem?_cons_succ]
      refine sg_fix _ rfl (fun w' hI => by go_simp; rfl) ?_; simp only [Act.put, List.setIfInBounds_toArray, List.set_cons_zero, List.set_cons_succ]
      refine sg_nil (rg_end (by kernel_rfl) ?_)
      go_wp2_with fail
      have hd5 : Below wr.heap.size wr w4.drew := hW4.drew
      refine rg 10 (Below wr.heap.size wr) (by kernel_rfl) rfl ?_
      refine rg_seg (fuel := 2) [0, 1, 2, 3, 4, 5, 6, 7] hd5 (by kernel_rfl) rfl ?_
      simp only [pick, List.getElem?_cons_zero, List.getElem?_cons_succ]
      iterate 8 (refine sg_fix _ rfl (fun w' hI => by go_simp; rfl) ?_; simp only [Act.put, List.setIfInBounds_toArray, List.set_cons_zero, List.set_cons_succ])
      refine sg_nil ?_
      refine rg_one (fuel := 1) 8 (by kernel_rfl) rfl (fun K1 hK1 => ?_)
      simp only [pick, List.getElem?_cons_zero, List.getElem?_cons_succ]
      refine rg_call rfl _ _ (by go_simp; exact ⟨rfl, rfl⟩) ?_
      refine (markText_c _ (by omega) _).mono ?_
      rintro e w5 ⟨rfl, hB5⟩
      have hW5 : Below wr.heap.size wr w5 := hd5.trans (hB5.mono hd5.size)
      refine ⟨_, rfl, hK1 _ _ hW5 ?_⟩
      simp only [Act.put, List.setIfInBounds_toArray, List.set_cons_zero, List.set_cons_succ]
      refine rg_seg (fuel := 0) [9] hW5 (by kernel_rfl) rfl ?_
      simp only [pick, List.getElem?_cons_zero, List.getElem?_cons_succ]
      refine sg_fix _ rfl (fun w' hI => by go_simp; rfl) ?_; simp only [Act.put, List.setIfInBounds_toArray, List.set_cons_zero, List.set_cons_succ]
      refine sg_nil (rg_end (by kernel_rfl) ?_)
      go_wp2_with fail
      refine (heldTypeS_c x.fBody.fType.fArgs w5 K (fun b hb => Nat.lt_of_lt_of_le (hK' b hb) hW5.size) _ _ (Rep.ext hW5 hK' o8) (by omega) (by omega)).mono ?_
      rintro e w6 ⟨rfl, hB6⟩
      have hW6 : Below wr.heap.size wr w6 := hW5.trans (hB6.mono hW5.size)
      go_wp2_with fail
      refine (heldTypeS_c x.fBody.fTypeArgs w6 K (fun b hb => Nat.lt_of_lt_of_le (hK' b hb) hW6.size) _ _ (Rep.ext hW6 hK' o9) (by omega) (by omega)).mono ?_
      rintro e w7 ⟨rfl, hB7⟩
      have hW7 : Below wr.heap.size wr w7 := hW6.trans (hB7.mono hW6.size)
      go_wp2_with fail
      refine (heldEvidenceS_c x.fBody.fEvidence w7 K (fun b hb => Nat.lt_of_lt_of_le (hK' b hb) hW7.size) _ _ (Rep.ext hW7 hK' o10) (by omega) (by omega)).mono ?_
      rintro e w8 ⟨rfl, hB8⟩
      have hW8 : Below wr.heap.size wr w8 := hW7.trans (hB8.mono hW7.size)
      go_wp2_with fail
      refine (iHeldCoreS x.fBody.fArgs (by have := TCoreArm.lt_fBody x; have := TCore.lt_fArgs x.fBody; omega) w8 K (fun b hb => Nat.lt_of_lt_of_le (hK' b hb) hW8.size) _ _ (Rep.ext hW8 hK' o11) (by omega) (by omega)).mono ?_
      rintro e w9 ⟨rfl, hB9⟩
      have hW9 : Below wr.heap.size wr w9 := hW8.trans (hB9.mono hW8.size)
      go_wp2_with fail
      refine (iHeldCoreArmS x.fBody.fArms (by have := TCoreArm.lt_fBody x; have := TCore.lt_fArms x.fBody; omega) w9 K (fun b hb => Nat.lt_of_lt_of_le (hK' b hb) hW9.size) _ _ (Rep.ext hW9 hK' o12) (by omega) (by omega)).mono ?_
      rintro e w10 ⟨rfl, hB10⟩
      have hW10 : Below wr.heap.size wr w10 := hW9.trans (hB10.mono hW9.size)
      have HF := Lib.hid (hB.trans (hW10.mono hB.size))
      go_wp2
      go_roundw
      case rel => exact ⟨n + 1, _, hlt, by go_num, rfl, by omega, Lib.hid (by have := HN.out; omega), HF.out⟩
      case measure => simp [intOf]; omega
    · obtain rfl : n = l.length := by omega
      have HE := Lib.hid Hc.out
      rw [List.take_of_length_le (by simp)] at HE
      go_wp2
      go_ret
      exact ⟨ret_int HE.out, hB⟩
set_option maxRecDepth 100000 in
set_option maxHeartbeats 1000000 in
theorem stepHeldCoreS (N : Nat) (iHeldCoreArmS : HeldCoreArmS N) (iHeldCoreS : HeldCoreS N) : HeldCoreS (N + 1) := by
  intro l hN w K hK k v h h0 hlim
  obtain ⟨a, cap, rfl, hcp, hm, hE⟩ := held_open TCore.width h
  unfold maxLen at hm
  have Hlim := Lib.hid hlim
  clear h hlim
  go_enter Tryz.func86, Tryz.ntmps86
  go_wp2
  go_loopw [5, 1] (fun i kk wr => ∃ (n : Nat) (c : Int), n ≤ l.length ∧ i = .int .i64 n ∧ kk = .int .i64 c ∧ 0 ≤ c ∧ Hid (c = k + (cnts ((l.map TCore.enc).take n) : Nat)) ∧ Below w.heap.size w wr) (fun i _ _ => l.length - (intOf i).toNat)
  case atStart => exact ⟨0, k, Nat.zero_le _, rfl, rfl, h0, Lib.hid (by simp only [List.take_zero, cnts]; omega), Below.refl _ _⟩
  case round =>
    obtain ⟨n, c, hn, rfl, rfl, hc0, Hc, hB⟩ := hrel
    by_cases hlt : n < l.length
    · obtain ⟨b, off, rfl, hKb, cs, hcs, hr⟩ := hE n hlt
      obtain ⟨hM, hN⟩ := held_cnt hlt Hc.out Hlim.out
      rw [← Hc.out] at hr
      have gr := Rep.ext hB hK hr
      have gcs := hcs.ext hB (hK b hKb)
      have hbl : b < wr.heap.size := Nat.lt_of_lt_of_le (hK b hKb) hB.size
      have hK' : ∀ b, K b → b < wr.heap.size := fun b h => Nat.lt_of_lt_of_le (hK b h) hB.size
      have hz : SizeOf.sizeOf l[n] < SizeOf.sizeOf l := List.sizeOf_lt_of_mem (List.getElem_mem hlt)
      clear hE hcs hr Hc Hlim hKb
      generalize l[n] = x at *
      rw [TCore.cnt_flat] at hM hN
      obtain ⟨c6, c7, c8, c9, c10, rfl, o6, o7, o8, o9, o10⟩ := TCore.mrep_flat gr
      have HN := Lib.hid hN
      have g0 : ∀ w', Below wr.heap.size wr w' → w'.cell? ⟨b, off + n * 11, none⟩ = some (.int .i64 (c)) := fun w' q => by simpa using gcs.ext q hbl 0 _ rfl
      have g1 : ∀ w', Below wr.heap.size wr w' → w'.cell? ⟨b, off + n * 11 + 1, none⟩ = some (.string (mtext (c + 1))) := fun w' q => gcs.ext q hbl 1 _ rfl
      have g2 : ∀ w', Below wr.heap.size wr w' → w'.cell? ⟨b, off + n * 11 + 2, none⟩ = some (.string (mtext (c + 1 + 1))) := fun w' q => gcs.ext q hbl 2 _ rfl
      have g3 : ∀ w', Below wr.heap.size wr w' → w'.cell? ⟨b, off + n * 11 + 3, none⟩ = some (.int .i64 (c + 1 + 1 + 1)) := fun w' q => gcs.ext q hbl 3 _ rfl
      have g4 : ∀ w', Below wr.heap.size wr w' → w'.cell? ⟨b, off + n * 11 + 4, none⟩ = some (.int .i64 (c + 1 + 1 + 1 + 1)) := fun w' q => gcs.ext q hbl 4 _ rfl
      have g5 : ∀ w', Below wr.heap.size wr w' → w'.cell? ⟨b, off + n * 11 + 5, none⟩ = some (.string (mtext (c + 1 + 1 + 1 + 1 + 1))) := fun w' q => gcs.ext q hbl 5 _ rfl
      have g6 : ∀ w', Below wr.heap.size wr w' → w'.cell? ⟨b, off + n * 11 + 6, none⟩ = some (c6) := fun w' q => gcs.ext q hbl 6 _ rfl
      have g7 : ∀ w', Below wr.heap.size wr w' → w'.cell? ⟨b, off + n * 11 + 7, none⟩ = some (c7) := fun w' q => gcs.ext q hbl 7 _ rfl
      have g8 : ∀ w', Below wr.heap.size wr w' → w'.cell? ⟨b, off + n * 11 + 8, none⟩ = some (c8) := fun w' q => gcs.ext q hbl 8 _ rfl
      have g9 : ∀ w', Below wr.heap.size wr w' → w'.cell? ⟨b, off + n * 11 + 9, none⟩ = some (c9) := fun w' q => gcs.ext q hbl 9 _ rfl
      have g10 : ∀ w', Below wr.heap.size wr w' → w'.cell? ⟨b, off + n * 11 + 10, none⟩ = some (c10) := fun w' q => gcs.ext q hbl 10 _ rfl
      have hW : Below wr.heap.size wr wr := Below.refl _ _
      clear hN gr gcs hbl
      go_wp2_with fail
      have hd1 : Below wr.heap.size wr wr.drew := hW.drew
      refine rg 8 (Below wr.heap.size wr) (by kernel_rfl) rfl ?_
      refine rg_seg (fuel := 2) [0, 1, 2, 3, 4, 5] hd1 (by kernel_rfl) rfl ?_
      simp only [pick, List.getElem?_cons_zero, List.getElem?_cons_succ]
      iterate 6 (refine sg_fix _ rfl (fun w' hI => by go_simp; rfl) ?_; simp only [Act.put, List.setIfInBounds_toArray, List.set_cons_zero, List.set_cons_succ])
      refine sg_nil ?_
      refine rg_one (fuel := 1) 6 (by kernel_rfl) rfl (fun K1 hK1 => ?_)
      simp only [pick, List.getElem?_cons_zero, List.getElem?_cons_succ]
      refine rg_call rfl _ _ (by go_simp; exact ⟨rfl, rfl⟩) ?_
      refine (markText_c _ (by omega) _).mono ?_
      rintro e w1 ⟨rfl, hB1⟩
      have hW1 : Below wr.heap.size wr w1 := hd1.trans (hB1.mono hd1.size)
      refine ⟨_, rfl, hK1 _ _ hW1 ?_⟩
      simp only [Act.put, List.setIfInBounds_toArray, List.set_cons_zero, List.set_cons_succ]
      refine rg_seg (fuel := 0) [7] hW1 (by kernel_rfl) rfl ?_
      simp only [pick, List.getElem?_cons_zero, List.getElem?_cons_succ]
      refine sg_fix _ rfl (fun w' hI => by go_simp; rfl) ?_; simp only [Act.put, List.setIfInBounds_toArray, List.set_cons_zero, List.set_cons_succ]
      refine sg_nil (rg_end (by kernel_rfl) ?_)
      go_wp2_with fail
      have hd2 : Below wr.heap.size wr w1.drew := hW1.drew
      refine rg 8 (Below wr.heap.size wr) (by kernel_rfl) rfl ?_
      refine rg_seg (fuel := 2) [0, 1, 2, 3, 4, 5] hd2 (by kernel_rfl) rfl ?_
      simp only [pick, List.getElem?_cons_zero, List.getElem?_cons_succ]
      iterate 6 (refine sg_fix _ rfl (fun w' hI => by go_simp; rfl) ?_; simp only [Act.put, List.setIfInBounds_toArray, List.set_cons_zero, List.set_cons_succ])
      refine sg_nil ?_
      refine rg_one (fuel := 1) 6 (by kernel_rfl) rfl (fun K1 hK1 => ?_)
      simp only [pick, List.getElem?_cons_zero, List.getElem?_cons_succ]
      refine rg_call rfl _ _ (by go_simp; exact ⟨rfl, rfl⟩) ?_
      refine (markText_c _ (by omega) _).mono ?_
      rintro e w2 ⟨rfl, hB2⟩
      have hW2 : Below wr.heap.size wr w2 := hd2.trans (hB2.mono hd2.size)
      refine ⟨_, rfl, hK1 _ _ hW2 ?_⟩
      simp only [Act.put, List.setIfInBounds_toArray, List.set_cons_zero, List.set_cons_succ]
      refine rg_seg (fuel := 0) [7] hW2 (by kernel_rfl) rfl ?_
      simp only [pick, List.getElem?_cons_zero, List.getElem?_cons_succ]
      refine sg_fix _ rfl (fun w' hI => by go_simp; rfl) ?_; simp only [Act.put, List.setIfInBounds_toArray, List.set_cons_zero, List.set_cons_succ]
      refine sg_nil (rg_end (by kernel_rfl) ?_)
      go_wp2_with fail
      have hd3 : Below wr.heap.size wr w2.drew := hW2.drew
      refine rg 9 (Below wr.heap.size wr) (by kernel_rfl) rfl ?_
      refine rg_seg (fuel := 2) [0, 1, 2, 3, 4, 5, 6] hd3 (by kernel_rfl) rfl ?_
      simp only [pick, List.getElem?_cons_zero, List.getElem?_cons_succ]
      iterate 7 (refine sg_fix _ rfl (fun w' hI => by go_simp; rfl) ?_; simp only [Act.put, List.setIfInBounds_toArray, List.set_cons_zero, List.set_cons_succ])
      refine sg_nil ?_
      refine rg_one (fuel := 1) 7 (by kernel_rfl) rfl (fun K1 hK1 => ?_)
      simp only [pick, List.getElem?_cons_zero, List.getElem?_cons_succ]
      refine rg_call rfl _ _ (by go_simp; exact ⟨rfl, rfl⟩) ?_
      refine (markText_c _ (by omega) _).mono ?_
      rintro e w3 ⟨rfl, hB3⟩
      have hW3 : Below wr.heap.size wr w3 := hd3.trans (hB3.mono hd3.size)
      refine ⟨_, rfl, hK1 _ _ hW3 ?_⟩
      simp only [Act.put, List.setIfInBounds_toArray, List.set_cons_zero, List.set_cons_succ]
      refine rg_seg (fuel := 0) [8] hW3 (by kernel_rfl) rfl ?_
      simp only [pick, List.getElem?_cons_zero, List.getElem?_cons_succ]
      refine sg_fix _ rfl (fun w' hI => by go_simp; rfl) ?_; simp only [Act.put, List.setIfInBounds_toArray, List.set_cons_zero, List.set_cons_succ]
      refine sg_nil (rg_end (by kernel_rfl) ?_)
      go_wp2_with fail
      refine (heldTypeS_c x.fType.fArgs w3 K (fun b hb => Nat.lt_of_lt_of_le (hK' b hb) hW3.size) _ _ (Rep.ext hW3 hK' o6) (by omega) (by omega)).mono ?_
      rintro e w4 ⟨rfl, hB4⟩
      have hW4 : Below wr.heap.size wr w4 := hW3.trans (hB4.mono hW3.size)
      go_wp2_with fail
      refine (heldTypeS_c x.fTypeArgs w4 K (fun b hb => Nat.lt_of_lt_of_le (hK' b hb) hW4.size) _ _ (Rep.ext hW4 hK' o7) (by omega) (by omega)).mono ?_
      rintro e w5 ⟨rfl, hB5⟩
      have hW5 : Below wr.heap.size wr w5 := hW4.trans (hB5.mono hW4.size)
      go_wp2_with fail
      refine (heldEvidenceS_c x.fEvidence w5 K (fun b hb => Nat.lt_of_lt_of_le (hK' b hb) hW5.size) _ _ (Rep.ext hW5 hK' o8) (by omega) (by omega)).mono ?_
      rintro e w6 ⟨rfl, hB6⟩
      have hW6 : Below wr.heap.size wr w6 := hW5.trans (hB6.mono hW5.size)
      go_wp2_with fail
      refine (iHeldCoreS x.fArgs (by have := TCore.lt_fArgs x; omega) w6 K (fun b hb => Nat.lt_of_lt_of_le (hK' b hb) hW6.size) _ _ (Rep.ext hW6 hK' o9) (by omega) (by omega)).mono ?_
      rintro e w7 ⟨rfl, hB7⟩
      have hW7 : Below wr.heap.size wr w7 := hW6.trans (hB7.mono hW6.size)
      go_wp2_with fail
      refine (iHeldCoreArmS x.fArms (by have := TCore.lt_fArms x; omega) w7 K (fun b hb => Nat.lt_of_lt_of_le (hK' b hb) hW7.size) _ _ (Rep.ext hW7 hK' o10) (by omega) (by omega)).mono ?_
      rintro e w8 ⟨rfl, hB8⟩
      have hW8 : Below wr.heap.size wr w8 := hW7.trans (hB8.mono hW7.size)
      have HF := Lib.hid (hB.trans (hW8.mono hB.size))
      go_wp2
      go_roundw
      case rel => exact ⟨n + 1, _, hlt, by go_num, rfl, by omega, Lib.hid (by have := HN.out; omega), HF.out⟩
      case measure => simp [intOf]; omega
    · obtain rfl : n = l.length := by omega
      have HE := Lib.hid Hc.out
      rw [List.take_of_length_le (by simp)] at HE
      go_wp2
      go_ret
      exact ⟨ret_int HE.out, hB⟩
theorem HeldCoreArmS_all : ∀ N : Nat, HeldCoreArmS N ∧ HeldCoreS N
  | 0 => ⟨fun _ h => absurd h (Nat.not_lt_zero _), fun _ h => absurd h (Nat.not_lt_zero _)⟩
  | N + 1 => by
    obtain ⟨i0, i1⟩ := HeldCoreArmS_all N
    exact ⟨stepHeldCoreArmS N i0 i1, stepHeldCoreS N i0 i1⟩
theorem heldCoreArmS_c (l : List TCoreArm) : ∀ (w : World) (K : Nat → Prop) (_ : ∀ b, K b → b < w.heap.size) (k : Int) (v : Value) (_ : Rep w K (.sl (mks k (l.map TCoreArm.enc))) [v]) (_ : 0 ≤ k) (_ : k + (cnts (l.map TCoreArm.enc) : Nat) ≤ 4611686018427387904),
    Calls Tryz.prog 87 #[v, .int .i64 k] w fun e w' => e = .returned (.int .i64 (k + (cnts (l.map TCoreArm.enc) : Nat))) ∧ Below w.heap.size w w' := (HeldCoreArmS_all (SizeOf.sizeOf l + 1)).1 l (Nat.lt_succ_self _)
theorem heldCoreS_c (l : List TCore) : ∀ (w : World) (K : Nat → Prop) (_ : ∀ b, K b → b < w.heap.size) (k : Int) (v : Value) (_ : Rep w K (.sl (mks k (l.map TCore.enc))) [v]) (_ : 0 ≤ k) (_ : k + (cnts (l.map TCore.enc) : Nat) ≤ 4611686018427387904),
    Calls Tryz.prog 86 #[v, .int .i64 k] w fun e w' => e = .returned (.int .i64 (k + (cnts (l.map TCore.enc) : Nat))) ∧ Below w.heap.size w w' := (HeldCoreArmS_all (SizeOf.sizeOf l + 1)).2 l (Nat.lt_succ_self _)
set_option maxRecDepth 100000 in
set_option maxHeartbeats 1000000 in
theorem heldParamS_c (l : List TParam) : ∀ (w : World) (K : Nat → Prop) (_ : ∀ b, K b → b < w.heap.size) (k : Int) (v : Value) (_ : Rep w K (.sl (mks k (l.map TParam.enc))) [v]) (_ : 0 ≤ k) (_ : k + (cnts (l.map TParam.enc) : Nat) ≤ 4611686018427387904),
    Calls Tryz.prog 83 #[v, .int .i64 k] w fun e w' => e = .returned (.int .i64 (k + (cnts (l.map TParam.enc) : Nat))) ∧ Below w.heap.size w w' := by
  intro w K hK k v h h0 hlim
  obtain ⟨a, cap, rfl, hcp, hm, hE⟩ := held_open TParam.width h
  unfold maxLen at hm
  have Hlim := Lib.hid hlim
  clear h hlim
  go_enter Tryz.func83, Tryz.ntmps83
  go_wp2
  go_loopw [5, 1] (fun i kk wr => ∃ (n : Nat) (c : Int), n ≤ l.length ∧ i = .int .i64 n ∧ kk = .int .i64 c ∧ 0 ≤ c ∧ Hid (c = k + (cnts ((l.map TParam.enc).take n) : Nat)) ∧ Below w.heap.size w wr) (fun i _ _ => l.length - (intOf i).toNat)
  case atStart => exact ⟨0, k, Nat.zero_le _, rfl, rfl, h0, Lib.hid (by simp only [List.take_zero, cnts]; omega), Below.refl _ _⟩
  case round =>
    obtain ⟨n, c, hn, rfl, rfl, hc0, Hc, hB⟩ := hrel
    by_cases hlt : n < l.length
    · obtain ⟨b, off, rfl, hKb, cs, hcs, hr⟩ := hE n hlt
      obtain ⟨hM, hN⟩ := held_cnt hlt Hc.out Hlim.out
      rw [← Hc.out] at hr
      have gr := Rep.ext hB hK hr
      have gcs := hcs.ext hB (hK b hKb)
      have hbl : b < wr.heap.size := Nat.lt_of_lt_of_le (hK b hKb) hB.size
      have hK' : ∀ b, K b → b < wr.heap.size := fun b h => Nat.lt_of_lt_of_le (hK b h) hB.size
      clear hE hcs hr Hc Hlim hKb
      generalize l[n] = x at *
      rw [TParam.cnt_flat] at hM hN
      obtain ⟨c3, rfl, o3⟩ := TParam.mrep_flat gr
      have HN := Lib.hid hN
      have g0 : ∀ w', Below wr.heap.size wr w' → w'.cell? ⟨b, off + n * 4, none⟩ = some (.string (mtext (c))) := fun w' q => by simpa using gcs.ext q hbl 0 _ rfl
      have g1 : ∀ w', Below wr.heap.size wr w' → w'.cell? ⟨b, off + n * 4 + 1, none⟩ = some (.int .i64 (c + 1)) := fun w' q => gcs.ext q hbl 1 _ rfl
      have g2 : ∀ w', Below wr.heap.size wr w' → w'.cell? ⟨b, off + n * 4 + 2, none⟩ = some (.string (mtext (c + 1 + 1))) := fun w' q => gcs.ext q hbl 2 _ rfl
      have g3 : ∀ w', Below wr.heap.size wr w' → w'.cell? ⟨b, off + n * 4 + 3, none⟩ = some (c3) := fun w' q => gcs.ext q hbl 3 _ rfl
      have hW : Below wr.heap.size wr wr := Below.refl _ _
      clear hN gr gcs hbl
      go_wp2_with fail
      have hd1 : Below wr.heap.size wr wr.drew := hW.drew
      refine rg 8 (Below wr.heap.size wr) (by kernel_rfl) rfl ?_
      refine rg_seg (fuel := 2) [0, 1, 2, 3, 4, 5] hd1 (by kernel_rfl) rfl ?_
      simp only [pick, List.getElem?_cons_zero, List.getElem?_cons_succ]
      iterate 6 (refine sg_fix _ rfl (fun w' hI => by go_simp; rfl) ?_; simp only [Act.put, List.setIfInBounds_toArray, List.set_cons_zero, List.set_cons_succ])
      refine sg_nil ?_
      refine rg_one (fuel := 1) 6 (by kernel_rfl) rfl (fun K1 hK1 => ?_)
      simp only [pick, List.getElem?_cons_zero, List.getElem?_cons_succ]
      refine rg_call rfl _ _ (by go_simp; exact ⟨rfl, rfl⟩) ?_
      refine (markText_c _ (by omega) _).mono ?_
      rintro e w1 ⟨rfl, hB1⟩
      have hW1 : Below wr.heap.size wr w1 := hd1.trans (hB1.mono hd1.size)
      refine ⟨_, rfl, hK1 _ _ hW1 ?_⟩
      simp only [Act.put, List.setIfInBounds_toArray, List.set_cons_zero, List.set_cons_succ]
      refine rg_seg (fuel := 0) [7] hW1 (by kernel_rfl) rfl ?_
      simp only [pick, List.getElem?_cons_zero, List.getElem?_cons_succ]
      refine sg_fix _ rfl (fun w' hI => by go_simp; rfl) ?_; simp only [Act.put, List.setIfInBounds_toArray, List.set_cons_zero, List.set_cons_succ]
      refine sg_nil (rg_end (by kernel_rfl) ?_)
      go_wp2_with fail
      have hd2 : Below wr.heap.size wr w1.drew := hW1.drew
      refine rg 9 (Below wr.heap.size wr) (by kernel_rfl) rfl ?_
      refine rg_seg (fuel := 2) [0, 1, 2, 3, 4, 5, 6] hd2 (by kernel_rfl) rfl ?_
      simp only [pick, List.getElem?_cons_zero, List.getElem?_cons_succ]
      iterate 7 (refine sg_fix _ rfl (fun w' hI => by go_simp; rfl) ?_; simp only [Act.put, List.setIfInBounds_toArray, List.set_cons_zero, List.set_cons_succ])
      refine sg_nil ?_
      refine rg_one (fuel := 1) 7 (by kernel_rfl) rfl (fun K1 hK1 => ?_)
      simp only [pick, List.getElem?_cons_zero, List.getElem?_cons_succ]
      refine rg_call rfl _ _ (by go_simp; exact ⟨rfl, rfl⟩) ?_
      refine (markText_c _ (by omega) _).mono ?_
      rintro e w2 ⟨rfl, hB2⟩
      have hW2 : Below wr.heap.size wr w2 := hd2.trans (hB2.mono hd2.size)
      refine ⟨_, rfl, hK1 _ _ hW2 ?_⟩
      simp only [Act.put, List.setIfInBounds_toArray, List.set_cons_zero, List.set_cons_succ]
      refine rg_seg (fuel := 0) [8] hW2 (by kernel_rfl) rfl ?_
      simp only [pick, List.getElem?_cons_zero, List.getElem?_cons_succ]
      refine sg_fix _ rfl (fun w' hI => by go_simp; rfl) ?_; simp only [Act.put, List.setIfInBounds_toArray, List.set_cons_zero, List.set_cons_succ]
      refine sg_nil (rg_end (by kernel_rfl) ?_)
      go_wp2_with fail
      refine (heldTypeS_c x.fType.fArgs w2 K (fun b hb => Nat.lt_of_lt_of_le (hK' b hb) hW2.size) _ _ (Rep.ext hW2 hK' o3) (by omega) (by omega)).mono ?_
      rintro e w3 ⟨rfl, hB3⟩
      have hW3 : Below wr.heap.size wr w3 := hW2.trans (hB3.mono hW2.size)
      have HF := Lib.hid (hB.trans (hW3.mono hB.size))
      go_wp2
      go_roundw
      case rel => exact ⟨n + 1, _, hlt, by go_num, rfl, by omega, Lib.hid (by have := HN.out; omega), HF.out⟩
      case measure => simp [intOf]; omega
    · obtain rfl : n = l.length := by omega
      have HE := Lib.hid Hc.out
      rw [List.take_of_length_le (by simp)] at HE
      go_wp2
      go_ret
      exact ⟨ret_int HE.out, hB⟩
set_option maxRecDepth 100000 in
set_option maxHeartbeats 1000000 in
theorem heldUnitS_c (l : List TUnit) : ∀ (w : World) (K : Nat → Prop) (_ : ∀ b, K b → b < w.heap.size) (k : Int) (v : Value) (_ : Rep w K (.sl (mks k (l.map TUnit.enc))) [v]) (_ : 0 ≤ k) (_ : k + (cnts (l.map TUnit.enc) : Nat) ≤ 4611686018427387904),
    Calls Tryz.prog 32 #[v, .int .i64 k] w fun e w' => e = .returned (.int .i64 (k + (cnts (l.map TUnit.enc) : Nat))) ∧ Below w.heap.size w w' := by
  intro w K hK k v h h0 hlim
  obtain ⟨a, cap, rfl, hcp, hm, hE⟩ := held_open TUnit.width h
  unfold maxLen at hm
  have Hlim := Lib.hid hlim
  clear h hlim
  go_enter Tryz.func32, Tryz.ntmps32
  go_wp2
  go_loopw [5, 1] (fun i kk wr => ∃ (n : Nat) (c : Int), n ≤ l.length ∧ i = .int .i64 n ∧ kk = .int .i64 c ∧ 0 ≤ c ∧ Hid (c = k + (cnts ((l.map TUnit.enc).take n) : Nat)) ∧ Below w.heap.size w wr) (fun i _ _ => l.length - (intOf i).toNat)
  case atStart => exact ⟨0, k, Nat.zero_le _, rfl, rfl, h0, Lib.hid (by simp only [List.take_zero, cnts]; omega), Below.refl _ _⟩
  case round =>
    obtain ⟨n, c, hn, rfl, rfl, hc0, Hc, hB⟩ := hrel
    by_cases hlt : n < l.length
    · obtain ⟨b, off, rfl, hKb, cs, hcs, hr⟩ := hE n hlt
      obtain ⟨hM, hN⟩ := held_cnt hlt Hc.out Hlim.out
      rw [← Hc.out] at hr
      have gr := Rep.ext hB hK hr
      have gcs := hcs.ext hB (hK b hKb)
      have hbl : b < wr.heap.size := Nat.lt_of_lt_of_le (hK b hKb) hB.size
      have hK' : ∀ b, K b → b < wr.heap.size := fun b h => Nat.lt_of_lt_of_le (hK b h) hB.size
      clear hE hcs hr Hc Hlim hKb
      generalize l[n] = x at *
      rw [TUnit.cnt_flat] at hM hN
      obtain ⟨c4, c5, c6, c9, c16, c17, c18, c19, c20, rfl, o4, o5, o6, o9, o16, o17, o18, o19, o20⟩ := TUnit.mrep_flat gr
      have HN := Lib.hid hN
      have g0 : ∀ w', Below wr.heap.size wr w' → w'.cell? ⟨b, off + n * 21, none⟩ = some (.int .i64 (c)) := fun w' q => by simpa using gcs.ext q hbl 0 _ rfl
      have g1 : ∀ w', Below wr.heap.size wr w' → w'.cell? ⟨b, off + n * 21 + 1, none⟩ = some (.int .i64 (c + 1)) := fun w' q => gcs.ext q hbl 1 _ rfl
      have g2 : ∀ w', Below wr.heap.size wr w' → w'.cell? ⟨b, off + n * 21 + 2, none⟩ = some (.int .i64 (c + 1 + 1)) := fun w' q => gcs.ext q hbl 2 _ rfl
      have g3 : ∀ w', Below wr.heap.size wr w' → w'.cell? ⟨b, off + n * 21 + 3, none⟩ = some (.int .i64 (c + 1 + 1 + 1)) := fun w' q => gcs.ext q hbl 3 _ rfl
      have g4 : ∀ w', Below wr.heap.size wr w' → w'.cell? ⟨b, off + n * 21 + 4, none⟩ = some (c4) := fun w' q => gcs.ext q hbl 4 _ rfl
      have g5 : ∀ w', Below wr.heap.size wr w' → w'.cell? ⟨b, off + n * 21 + 5, none⟩ = some (c5) := fun w' q => gcs.ext q hbl 5 _ rfl
      have g6 : ∀ w', Below wr.heap.size wr w' → w'.cell? ⟨b, off + n * 21 + 6, none⟩ = some (c6) := fun w' q => gcs.ext q hbl 6 _ rfl
      have g7 : ∀ w', Below wr.heap.size wr w' → w'.cell? ⟨b, off + n * 21 + 7, none⟩ = some (.int .i64 (c + 1 + 1 + 1 + 1 + (cnts (x.fVars.map encS) : Nat) + (cnts (x.fWhere.map TBound.enc) : Nat) + (cnts (x.fParams.map TParam.enc) : Nat))) := fun w' q => gcs.ext q hbl 7 _ rfl
      have g8 : ∀ w', Below wr.heap.size wr w' → w'.cell? ⟨b, off + n * 21 + 8, none⟩ = some (.string (mtext (c + 1 + 1 + 1 + 1 + (cnts (x.fVars.map encS) : Nat) + (cnts (x.fWhere.map TBound.enc) : Nat) + (cnts (x.fParams.map TParam.enc) : Nat) + 1))) := fun w' q => gcs.ext q hbl 8 _ rfl
      have g9 : ∀ w', Below wr.heap.size wr w' → w'.cell? ⟨b, off + n * 21 + 9, none⟩ = some (c9) := fun w' q => gcs.ext q hbl 9 _ rfl
      have g10 : ∀ w', Below wr.heap.size wr w' → w'.cell? ⟨b, off + n * 21 + 10, none⟩ = some (.int .i64 (c + 1 + 1 + 1 + 1 + (cnts (x.fVars.map encS) : Nat) + (cnts (x.fWhere.map TBound.enc) : Nat) + (cnts (x.fParams.map TParam.enc) : Nat) + 1 + 1 + (cnts (x.fResult.fArgs.map TType.enc) : Nat))) := fun w' q => gcs.ext q hbl 10 _ rfl
      have g11 : ∀ w', Below wr.heap.size wr w' → w'.cell? ⟨b, off + n * 21 + 11, none⟩ = some (.string (mtext (c + 1 + 1 + 1 + 1 + (cnts (x.fVars.map encS) : Nat) + (cnts (x.fWhere.map TBound.enc) : Nat) + (cnts (x.fParams.map TParam.enc) : Nat) + 1 + 1 + (cnts (x.fResult.fArgs.map TType.enc) : Nat) + 1))) := fun w' q => gcs.ext q hbl 11 _ rfl
      have g12 : ∀ w', Below wr.heap.size wr w' → w'.cell? ⟨b, off + n * 21 + 12, none⟩ = some (.string (mtext (c + 1 + 1 + 1 + 1 + (cnts (x.fVars.map encS) : Nat) + (cnts (x.fWhere.map TBound.enc) : Nat) + (cnts (x.fParams.map TParam.enc) : Nat) + 1 + 1 + (cnts (x.fResult.fArgs.map TType.enc) : Nat) + 1 + 1))) := fun w' q => gcs.ext q hbl 12 _ rfl
      have g13 : ∀ w', Below wr.heap.size wr w' → w'.cell? ⟨b, off + n * 21 + 13, none⟩ = some (.int .i64 (c + 1 + 1 + 1 + 1 + (cnts (x.fVars.map encS) : Nat) + (cnts (x.fWhere.map TBound.enc) : Nat) + (cnts (x.fParams.map TParam.enc) : Nat) + 1 + 1 + (cnts (x.fResult.fArgs.map TType.enc) : Nat) + 1 + 1 + 1)) := fun w' q => gcs.ext q hbl 13 _ rfl
      have g14 : ∀ w', Below wr.heap.size wr w' → w'.cell? ⟨b, off + n * 21 + 14, none⟩ = some (.int .i64 (c + 1 + 1 + 1 + 1 + (cnts (x.fVars.map encS) : Nat) + (cnts (x.fWhere.map TBound.enc) : Nat) + (cnts (x.fParams.map TParam.enc) : Nat) + 1 + 1 + (cnts (x.fResult.fArgs.map TType.enc) : Nat) + 1 + 1 + 1 + 1)) := fun w' q => gcs.ext q hbl 14 _ rfl
      have g15 : ∀ w', Below wr.heap.size wr w' → w'.cell? ⟨b, off + n * 21 + 15, none⟩ = some (.string (mtext (c + 1 + 1 + 1 + 1 + (cnts (x.fVars.map encS) : Nat) + (cnts (x.fWhere.map TBound.enc) : Nat) + (cnts (x.fParams.map TParam.enc) : Nat) + 1 + 1 + (cnts (x.fResult.fArgs.map TType.enc) : Nat) + 1 + 1 + 1 + 1 + 1))) := fun w' q => gcs.ext q hbl 15 _ rfl
      have g16 : ∀ w', Below wr.heap.size wr w' → w'.cell? ⟨b, off + n * 21 + 16, none⟩ = some (c16) := fun w' q => gcs.ext q hbl 16 _ rfl
      have g17 : ∀ w', Below wr.heap.size wr w' → w'.cell? ⟨b, off + n * 21 + 17, none⟩ = some (c17) := fun w' q => gcs.ext q hbl 17 _ rfl
      have g18 : ∀ w', Below wr.heap.size wr w' → w'.cell? ⟨b, off + n * 21 + 18, none⟩ = some (c18) := fun w' q => gcs.ext q hbl 18 _ rfl
      have g19 : ∀ w', Below wr.heap.size wr w' → w'.cell? ⟨b, off + n * 21 + 19, none⟩ = some (c19) := fun w' q => gcs.ext q hbl 19 _ rfl
      have g20 : ∀ w', Below wr.heap.size wr w' → w'.cell? ⟨b, off + n * 21 + 20, none⟩ = some (c20) := fun w' q => gcs.ext q hbl 20 _ rfl
      have hW : Below wr.heap.size wr wr := Below.refl _ _
      clear hN gr gcs hbl
      go_wp2_with fail
      refine (heldStringS_c x.fVars wr K (fun b hb => Nat.lt_of_lt_of_le (hK' b hb) hW.size) _ _ (Rep.ext hW hK' o4) (by omega) (by omega)).mono ?_
      rintro e w1 ⟨rfl, hB1⟩
      have hW1 : Below wr.heap.size wr w1 := hW.trans (hB1.mono hW.size)
      go_wp2_with fail
      refine (heldBoundS_c x.fWhere w1 K (fun b hb => Nat.lt_of_lt_of_le (hK' b hb) hW1.size) _ _ (Rep.ext hW1 hK' o5) (by omega) (by omega)).mono ?_
      rintro e w2 ⟨rfl, hB2⟩
      have hW2 : Below wr.heap.size wr w2 := hW1.trans (hB2.mono hW1.size)
      go_wp2_with fail
      refine (heldParamS_c x.fParams w2 K (fun b hb => Nat.lt_of_lt_of_le (hK' b hb) hW2.size) _ _ (Rep.ext hW2 hK' o6) (by omega) (by omega)).mono ?_
      rintro e w3 ⟨rfl, hB3⟩
      have hW3 : Below wr.heap.size wr w3 := hW2.trans (hB3.mono hW2.size)
      go_wp2_with fail
      have hd4 : Below wr.heap.size wr w3.drew := hW3.drew
      refine rg 9 (Below wr.heap.size wr) (by kernel_rfl) rfl ?_
      refine rg_seg (fuel := 2) [0, 1, 2, 3, 4, 5, 6] hd4 (by kernel_rfl) rfl ?_
      simp only [pick, List.getElem?_cons_zero, List.getElem?_cons_succ]
      iterate 7 (refine sg_fix _ rfl (fun w' hI => by go_simp; rfl) ?_; simp only [Act.put, List.setIfInBounds_toArray, List.set_cons_zero, List.set_cons_succ])
      refine sg_nil ?_
      refine rg_one (fuel := 1) 7 (by kernel_rfl) rfl (fun K1 hK1 => ?_)
      simp only [pick, List.getElem?_cons_zero, List.getElem?_cons_succ]
      refine rg_call rfl _ _ (by go_simp; exact ⟨rfl, rfl⟩) ?_
      refine (markText_c _ (by omega) _).mono ?_
      rintro e w4 ⟨rfl, hB4⟩
      have hW4 : Below wr.heap.size wr w4 := hd4.trans (hB4.mono hd4.size)
      refine ⟨_, rfl, hK1 _ _ hW4 ?_⟩
      simp only [Act.put, List.setIfInBounds_toArray, List.set_cons_zero, List.set_cons_succ]
      refine rg_seg (fuel := 0) [8] hW4 (by kernel_rfl) rfl ?_
      simp only [pick, List.getElem?_cons_zero, List.getElem?_cons_succ]
      refine sg_fix _ rfl (fun w' hI => by go_simp; rfl) ?_; simp only [Act.put, List.setIfInBounds_toArray, List.set_cons_zero, List.set_cons_succ]
      refine sg_nil (rg_end (by kernel_rfl) ?_)
      go_wp2_with fail
      refine (heldTypeS_c x.fResult.fArgs w4 K (fun b hb => Nat.lt_of_lt_of_le (hK' b hb) hW4.size) _ _ (Rep.ext hW4 hK' o9) (by omega) (by omega)).mono ?_
      rintro e w5 ⟨rfl, hB5⟩
      have hW5 : Below wr.heap.size wr w5 := hW4.trans (hB5.mono hW4.size)
      go_wp2_with fail
      have hd6 : Below wr.heap.size wr w5.drew := hW5.drew
      refine rg 9 (Below wr.heap.size wr) (by kernel_rfl) rfl ?_
      refine rg_seg (fuel := 2) [0, 1, 2, 3, 4, 5, 6] hd6 (by kernel_rfl) rfl ?_
      simp only [pick, List.getElem?_cons_zero, List.getElem?_cons_succ]
      iterate 7 (refine sg_fix _ rfl (fun w' hI => by go_simp; rfl) ?_; simp only [Act.put, List.setIfInBounds_toArray, List.set_cons_zero, List.set_cons_succ])
      refine sg_nil ?_
      refine rg_one (fuel := 1) 7 (by kernel_rfl) rfl (fun K1 hK1 => ?_)
      simp only [pick, List.getElem?_cons_zero, List.getElem?_cons_succ]
      refine rg_call rfl _ _ (by go_simp; exact ⟨rfl, rfl⟩) ?_
      refine (markText_c _ (by omega) _).mono ?_
      rintro e w6 ⟨rfl, hB6⟩
      have hW6 : Below wr.heap.size wr w6 := hd6.trans (hB6.mono hd6.size)
      refine ⟨_, rfl, hK1 _ _ hW6 ?_⟩
      simp only [Act.put, List.setIfInBounds_toArray, List.set_cons_zero, List.set_cons_succ]
      refine rg_seg (fuel := 0) [8] hW6 (by kernel_rfl) rfl ?_
      simp only [pick, List.getElem?_cons_zero, List.getElem?_cons_succ]
      refine sg_fix _ rfl (fun w' hI => by go_simp; rfl) ?_; simp only [Act.put, List.setIfInBounds_toArray, List.set_cons_zero, List.set_cons_succ]
      refine sg_nil (rg_end (by kernel_rfl) ?_)
      go_wp2_with fail
      have hd7 : Below wr.heap.size wr w6.drew := hW6.drew
      refine rg 9 (Below wr.heap.size wr) (by kernel_rfl) rfl ?_
      refine rg_seg (fuel := 2) [0, 1, 2, 3, 4, 5, 6] hd7 (by kernel_rfl) rfl ?_
      simp only [pick, List.getElem?_cons_zero, List.getElem?_cons_succ]
      iterate 7 (refine sg_fix _ rfl (fun w' hI => by go_simp; rfl) ?_; simp only [Act.put, List.setIfInBounds_toArray, List.set_cons_zero, List.set_cons_succ])
      refine sg_nil ?_
      refine rg_one (fuel := 1) 7 (by kernel_rfl) rfl (fun K1 hK1 => ?_)
      simp only [pick, List.getElem?_cons_zero, List.getElem?_cons_succ]
      refine rg_call rfl _ _ (by go_simp; exact ⟨rfl, rfl⟩) ?_
      refine (markText_c _ (by omega) _).mono ?_
      rintro e w7 ⟨rfl, hB7⟩
      have hW7 : Below wr.heap.size wr w7 := hd7.trans (hB7.mono hd7.size)
      refine ⟨_, rfl, hK1 _ _ hW7 ?_⟩
      simp only [Act.put, List.setIfInBounds_toArray, List.set_cons_zero, List.set_cons_succ]
      refine rg_seg (fuel := 0) [8] hW7 (by kernel_rfl) rfl ?_
      simp only [pick, List.getElem?_cons_zero, List.getElem?_cons_succ]
      refine sg_fix _ rfl (fun w' hI => by go_simp; rfl) ?_; simp only [Act.put, List.setIfInBounds_toArray, List.set_cons_zero, List.set_cons_succ]
      refine sg_nil (rg_end (by kernel_rfl) ?_)
      go_wp2_with fail
      have hd8 : Below wr.heap.size wr w7.drew := hW7.drew
      refine rg 10 (Below wr.heap.size wr) (by kernel_rfl) rfl ?_
      refine rg_seg (fuel := 2) [0, 1, 2, 3, 4, 5, 6, 7] hd8 (by kernel_rfl) rfl ?_
      simp only [pick, List.getElem?_cons_zero, List.getElem?_cons_succ]
      iterate 8 (refine sg_fix _ rfl (fun w' hI => by go_simp; rfl) ?_; simp only [Act.put, List.setIfInBounds_toArray, List.set_cons_zero, List.set_cons_succ])
      refine sg_nil ?_
      refine rg_one (fuel := 1) 8 (by kernel_rfl) rfl (fun K1 hK1 => ?_)
      simp only [pick, List.getElem?_cons_zero, List.getElem?_cons_succ]
      refine rg_call rfl _ _ (by go_simp; exact ⟨rfl, rfl⟩) ?_
      refine (markText_c _ (by omega) _).mono ?_
      rintro e w8 ⟨rfl, hB8⟩
      have hW8 : Below wr.heap.size wr w8 := hd8.trans (hB8.mono hd8.size)
      refine ⟨_, rfl, hK1 _ _ hW8 ?_⟩
      simp only [Act.put, List.setIfInBounds_toArray, List.set_cons_zero, List.set_cons_succ]
      refine rg_seg (fuel := 0) [9] hW8 (by kernel_rfl) rfl ?_
      simp only [pick, List.getElem?_cons_zero, List.getElem?_cons_succ]
      refine sg_fix _ rfl (fun w' hI => by go_simp; rfl) ?_; simp only [Act.put, List.setIfInBounds_toArray, List.set_cons_zero, List.set_cons_succ]
      refine sg_nil (rg_end (by kernel_rfl) ?_)
      go_wp2_with fail
      refine (heldTypeS_c x.fBody.fType.fArgs w8 K (fun b hb => Nat.lt_of_lt_of_le (hK' b hb) hW8.size) _ _ (Rep.ext hW8 hK' o16) (by omega) (by omega)).mono ?_
      rintro e w9 ⟨rfl, hB9⟩
      have hW9 : Below wr.heap.size wr w9 := hW8.trans (hB9.mono hW8.size)
      go_wp2_with fail
      refine (heldTypeS_c x.fBody.fTypeArgs w9 K (fun b hb => Nat.lt_of_lt_of_le (hK' b hb) hW9.size) _ _ (Rep.ext hW9 hK' o17) (by omega) (by omega)).mono ?_
      rintro e w10 ⟨rfl, hB10⟩
      have hW10 : Below wr.heap.size wr w10 := hW9.trans (hB10.mono hW9.size)
      go_wp2_with fail
      refine (heldEvidenceS_c x.fBody.fEvidence w10 K (fun b hb => Nat.lt_of_lt_of_le (hK' b hb) hW10.size) _ _ (Rep.ext hW10 hK' o18) (by omega) (by omega)).mono ?_
      rintro e w11 ⟨rfl, hB11⟩
      have hW11 : Below wr.heap.size wr w11 := hW10.trans (hB11.mono hW10.size)
      go_wp2_with fail
      refine (heldCoreS_c x.fBody.fArgs w11 K (fun b hb => Nat.lt_of_lt_of_le (hK' b hb) hW11.size) _ _ (Rep.ext hW11 hK' o19) (by omega) (by omega)).mono ?_
      rintro e w12 ⟨rfl, hB12⟩
      have hW12 : Below wr.heap.size wr w12 := hW11.trans (hB12.mono hW11.size)
      go_wp2_with fail
      refine (heldCoreArmS_c x.fBody.fArms w12 K (fun b hb => Nat.lt_of_lt_of_le (hK' b hb) hW12.size) _ _ (Rep.ext hW12 hK' o20) (by omega) (by omega)).mono ?_
      rintro e w13 ⟨rfl, hB13⟩
      have hW13 : Below wr.heap.size wr w13 := hW12.trans (hB13.mono hW12.size)
      have HF := Lib.hid (hB.trans (hW13.mono hB.size))
      go_wp2
      go_roundw
      case rel => exact ⟨n + 1, _, hlt, by go_num, rfl, by omega, Lib.hid (by have := HN.out; omega), HF.out⟩
      case measure => simp [intOf]; omega
    · obtain rfl : n = l.length := by omega
      have HE := Lib.hid Hc.out
      rw [List.take_of_length_le (by simp)] at HE
      go_wp2
      go_ret
      exact ⟨ret_int HE.out, hB⟩
end Go.Proofs.YtkmiecgcibjkbaaGreat
