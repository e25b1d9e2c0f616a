/- The functions sz.. of the laws: each takes a value's size from what is left of the bound. Conditions: what is left is from 0 to 1048576. -/
import Derived.Test.YtnlmldgbhdcpbaaTypes
namespace Go.Proofs.Ytnlmldgbhdcpbaa
open Go.RowKit
set_option maxRecDepth 100000 in
set_option maxHeartbeats 1000000 in
theorem szIntS_c (l : List Int) : ∀ (w : World) (K : Nat → Prop) (_ : ∀ b, K b → b < w.heap.size) (v : Value) (_ : Rep w K (.sl (l.map encI)) [v]) (left : Int) (_ : 0 ≤ left) (_ : left ≤ 1048576),
    Calls Try.prog 155 #[v, .int .i64 left] w fun e w' => e = .returned (.int .i64 (szr (szs (fun _ => 0) l) left)) ∧ Below w.heap.size w w' := by
  intro w K hK v h left h0 h1
  obtain ⟨a, cap, rfl, hc, hm, -, hE⟩ := open_sl encI_w h
  unfold maxLen at hm
  clear h
  by_cases h2 : (l.length : Int) ≤ left
  · go_enter Try.func155, Try.ntmps155
    go_wp2
    go_ret
    exact ⟨ret_int (by have := szL_zero l; unfold szr szs; (repeat' split) <;> omega), Below.refl _ _⟩
  · have Hf : Hid (szr (szs (fun _ => 0) l) left = -1) := by
      simp only [Hid, szr, szs]; (repeat' split) <;> omega
    go_enter Try.func155, Try.ntmps155
    go_wp2
    go_ret
    exact ⟨by rw [Hf.out]; rfl, Below.refl _ _⟩
set_option maxRecDepth 100000 in
set_option maxHeartbeats 1000000 in
theorem szStringS_c (l : List ByteArray) : ∀ (w : World) (K : Nat → Prop) (_ : ∀ b, K b → b < w.heap.size) (v : Value) (_ : Rep w K (.sl (l.map encS)) [v]) (left : Int) (_ : 0 ≤ left) (_ : left ≤ 1048576),
    Calls Try.prog 171 #[v, .int .i64 left] w fun e w' => e = .returned (.int .i64 (szr (szs ByteArray.size l) left)) ∧ Below w.heap.size w w' := by
  intro w K hK v h left h0 h1
  obtain ⟨a, cap, rfl, hc, hm, -, hE⟩ := open_sl encS_w h
  unfold maxLen at hm
  clear h
  by_cases h2 : (l.length : Int) ≤ left
  · have Hg : Hid (szr (szL ByteArray.size (l.drop 0)) (left - l.length) = szr (szs ByteArray.size l) left) := by
      simp only [Hid, szr, szs, List.drop_zero]; (repeat' split) <;> omega
    go_enter Try.func171, Try.ntmps171
    go_wp2
    go_loopw [1, 5] (fun t i wr => ∃ (k : Nat) (lf : Int), k ≤ l.length ∧ 0 ≤ lf ∧ lf ≤ 1048576 ∧ i = .int .i64 k ∧ t = .int .i64 lf ∧ Hid (szr (szL ByteArray.size (l.drop k)) lf = szr (szs ByteArray.size l) left) ∧ Below w.heap.size w wr) (fun _ i _ => l.length - (intOf i).toNat)
    case atStart => exact ⟨0, _, Nat.zero_le _, by omega, by omega, rfl, rfl, Hg, Below.refl _ _⟩
    case round =>
      clear Hg
      obtain ⟨k, lf, hk, hl0, hl1, rfl, rfl, Hs, hB⟩ := hrel
      by_cases hlt : k < l.length
      · obtain ⟨b, off, rfl, hKb, cs, hcs, hr⟩ := hE k hlt
        have hr' := Rep.ext hB hK hr
        have hcs' := hcs.ext hB (hK b hKb)
        have hK' : ∀ b, K b → b < wr.heap.size := fun b h => Nat.lt_of_lt_of_le (hK b h) hB.size
        have Hd : Hid (l.drop k = l[k] :: l.drop (k + 1)) := List.drop_eq_getElem_cons hlt
        clear hE hcs hr
        simp only [encS, Rep] at hr'
        obtain ⟨rfl, hz⟩ := hr'
        have g0 : wr.cell? ⟨b, off + k, none⟩ = some (.string l[k]) := by simpa using hcs' 0 _ rfl
        have hz' : l[k].size ≤ 9223372036854775807 := hz
        clear hcs' hz
        generalize l[k] = x at *
        by_cases h3 : (x.size : Int) ≤ lf
        · go_wp2
          go_roundw
          case rel =>
            refine ⟨k + 1, lf - (x.size : Int), hlt, by omega, by omega, by go_num, rfl, ?_, hB⟩
            have e := Hs.out
            rw [Hd.out] at e
            unfold Hid
            rw [← e]
            simp only [szr, szL]
            (repeat' split) <;> omega
          case measure => simp [intOf]; omega
        · skip
          have e := Hs.out
          rw [Hd.out] at e
          have hf : szr (szs ByteArray.size l) left = -1 := by
            rw [← e]; simp only [szr, szL]; (repeat' split) <;> omega
          have Hf := Lib.hid hf
          clear hf e
          go_wp2
          go_ret
          exact ⟨by rw [Hf.out]; rfl, hB⟩
      · obtain rfl : k = l.length := by omega
        go_wp2
        go_ret
        refine ⟨?_, hB⟩
        rw [← Hs.out]
        simp [szr, szL, hl0]
  · have Hf : Hid (szr (szs ByteArray.size l) left = -1) := by
      simp only [Hid, szr, szs]; (repeat' split) <;> omega
    go_enter Try.func171, Try.ntmps171
    go_wp2
    go_ret
    exact ⟨by rw [Hf.out]; rfl, Below.refl _ _⟩
theorem infoS117 : (Try.prog.info? 117).map (·.size) = some 5 := by kernel_rfl
def SzDictionary (N : Nat) : Prop := ∀ (x : TDictionary), SizeOf.sizeOf x < N → ∀ (w : World) (K : Nat → Prop) (_ : ∀ b, K b → b < w.heap.size) (cs : List Value) (_ : Rep w K x.enc cs) (left : Int) (_ : 0 ≤ left) (_ : left ≤ 1048576),
    Calls Try.prog 104 #[.agg cs.toArray, .int .i64 left] w fun e w' => e = .returned (.int .i64 (szr x.sz left)) ∧ Below w.heap.size w w'
def SzDictionaryS (N : Nat) : Prop := ∀ (l : List TDictionary), SizeOf.sizeOf l < N → ∀ (w : World) (K : Nat → Prop) (_ : ∀ b, K b → b < w.heap.size) (v : Value) (_ : Rep w K (.sl (l.map TDictionary.enc)) [v]) (left : Int) (_ : 0 ≤ left) (_ : left ≤ 1048576),
    Calls Try.prog 156 #[v, .int .i64 left] w fun e w' => e = .returned (.int .i64 (szr (szs TDictionary.sz l) left)) ∧ Below w.heap.size w w'
set_option maxRecDepth 100000 in
set_option maxHeartbeats 1000000 in
theorem stepSzDictionary (N : Nat) (_iSzDictionary : SzDictionary N) (iSzDictionaryS : SzDictionaryS N) : SzDictionary (N + 1) := by
  intro x hN w K hK cs h left h0 h1
  obtain ⟨c1, c2, c3, c4, rfl, hKind, hAt, hSteps, hArgs⟩ := TDictionary.opn h
  clear h
  clear hKind
  clear hAt
  have hW : Below w.heap.size w (w.alloc (.cells #[.int .i64 x.fKind, c1, c2, c3, c4] 117)) := (Below.refl _ _).alloc (Nat.le_refl _) _
  have hx : Below (w.heap.size + 1) (w.alloc (.cells #[.int .i64 x.fKind, c1, c2, c3, c4] 117)) (w.alloc (.cells #[.int .i64 x.fKind, c1, c2, c3, c4] 117)) := Below.refl _ _
  go_enter Try.func104, Try.ntmps104
  go_wp2_with fail
  refine (szIntS_c x.fSteps _ K (fun b hb => Nat.lt_of_lt_of_le (hK b hb) hW.size) _ (Rep.ext hW hK hSteps) _ (by omega) (by omega)).mono ?_
  rintro e w0 ⟨rfl, hB0⟩
  have hx0 : Below (w.heap.size + 1) (w.alloc (.cells #[.int .i64 x.fKind, c1, c2, c3, c4] 117)) w0 := hx.trans (hB0.mono (by have := hx.size; simp at this ⊢ <;> omega))
  have hb0 : Below w.heap.size w w0 := hW.trans (hx0.mono (Nat.le_succ _))
  have hc0 := (bcell hx0).1
  by_cases g0 : ((szs (fun _ => 0) x.fSteps : Nat) : Int) ≤ left
  · rw [szr_le g0]
    go_wp2_with fail
    refine (iSzDictionaryS x.fArgs (by have := TDictionary.lt_fArgs x; omega) _ K (fun b hb => Nat.lt_of_lt_of_le (hK b hb) hb0.size) _ (Rep.ext hb0 hK hArgs) _ (by omega) (by omega)).mono ?_
    rintro e w1 ⟨rfl, hB1⟩
    have hx1 : Below (w.heap.size + 1) (w.alloc (.cells #[.int .i64 x.fKind, c1, c2, c3, c4] 117)) w1 := hx0.trans (hB1.mono (by have := hx0.size; simp at this ⊢ <;> omega))
    have hb1 : Below w.heap.size w w1 := hW.trans (hx1.mono (Nat.le_succ _))
    have hc1 := (bcell hx1).1
    by_cases g1 : ((szs TDictionary.sz x.fArgs : Nat) : Int) ≤ left - ((szs (fun _ => 0) x.fSteps : Nat) : Int)
    · rw [szr_le g1]
      go_wp2
      go_ret
      exact ⟨ret_int (by rw [TDictionary.sz_eq]; unfold szr; (repeat' split) <;> omega), hb1⟩
    · rw [szr_gt g1]
      go_wp2
      go_ret
      exact ⟨ret_int (by rw [TDictionary.sz_eq]; unfold szr; (repeat' split) <;> omega), hb1⟩
  · rw [szr_gt g0]
    go_wp2
    go_ret
    exact ⟨ret_int (by rw [TDictionary.sz_eq]; unfold szr; (repeat' split) <;> omega), hb0⟩
set_option maxRecDepth 100000 in
set_option maxHeartbeats 1000000 in
theorem stepSzDictionaryS (N : Nat) (iSzDictionary : SzDictionary N) (_iSzDictionaryS : SzDictionaryS N) : SzDictionaryS (N + 1) := by
  intro l hN w K hK v h left h0 h1
  obtain ⟨a, cap, rfl, hc, hm, -, hE⟩ := open_sl TDictionary.width h
  unfold maxLen at hm
  clear h
  by_cases h2 : (l.length : Int) ≤ left
  · have Hg : Hid (szr (szL TDictionary.sz (l.drop 0)) (left - l.length) = szr (szs TDictionary.sz l) left) := by
      simp only [Hid, szr, szs, List.drop_zero]; (repeat' split) <;> omega
    go_enter Try.func156, Try.ntmps156
    go_wp2
    go_loopw [1, 5] (fun t i wr => ∃ (k : Nat) (lf : Int), k ≤ l.length ∧ 0 ≤ lf ∧ lf ≤ 1048576 ∧ i = .int .i64 k ∧ t = .int .i64 lf ∧ Hid (szr (szL TDictionary.sz (l.drop k)) lf = szr (szs TDictionary.sz l) left) ∧ Below w.heap.size w wr) (fun _ i _ => l.length - (intOf i).toNat)
    case atStart => exact ⟨0, _, Nat.zero_le _, by omega, by omega, rfl, rfl, Hg, Below.refl _ _⟩
    case round =>
      clear Hg
      obtain ⟨k, lf, hk, hl0, hl1, rfl, rfl, Hs, hB⟩ := hrel
      by_cases hlt : k < l.length
      · obtain ⟨b, off, rfl, hKb, cs, hcs, hr⟩ := hE k hlt
        have hr' := Rep.ext hB hK hr
        have hcs' := hcs.ext hB (hK b hKb)
        have hK' : ∀ b, K b → b < wr.heap.size := fun b h => Nat.lt_of_lt_of_le (hK b h) hB.size
        have Hd : Hid (l.drop k = l[k] :: l.drop (k + 1)) := List.drop_eq_getElem_cons hlt
        clear hE hcs hr
        have hi : (Try.prog.info? 117).map (·.size) = some cs.length := by rw [Rep.length _ _ hr', TDictionary.width]; exact infoS117
        have hmem : l[k] ∈ l := List.getElem_mem hlt
        generalize l[k] = x at *
        go_wp2_with (with_reducible refine ld rfl 117 _ rfl b _ rfl cs hcs' _ Try.underlying117 hi ?_)
        refine (iSzDictionary x (by have := List.sizeOf_lt_of_mem hmem; omega) _ K hK' _ hr' lf hl0 hl1).mono ?_
        rintro e w1 ⟨rfl, hB1⟩
        have hB2 := hB.trans (hB1.mono hB.size)
        by_cases h3 : (x.sz : Int) ≤ lf
        · rw [szr_le h3]
          go_wp2
          go_roundw
          case rel =>
            refine ⟨k + 1, lf - (x.sz : Int), hlt, by omega, by omega, by go_num, rfl, ?_, hB2⟩
            have e := Hs.out
            rw [Hd.out] at e
            unfold Hid
            rw [← e]
            simp only [szr, szL]
            (repeat' split) <;> omega
          case measure => simp [intOf]; omega
        · rw [szr_gt h3]
          have e := Hs.out
          rw [Hd.out] at e
          have hf : szr (szs TDictionary.sz l) left = -1 := by
            rw [← e]; simp only [szr, szL]; (repeat' split) <;> omega
          have Hf := Lib.hid hf
          clear hf e
          go_wp2
          go_ret
          exact ⟨by rw [Hf.out]; rfl, hB2⟩
      · obtain rfl : k = l.length := by omega
        go_wp2
        go_ret
        refine ⟨?_, hB⟩
        rw [← Hs.out]
        simp [szr, szL, hl0]
  · have Hf : Hid (szr (szs TDictionary.sz l) left = -1) := by
      simp only [Hid, szr, szs]; (repeat' split) <;> omega
    go_enter Try.func156, Try.ntmps156
    go_wp2
    go_ret
    exact ⟨by rw [Hf.out]; rfl, Below.refl _ _⟩
theorem szDictionary_all : ∀ N : Nat, SzDictionary N ∧ SzDictionaryS N
  | 0 => ⟨fun _ h => absurd h (Nat.not_lt_zero _), fun _ h => absurd h (Nat.not_lt_zero _)⟩
  | N + 1 => by
    obtain ⟨i0, i1⟩ := szDictionary_all N
    exact ⟨stepSzDictionary N i0 i1, stepSzDictionaryS N i0 i1⟩
theorem szDictionary_c (x : TDictionary) : ∀ (w : World) (K : Nat → Prop) (_ : ∀ b, K b → b < w.heap.size) (cs : List Value) (_ : Rep w K x.enc cs) (left : Int) (_ : 0 ≤ left) (_ : left ≤ 1048576),
    Calls Try.prog 104 #[.agg cs.toArray, .int .i64 left] w fun e w' => e = .returned (.int .i64 (szr x.sz left)) ∧ Below w.heap.size w w' := (szDictionary_all (SizeOf.sizeOf x + 1)).1 x (Nat.lt_succ_self _)
theorem szDictionaryS_c (l : List TDictionary) : ∀ (w : World) (K : Nat → Prop) (_ : ∀ b, K b → b < w.heap.size) (v : Value) (_ : Rep w K (.sl (l.map TDictionary.enc)) [v]) (left : Int) (_ : 0 ≤ left) (_ : left ≤ 1048576),
    Calls Try.prog 156 #[v, .int .i64 left] w fun e w' => e = .returned (.int .i64 (szr (szs TDictionary.sz l) left)) ∧ Below w.heap.size w w' := (szDictionary_all (SizeOf.sizeOf l + 1)).2 l (Nat.lt_succ_self _)
theorem infoS305 : (Try.prog.info? 305).map (·.size) = some 5 := by kernel_rfl
def SzEvidence (N : Nat) : Prop := ∀ (x : TEvidence), SizeOf.sizeOf x < N → ∀ (w : World) (K : Nat → Prop) (_ : ∀ b, K b → b < w.heap.size) (cs : List Value) (_ : Rep w K x.enc cs) (left : Int) (_ : 0 ≤ left) (_ : left ≤ 1048576),
    Calls Try.prog 214 #[.agg cs.toArray, .int .i64 left] w fun e w' => e = .returned (.int .i64 (szr x.sz left)) ∧ Below w.heap.size w w'
def SzEvidenceS (N : Nat) : Prop := ∀ (l : List TEvidence), SizeOf.sizeOf l < N → ∀ (w : World) (K : Nat → Prop) (_ : ∀ b, K b → b < w.heap.size) (v : Value) (_ : Rep w K (.sl (l.map TEvidence.enc)) [v]) (left : Int) (_ : 0 ≤ left) (_ : left ≤ 1048576),
    Calls Try.prog 199 #[v, .int .i64 left] w fun e w' => e = .returned (.int .i64 (szr (szs TEvidence.sz l) left)) ∧ Below w.heap.size w w'
set_option maxRecDepth 100000 in
set_option maxHeartbeats 1000000 in
theorem stepSzEvidence (N : Nat) (_iSzEvidence : SzEvidence N) (iSzEvidenceS : SzEvidenceS N) : SzEvidence (N + 1) := by
  intro x hN w K hK cs h left h0 h1
  obtain ⟨c2, c3, c4, rfl, hKind, hN, hAt, hArgs⟩ := TEvidence.opn h
  clear h
  clear hKind
  clear hN
  clear hAt
  have hW : Below w.heap.size w (w.alloc (.cells #[.int .i64 x.fKind, .int .i64 x.fN, c2, c3, c4] 305)) := (Below.refl _ _).alloc (Nat.le_refl _) _
  have hx : Below (w.heap.size + 1) (w.alloc (.cells #[.int .i64 x.fKind, .int .i64 x.fN, c2, c3, c4] 305)) (w.alloc (.cells #[.int .i64 x.fKind, .int .i64 x.fN, c2, c3, c4] 305)) := Below.refl _ _
  go_enter Try.func214, Try.ntmps214
  go_wp2_with fail
  refine (iSzEvidenceS x.fArgs (by have := TEvidence.lt_fArgs x; omega) _ K (fun b hb => Nat.lt_of_lt_of_le (hK b hb) hW.size) _ (Rep.ext hW hK hArgs) _ (by omega) (by omega)).mono ?_
  rintro e w0 ⟨rfl, hB0⟩
  have hx0 : Below (w.heap.size + 1) (w.alloc (.cells #[.int .i64 x.fKind, .int .i64 x.fN, c2, c3, c4] 305)) w0 := hx.trans (hB0.mono (by have := hx.size; simp at this ⊢ <;> omega))
  have hb0 : Below w.heap.size w w0 := hW.trans (hx0.mono (Nat.le_succ _))
  have hc0 := (bcell hx0).1
  by_cases g0 : ((szs TEvidence.sz x.fArgs : Nat) : Int) ≤ left
  · rw [szr_le g0]
    go_wp2
    go_ret
    exact ⟨ret_int (by rw [TEvidence.sz_eq]; unfold szr; (repeat' split) <;> omega), hb0⟩
  · rw [szr_gt g0]
    go_wp2
    go_ret
    exact ⟨ret_int (by rw [TEvidence.sz_eq]; unfold szr; (repeat' split) <;> omega), hb0⟩
set_option maxRecDepth 100000 in
set_option maxHeartbeats 1000000 in
theorem stepSzEvidenceS (N : Nat) (iSzEvidence : SzEvidence N) (_iSzEvidenceS : SzEvidenceS N) : SzEvidenceS (N + 1) := by
  intro l hN w K hK v h left h0 h1
  obtain ⟨a, cap, rfl, hc, hm, -, hE⟩ := open_sl TEvidence.width h
  unfold maxLen at hm
  clear h
  by_cases h2 : (l.length : Int) ≤ left
  · have Hg : Hid (szr (szL TEvidence.sz (l.drop 0)) (left - l.length) = szr (szs TEvidence.sz l) left) := by
      simp only [Hid, szr, szs, List.drop_zero]; (repeat' split) <;> omega
    go_enter Try.func199, Try.ntmps199
    go_wp2
    go_loopw [1, 5] (fun t i wr => ∃ (k : Nat) (lf : Int), k ≤ l.length ∧ 0 ≤ lf ∧ lf ≤ 1048576 ∧ i = .int .i64 k ∧ t = .int .i64 lf ∧ Hid (szr (szL TEvidence.sz (l.drop k)) lf = szr (szs TEvidence.sz l) left) ∧ Below w.heap.size w wr) (fun _ i _ => l.length - (intOf i).toNat)
    case atStart => exact ⟨0, _, Nat.zero_le _, by omega, by omega, rfl, rfl, Hg, Below.refl _ _⟩
    case round =>
      clear Hg
      obtain ⟨k, lf, hk, hl0, hl1, rfl, rfl, Hs, hB⟩ := hrel
      by_cases hlt : k < l.length
      · obtain ⟨b, off, rfl, hKb, cs, hcs, hr⟩ := hE k hlt
        have hr' := Rep.ext hB hK hr
        have hcs' := hcs.ext hB (hK b hKb)
        have hK' : ∀ b, K b → b < wr.heap.size := fun b h => Nat.lt_of_lt_of_le (hK b h) hB.size
        have Hd : Hid (l.drop k = l[k] :: l.drop (k + 1)) := List.drop_eq_getElem_cons hlt
        clear hE hcs hr
        have hi : (Try.prog.info? 305).map (·.size) = some cs.length := by rw [Rep.length _ _ hr', TEvidence.width]; exact infoS305
        have hmem : l[k] ∈ l := List.getElem_mem hlt
        generalize l[k] = x at *
        go_wp2_with (with_reducible refine ld rfl 305 _ rfl b _ rfl cs hcs' _ Try.underlying305 hi ?_)
        refine (iSzEvidence x (by have := List.sizeOf_lt_of_mem hmem; omega) _ K hK' _ hr' lf hl0 hl1).mono ?_
        rintro e w1 ⟨rfl, hB1⟩
        have hB2 := hB.trans (hB1.mono hB.size)
        by_cases h3 : (x.sz : Int) ≤ lf
        · rw [szr_le h3]
          go_wp2
          go_roundw
          case rel =>
            refine ⟨k + 1, lf - (x.sz : Int), hlt, by omega, by omega, by go_num, rfl, ?_, hB2⟩
            have e := Hs.out
            rw [Hd.out] at e
            unfold Hid
            rw [← e]
            simp only [szr, szL]
            (repeat' split) <;> omega
          case measure => simp [intOf]; omega
        · rw [szr_gt h3]
          have e := Hs.out
          rw [Hd.out] at e
          have hf : szr (szs TEvidence.sz l) left = -1 := by
            rw [← e]; simp only [szr, szL]; (repeat' split) <;> omega
          have Hf := Lib.hid hf
          clear hf e
          go_wp2
          go_ret
          exact ⟨by rw [Hf.out]; rfl, hB2⟩
      · obtain rfl : k = l.length := by omega
        go_wp2
        go_ret
        refine ⟨?_, hB⟩
        rw [← Hs.out]
        simp [szr, szL, hl0]
  · have Hf : Hid (szr (szs TEvidence.sz l) left = -1) := by
      simp only [Hid, szr, szs]; (repeat' split) <;> omega
    go_enter Try.func199, Try.ntmps199
    go_wp2
    go_ret
    exact ⟨by rw [Hf.out]; rfl, Below.refl _ _⟩
theorem szEvidence_all : ∀ N : Nat, SzEvidence N ∧ SzEvidenceS N
  | 0 => ⟨fun _ h => absurd h (Nat.not_lt_zero _), fun _ h => absurd h (Nat.not_lt_zero _)⟩
  | N + 1 => by
    obtain ⟨i0, i1⟩ := szEvidence_all N
    exact ⟨stepSzEvidence N i0 i1, stepSzEvidenceS N i0 i1⟩
theorem szEvidence_c (x : TEvidence) : ∀ (w : World) (K : Nat → Prop) (_ : ∀ b, K b → b < w.heap.size) (cs : List Value) (_ : Rep w K x.enc cs) (left : Int) (_ : 0 ≤ left) (_ : left ≤ 1048576),
    Calls Try.prog 214 #[.agg cs.toArray, .int .i64 left] w fun e w' => e = .returned (.int .i64 (szr x.sz left)) ∧ Below w.heap.size w w' := (szEvidence_all (SizeOf.sizeOf x + 1)).1 x (Nat.lt_succ_self _)
theorem szEvidenceS_c (l : List TEvidence) : ∀ (w : World) (K : Nat → Prop) (_ : ∀ b, K b → b < w.heap.size) (v : Value) (_ : Rep w K (.sl (l.map TEvidence.enc)) [v]) (left : Int) (_ : 0 ≤ left) (_ : left ≤ 1048576),
    Calls Try.prog 199 #[v, .int .i64 left] w fun e w' => e = .returned (.int .i64 (szr (szs TEvidence.sz l) left)) ∧ Below w.heap.size w w' := (szEvidence_all (SizeOf.sizeOf l + 1)).2 l (Nat.lt_succ_self _)
set_option maxRecDepth 100000 in
set_option maxHeartbeats 1000000 in
theorem szInstr_c (x : TInstr) : ∀ (w : World) (K : Nat → Prop) (_ : ∀ b, K b → b < w.heap.size) (cs : List Value) (_ : Rep w K x.enc cs) (left : Int) (_ : 0 ≤ left) (_ : left ≤ 1048576),
    Calls Try.prog 192 #[.agg cs.toArray, .int .i64 left] w fun e w' => e = .returned (.int .i64 (szr x.sz left)) ∧ Below w.heap.size w w' := by
  intro w K hK cs h left h0 h1
  obtain ⟨rfl, hOp, hA, hB, hTrait, hName⟩ := TInstr.opn h
  clear h
  clear hOp
  clear hA
  clear hB
  unfold maxLen at hTrait
  unfold maxLen at hName
  have hW : Below w.heap.size w (w.alloc (.cells #[.int .i64 x.fOp, .int .i64 x.fA, .int .i64 x.fB, .string x.fTrait, .string x.fName] 284)) := (Below.refl _ _).alloc (Nat.le_refl _) _
  have hx : Below (w.heap.size + 1) (w.alloc (.cells #[.int .i64 x.fOp, .int .i64 x.fA, .int .i64 x.fB, .string x.fTrait, .string x.fName] 284)) (w.alloc (.cells #[.int .i64 x.fOp, .int .i64 x.fA, .int .i64 x.fB, .string x.fTrait, .string x.fName] 284)) := Below.refl _ _
  go_enter Try.func192, Try.ntmps192
  by_cases g0 : ((x.fTrait.size : Nat) : Int) ≤ left
  · skip
    by_cases g1 : ((x.fName.size : Nat) : Int) ≤ left - ((x.fTrait.size : Nat) : Int)
    · skip
      go_wp2
      go_ret
      exact ⟨ret_int (by rw [TInstr.sz_eq]; unfold szr; (repeat' split) <;> omega), hW⟩
    · go_wp2
      go_ret
      exact ⟨ret_int (by rw [TInstr.sz_eq]; unfold szr; (repeat' split) <;> omega), hW⟩
  · go_wp2
    go_ret
    exact ⟨ret_int (by rw [TInstr.sz_eq]; unfold szr; (repeat' split) <;> omega), hW⟩
theorem infoS284 : (Try.prog.info? 284).map (·.size) = some 5 := by kernel_rfl
set_option maxRecDepth 100000 in
set_option maxHeartbeats 1000000 in
theorem szInstrS_c (l : List TInstr) : ∀ (w : World) (K : Nat → Prop) (_ : ∀ b, K b → b < w.heap.size) (v : Value) (_ : Rep w K (.sl (l.map TInstr.enc)) [v]) (left : Int) (_ : 0 ≤ left) (_ : left ≤ 1048576),
    Calls Try.prog 152 #[v, .int .i64 left] w fun e w' => e = .returned (.int .i64 (szr (szs TInstr.sz l) left)) ∧ Below w.heap.size w w' := by
  intro w K hK v h left h0 h1
  obtain ⟨a, cap, rfl, hc, hm, -, hE⟩ := open_sl TInstr.width h
  unfold maxLen at hm
  clear h
  by_cases h2 : (l.length : Int) ≤ left
  · have Hg : Hid (szr (szL TInstr.sz (l.drop 0)) (left - l.length) = szr (szs TInstr.sz l) left) := by
      simp only [Hid, szr, szs, List.drop_zero]; (repeat' split) <;> omega
    go_enter Try.func152, Try.ntmps152
    go_wp2
    go_loopw [1, 5] (fun t i wr => ∃ (k : Nat) (lf : Int), k ≤ l.length ∧ 0 ≤ lf ∧ lf ≤ 1048576 ∧ i = .int .i64 k ∧ t = .int .i64 lf ∧ Hid (szr (szL TInstr.sz (l.drop k)) lf = szr (szs TInstr.sz l) left) ∧ Below w.heap.size w wr) (fun _ i _ => l.length - (intOf i).toNat)
    case atStart => exact ⟨0, _, Nat.zero_le _, by omega, by omega, rfl, rfl, Hg, Below.refl _ _⟩
    case round =>
      clear Hg
      obtain ⟨k, lf, hk, hl0, hl1, rfl, rfl, Hs, hB⟩ := hrel
      by_cases hlt : k < l.length
      · obtain ⟨b, off, rfl, hKb, cs, hcs, hr⟩ := hE k hlt
        have hr' := Rep.ext hB hK hr
        have hcs' := hcs.ext hB (hK b hKb)
        have hK' : ∀ b, K b → b < wr.heap.size := fun b h => Nat.lt_of_lt_of_le (hK b h) hB.size
        have Hd : Hid (l.drop k = l[k] :: l.drop (k + 1)) := List.drop_eq_getElem_cons hlt
        clear hE hcs hr
        have hi : (Try.prog.info? 284).map (·.size) = some cs.length := by rw [Rep.length _ _ hr', TInstr.width]; exact infoS284
        have hmem : l[k] ∈ l := List.getElem_mem hlt
        generalize l[k] = x at *
        go_wp2_with (with_reducible refine ld rfl 284 _ rfl b _ rfl cs hcs' _ Try.underlying284 hi ?_)
        refine (szInstr_c x _ K hK' _ hr' lf hl0 hl1).mono ?_
        rintro e w1 ⟨rfl, hB1⟩
        have hB2 := hB.trans (hB1.mono hB.size)
        by_cases h3 : (x.sz : Int) ≤ lf
        · rw [szr_le h3]
          go_wp2
          go_roundw
          case rel =>
            refine ⟨k + 1, lf - (x.sz : Int), hlt, by omega, by omega, by go_num, rfl, ?_, hB2⟩
            have e := Hs.out
            rw [Hd.out] at e
            unfold Hid
            rw [← e]
            simp only [szr, szL]
            (repeat' split) <;> omega
          case measure => simp [intOf]; omega
        · rw [szr_gt h3]
          have e := Hs.out
          rw [Hd.out] at e
          have hf : szr (szs TInstr.sz l) left = -1 := by
            rw [← e]; simp only [szr, szL]; (repeat' split) <;> omega
          have Hf := Lib.hid hf
          clear hf e
          go_wp2
          go_ret
          exact ⟨by rw [Hf.out]; rfl, hB2⟩
      · obtain rfl : k = l.length := by omega
        go_wp2
        go_ret
        refine ⟨?_, hB⟩
        rw [← Hs.out]
        simp [szr, szL, hl0]
  · have Hf : Hid (szr (szs TInstr.sz l) left = -1) := by
      simp only [Hid, szr, szs]; (repeat' split) <;> omega
    go_enter Try.func152, Try.ntmps152
    go_wp2
    go_ret
    exact ⟨by rw [Hf.out]; rfl, Below.refl _ _⟩
set_option maxRecDepth 100000 in
set_option maxHeartbeats 1000000 in
theorem szCode_c (x : TCode) : ∀ (w : World) (K : Nat → Prop) (_ : ∀ b, K b → b < w.heap.size) (cs : List Value) (_ : Rep w K x.enc cs) (left : Int) (_ : 0 ≤ left) (_ : left ≤ 1048576),
    Calls Try.prog 102 #[.agg cs.toArray, .int .i64 left] w fun e w' => e = .returned (.int .i64 (szr x.sz left)) ∧ Below w.heap.size w w' := by
  intro w K hK cs h left h0 h1
  obtain ⟨c1, rfl, hParams, hList⟩ := TCode.opn h
  clear h
  clear hParams
  have hW : Below w.heap.size w (w.alloc (.cells #[.int .i64 x.fParams, c1] 188)) := (Below.refl _ _).alloc (Nat.le_refl _) _
  have hx : Below (w.heap.size + 1) (w.alloc (.cells #[.int .i64 x.fParams, c1] 188)) (w.alloc (.cells #[.int .i64 x.fParams, c1] 188)) := Below.refl _ _
  go_enter Try.func102, Try.ntmps102
  go_wp2_with fail
  refine (szInstrS_c x.fList _ K (fun b hb => Nat.lt_of_lt_of_le (hK b hb) hW.size) _ (Rep.ext hW hK hList) _ (by omega) (by omega)).mono ?_
  rintro e w0 ⟨rfl, hB0⟩
  have hx0 : Below (w.heap.size + 1) (w.alloc (.cells #[.int .i64 x.fParams, c1] 188)) w0 := hx.trans (hB0.mono (by have := hx.size; simp at this ⊢ <;> omega))
  have hb0 : Below w.heap.size w w0 := hW.trans (hx0.mono (Nat.le_succ _))
  have hc0 := (bcell hx0).1
  by_cases g0 : ((szs TInstr.sz x.fList : Nat) : Int) ≤ left
  · rw [szr_le g0]
    go_wp2
    go_ret
    exact ⟨ret_int (by rw [TCode.sz_eq]; unfold szr; (repeat' split) <;> omega), hb0⟩
  · rw [szr_gt g0]
    go_wp2
    go_ret
    exact ⟨ret_int (by rw [TCode.sz_eq]; unfold szr; (repeat' split) <;> omega), hb0⟩
theorem infoS188 : (Try.prog.info? 188).map (·.size) = some 2 := by kernel_rfl
set_option maxRecDepth 100000 in
set_option maxHeartbeats 1000000 in
theorem szCodeS_c (l : List TCode) : ∀ (w : World) (K : Nat → Prop) (_ : ∀ b, K b → b < w.heap.size) (v : Value) (_ : Rep w K (.sl (l.map TCode.enc)) [v]) (left : Int) (_ : 0 ≤ left) (_ : left ≤ 1048576),
    Calls Try.prog 55 #[v, .int .i64 left] w fun e w' => e = .returned (.int .i64 (szr (szs TCode.sz l) left)) ∧ Below w.heap.size w w' := by
  intro w K hK v h left h0 h1
  obtain ⟨a, cap, rfl, hc, hm, -, hE⟩ := open_sl TCode.width h
  unfold maxLen at hm
  clear h
  by_cases h2 : (l.length : Int) ≤ left
  · have Hg : Hid (szr (szL TCode.sz (l.drop 0)) (left - l.length) = szr (szs TCode.sz l) left) := by
      simp only [Hid, szr, szs, List.drop_zero]; (repeat' split) <;> omega
    go_enter Try.func55, Try.ntmps55
    go_wp2
    go_loopw [1, 5] (fun t i wr => ∃ (k : Nat) (lf : Int), k ≤ l.length ∧ 0 ≤ lf ∧ lf ≤ 1048576 ∧ i = .int .i64 k ∧ t = .int .i64 lf ∧ Hid (szr (szL TCode.sz (l.drop k)) lf = szr (szs TCode.sz l) left) ∧ Below w.heap.size w wr) (fun _ i _ => l.length - (intOf i).toNat)
    case atStart => exact ⟨0, _, Nat.zero_le _, by omega, by omega, rfl, rfl, Hg, Below.refl _ _⟩
    case round =>
      clear Hg
      obtain ⟨k, lf, hk, hl0, hl1, rfl, rfl, Hs, hB⟩ := hrel
      by_cases hlt : k < l.length
      · obtain ⟨b, off, rfl, hKb, cs, hcs, hr⟩ := hE k hlt
        have hr' := Rep.ext hB hK hr
        have hcs' := hcs.ext hB (hK b hKb)
        have hK' : ∀ b, K b → b < wr.heap.size := fun b h => Nat.lt_of_lt_of_le (hK b h) hB.size
        have Hd : Hid (l.drop k = l[k] :: l.drop (k + 1)) := List.drop_eq_getElem_cons hlt
        clear hE hcs hr
        have hi : (Try.prog.info? 188).map (·.size) = some cs.length := by rw [Rep.length _ _ hr', TCode.width]; exact infoS188
        have hmem : l[k] ∈ l := List.getElem_mem hlt
        generalize l[k] = x at *
        go_wp2_with (with_reducible refine ld rfl 188 _ rfl b _ rfl cs hcs' _ Try.underlying188 hi ?_)
        refine (szCode_c x _ K hK' _ hr' lf hl0 hl1).mono ?_
        rintro e w1 ⟨rfl, hB1⟩
        have hB2 := hB.trans (hB1.mono hB.size)
        by_cases h3 : (x.sz : Int) ≤ lf
        · rw [szr_le h3]
          go_wp2
          go_roundw
          case rel =>
            refine ⟨k + 1, lf - (x.sz : Int), hlt, by omega, by omega, by go_num, rfl, ?_, hB2⟩
            have e := Hs.out
            rw [Hd.out] at e
            unfold Hid
            rw [← e]
            simp only [szr, szL]
            (repeat' split) <;> omega
          case measure => simp [intOf]; omega
        · rw [szr_gt h3]
          have e := Hs.out
          rw [Hd.out] at e
          have hf : szr (szs TCode.sz l) left = -1 := by
            rw [← e]; simp only [szr, szL]; (repeat' split) <;> omega
          have Hf := Lib.hid hf
          clear hf e
          go_wp2
          go_ret
          exact ⟨by rw [Hf.out]; rfl, hB2⟩
      · obtain rfl : k = l.length := by omega
        go_wp2
        go_ret
        refine ⟨?_, hB⟩
        rw [← Hs.out]
        simp [szr, szL, hl0]
  · have Hf : Hid (szr (szs TCode.sz l) left = -1) := by
      simp only [Hid, szr, szs]; (repeat' split) <;> omega
    go_enter Try.func55, Try.ntmps55
    go_wp2
    go_ret
    exact ⟨by rw [Hf.out]; rfl, Below.refl _ _⟩
set_option maxRecDepth 100000 in
set_option maxHeartbeats 1000000 in
theorem szMethodEntry_c (x : TMethodEntry) : ∀ (w : World) (K : Nat → Prop) (_ : ∀ b, K b → b < w.heap.size) (cs : List Value) (_ : Rep w K x.enc cs) (left : Int) (_ : 0 ≤ left) (_ : left ≤ 1048576),
    Calls Try.prog 193 #[.agg cs.toArray, .int .i64 left] w fun e w' => e = .returned (.int .i64 (szr x.sz left)) ∧ Below w.heap.size w w' := by
  intro w K hK cs h left h0 h1
  obtain ⟨rfl, hTrait, hName, hSpecialization⟩ := TMethodEntry.opn h
  clear h
  unfold maxLen at hTrait
  unfold maxLen at hName
  clear hSpecialization
  have hW : Below w.heap.size w (w.alloc (.cells #[.string x.fTrait, .string x.fName, .int .i64 x.fSpecialization] 286)) := (Below.refl _ _).alloc (Nat.le_refl _) _
  have hx : Below (w.heap.size + 1) (w.alloc (.cells #[.string x.fTrait, .string x.fName, .int .i64 x.fSpecialization] 286)) (w.alloc (.cells #[.string x.fTrait, .string x.fName, .int .i64 x.fSpecialization] 286)) := Below.refl _ _
  go_enter Try.func193, Try.ntmps193
  by_cases g0 : ((x.fTrait.size : Nat) : Int) ≤ left
  · skip
    by_cases g1 : ((x.fName.size : Nat) : Int) ≤ left - ((x.fTrait.size : Nat) : Int)
    · skip
      go_wp2
      go_ret
      exact ⟨ret_int (by rw [TMethodEntry.sz_eq]; unfold szr; (repeat' split) <;> omega), hW⟩
    · go_wp2
      go_ret
      exact ⟨ret_int (by rw [TMethodEntry.sz_eq]; unfold szr; (repeat' split) <;> omega), hW⟩
  · go_wp2
    go_ret
    exact ⟨ret_int (by rw [TMethodEntry.sz_eq]; unfold szr; (repeat' split) <;> omega), hW⟩
theorem infoS286 : (Try.prog.info? 286).map (·.size) = some 3 := by kernel_rfl
set_option maxRecDepth 100000 in
set_option maxHeartbeats 1000000 in
theorem szMethodEntryS_c (l : List TMethodEntry) : ∀ (w : World) (K : Nat → Prop) (_ : ∀ b, K b → b < w.heap.size) (v : Value) (_ : Rep w K (.sl (l.map TMethodEntry.enc)) [v]) (left : Int) (_ : 0 ≤ left) (_ : left ≤ 1048576),
    Calls Try.prog 154 #[v, .int .i64 left] w fun e w' => e = .returned (.int .i64 (szr (szs TMethodEntry.sz l) left)) ∧ Below w.heap.size w w' := by
  intro w K hK v h left h0 h1
  obtain ⟨a, cap, rfl, hc, hm, -, hE⟩ := open_sl TMethodEntry.width h
  unfold maxLen at hm
  clear h
  by_cases h2 : (l.length : Int) ≤ left
  · have Hg : Hid (szr (szL TMethodEntry.sz (l.drop 0)) (left - l.length) = szr (szs TMethodEntry.sz l) left) := by
      simp only [Hid, szr, szs, List.drop_zero]; (repeat' split) <;> omega
    go_enter Try.func154, Try.ntmps154
    go_wp2
    go_loopw [1, 5] (fun t i wr => ∃ (k : Nat) (lf : Int), k ≤ l.length ∧ 0 ≤ lf ∧ lf ≤ 1048576 ∧ i = .int .i64 k ∧ t = .int .i64 lf ∧ Hid (szr (szL TMethodEntry.sz (l.drop k)) lf = szr (szs TMethodEntry.sz l) left) ∧ Below w.heap.size w wr) (fun _ i _ => l.length - (intOf i).toNat)
    case atStart => exact ⟨0, _, Nat.zero_le _, by omega, by omega, rfl, rfl, Hg, Below.refl _ _⟩
    case round =>
      clear Hg
      obtain ⟨k, lf, hk, hl0, hl1, rfl, rfl, Hs, hB⟩ := hrel
      by_cases hlt : k < l.length
      · obtain ⟨b, off, rfl, hKb, cs, hcs, hr⟩ := hE k hlt
        have hr' := Rep.ext hB hK hr
        have hcs' := hcs.ext hB (hK b hKb)
        have hK' : ∀ b, K b → b < wr.heap.size := fun b h => Nat.lt_of_lt_of_le (hK b h) hB.size
        have Hd : Hid (l.drop k = l[k] :: l.drop (k + 1)) := List.drop_eq_getElem_cons hlt
        clear hE hcs hr
        have hi : (Try.prog.info? 286).map (·.size) = some cs.length := by rw [Rep.length _ _ hr', TMethodEntry.width]; exact infoS286
        have hmem : l[k] ∈ l := List.getElem_mem hlt
        generalize l[k] = x at *
        go_wp2_with (with_reducible refine ld rfl 286 _ rfl b _ rfl cs hcs' _ Try.underlying286 hi ?_)
        refine (szMethodEntry_c x _ K hK' _ hr' lf hl0 hl1).mono ?_
        rintro e w1 ⟨rfl, hB1⟩
        have hB2 := hB.trans (hB1.mono hB.size)
        by_cases h3 : (x.sz : Int) ≤ lf
        · rw [szr_le h3]
          go_wp2
          go_roundw
          case rel =>
            refine ⟨k + 1, lf - (x.sz : Int), hlt, by omega, by omega, by go_num, rfl, ?_, hB2⟩
            have e := Hs.out
            rw [Hd.out] at e
            unfold Hid
            rw [← e]
            simp only [szr, szL]
            (repeat' split) <;> omega
          case measure => simp [intOf]; omega
        · rw [szr_gt h3]
          have e := Hs.out
          rw [Hd.out] at e
          have hf : szr (szs TMethodEntry.sz l) left = -1 := by
            rw [← e]; simp only [szr, szL]; (repeat' split) <;> omega
          have Hf := Lib.hid hf
          clear hf e
          go_wp2
          go_ret
          exact ⟨by rw [Hf.out]; rfl, hB2⟩
      · obtain rfl : k = l.length := by omega
        go_wp2
        go_ret
        refine ⟨?_, hB⟩
        rw [← Hs.out]
        simp [szr, szL, hl0]
  · have Hf : Hid (szr (szs TMethodEntry.sz l) left = -1) := by
      simp only [Hid, szr, szs]; (repeat' split) <;> omega
    go_enter Try.func154, Try.ntmps154
    go_wp2
    go_ret
    exact ⟨by rw [Hf.out]; rfl, Below.refl _ _⟩
theorem infoS192 : (Try.prog.info? 192).map (·.size) = some 3 := by kernel_rfl
def SzType (N : Nat) : Prop := ∀ (x : TType), SizeOf.sizeOf x < N → ∀ (w : World) (K : Nat → Prop) (_ : ∀ b, K b → b < w.heap.size) (cs : List Value) (_ : Rep w K x.enc cs) (left : Int) (_ : 0 ≤ left) (_ : left ≤ 1048576),
    Calls Try.prog 153 #[.agg cs.toArray, .int .i64 left] w fun e w' => e = .returned (.int .i64 (szr x.sz left)) ∧ Below w.heap.size w w'
def SzTypeS (N : Nat) : Prop := ∀ (l : List TType), SizeOf.sizeOf l < N → ∀ (w : World) (K : Nat → Prop) (_ : ∀ b, K b → b < w.heap.size) (v : Value) (_ : Rep w K (.sl (l.map TType.enc)) [v]) (left : Int) (_ : 0 ≤ left) (_ : left ≤ 1048576),
    Calls Try.prog 170 #[v, .int .i64 left] w fun e w' => e = .returned (.int .i64 (szr (szs TType.sz l) left)) ∧ Below w.heap.size w w'
set_option maxRecDepth 100000 in
set_option maxHeartbeats 1000000 in
theorem stepSzType (N : Nat) (_iSzType : SzType N) (iSzTypeS : SzTypeS N) : SzType (N + 1) := by
  intro x hN w K hK cs h left h0 h1
  obtain ⟨c2, rfl, hKind, hName, hArgs⟩ := TType.opn h
  clear h
  clear hKind
  unfold maxLen at hName
  have hW : Below w.heap.size w (w.alloc (.cells #[.int .i64 x.fKind, .string x.fName, c2] 192)) := (Below.refl _ _).alloc (Nat.le_refl _) _
  have hx : Below (w.heap.size + 1) (w.alloc (.cells #[.int .i64 x.fKind, .string x.fName, c2] 192)) (w.alloc (.cells #[.int .i64 x.fKind, .string x.fName, c2] 192)) := Below.refl _ _
  go_enter Try.func153, Try.ntmps153
  by_cases g0 : ((x.fName.size : Nat) : Int) ≤ left
  · skip
    go_wp2_with fail
    refine (iSzTypeS x.fArgs (by have := TType.lt_fArgs x; omega) _ K (fun b hb => Nat.lt_of_lt_of_le (hK b hb) hW.size) _ (Rep.ext hW hK hArgs) _ (by omega) (by omega)).mono ?_
    rintro e w1 ⟨rfl, hB1⟩
    have hx1 : Below (w.heap.size + 1) (w.alloc (.cells #[.int .i64 x.fKind, .string x.fName, c2] 192)) w1 := hx.trans (hB1.mono (by have := hx.size; simp at this ⊢ <;> omega))
    have hb1 : Below w.heap.size w w1 := hW.trans (hx1.mono (Nat.le_succ _))
    have hc1 := (bcell hx1).1
    by_cases g1 : ((szs TType.sz x.fArgs : Nat) : Int) ≤ left - ((x.fName.size : Nat) : Int)
    · rw [szr_le g1]
      go_wp2
      go_ret
      exact ⟨ret_int (by rw [TType.sz_eq]; unfold szr; (repeat' split) <;> omega), hb1⟩
    · rw [szr_gt g1]
      go_wp2
      go_ret
      exact ⟨ret_int (by rw [TType.sz_eq]; unfold szr; (repeat' split) <;> omega), hb1⟩
  · go_wp2
    go_ret
    exact ⟨ret_int (by rw [TType.sz_eq]; unfold szr; (repeat' split) <;> omega), hW⟩
set_option maxRecDepth 100000 in
set_option maxHeartbeats 1000000 in
theorem stepSzTypeS (N : Nat) (iSzType : SzType N) (_iSzTypeS : SzTypeS N) : SzTypeS (N + 1) := by
  intro l hN w K hK v h left h0 h1
  obtain ⟨a, cap, rfl, hc, hm, -, hE⟩ := open_sl TType.width h
  unfold maxLen at hm
  clear h
  by_cases h2 : (l.length : Int) ≤ left
  · have Hg : Hid (szr (szL TType.sz (l.drop 0)) (left - l.length) = szr (szs TType.sz l) left) := by
      simp only [Hid, szr, szs, List.drop_zero]; (repeat' split) <;> omega
    go_enter Try.func170, Try.ntmps170
    go_wp2
    go_loopw [1, 5] (fun t i wr => ∃ (k : Nat) (lf : Int), k ≤ l.length ∧ 0 ≤ lf ∧ lf ≤ 1048576 ∧ i = .int .i64 k ∧ t = .int .i64 lf ∧ Hid (szr (szL TType.sz (l.drop k)) lf = szr (szs TType.sz l) left) ∧ Below w.heap.size w wr) (fun _ i _ => l.length - (intOf i).toNat)
    case atStart => exact ⟨0, _, Nat.zero_le _, by omega, by omega, rfl, rfl, Hg, Below.refl _ _⟩
    case round =>
      clear Hg
      obtain ⟨k, lf, hk, hl0, hl1, rfl, rfl, Hs, hB⟩ := hrel
      by_cases hlt : k < l.length
      · obtain ⟨b, off, rfl, hKb, cs, hcs, hr⟩ := hE k hlt
        have hr' := Rep.ext hB hK hr
        have hcs' := hcs.ext hB (hK b hKb)
        have hK' : ∀ b, K b → b < wr.heap.size := fun b h => Nat.lt_of_lt_of_le (hK b h) hB.size
        have Hd : Hid (l.drop k = l[k] :: l.drop (k + 1)) := List.drop_eq_getElem_cons hlt
        clear hE hcs hr
        have hi : (Try.prog.info? 192).map (·.size) = some cs.length := by rw [Rep.length _ _ hr', TType.width]; exact infoS192
        have hmem : l[k] ∈ l := List.getElem_mem hlt
        generalize l[k] = x at *
        go_wp2_with (with_reducible refine ld rfl 192 _ rfl b _ rfl cs hcs' _ Try.underlying192 hi ?_)
        refine (iSzType x (by have := List.sizeOf_lt_of_mem hmem; omega) _ K hK' _ hr' lf hl0 hl1).mono ?_
        rintro e w1 ⟨rfl, hB1⟩
        have hB2 := hB.trans (hB1.mono hB.size)
        by_cases h3 : (x.sz : Int) ≤ lf
        · rw [szr_le h3]
          go_wp2
          go_roundw
          case rel =>
            refine ⟨k + 1, lf - (x.sz : Int), hlt, by omega, by omega, by go_num, rfl, ?_, hB2⟩
            have e := Hs.out
            rw [Hd.out] at e
            unfold Hid
            rw [← e]
            simp only [szr, szL]
            (repeat' split) <;> omega
          case measure => simp [intOf]; omega
        · rw [szr_gt h3]
          have e := Hs.out
          rw [Hd.out] at e
          have hf : szr (szs TType.sz l) left = -1 := by
            rw [← e]; simp only [szr, szL]; (repeat' split) <;> omega
          have Hf := Lib.hid hf
          clear hf e
          go_wp2
          go_ret
          exact ⟨by rw [Hf.out]; rfl, hB2⟩
      · obtain rfl : k = l.length := by omega
        go_wp2
        go_ret
        refine ⟨?_, hB⟩
        rw [← Hs.out]
        simp [szr, szL, hl0]
  · have Hf : Hid (szr (szs TType.sz l) left = -1) := by
      simp only [Hid, szr, szs]; (repeat' split) <;> omega
    go_enter Try.func170, Try.ntmps170
    go_wp2
    go_ret
    exact ⟨by rw [Hf.out]; rfl, Below.refl _ _⟩
theorem szType_all : ∀ N : Nat, SzType N ∧ SzTypeS N
  | 0 => ⟨fun _ h => absurd h (Nat.not_lt_zero _), fun _ h => absurd h (Nat.not_lt_zero _)⟩
  | N + 1 => by
    obtain ⟨i0, i1⟩ := szType_all N
    exact ⟨stepSzType N i0 i1, stepSzTypeS N i0 i1⟩
theorem szType_c (x : TType) : ∀ (w : World) (K : Nat → Prop) (_ : ∀ b, K b → b < w.heap.size) (cs : List Value) (_ : Rep w K x.enc cs) (left : Int) (_ : 0 ≤ left) (_ : left ≤ 1048576),
    Calls Try.prog 153 #[.agg cs.toArray, .int .i64 left] w fun e w' => e = .returned (.int .i64 (szr x.sz left)) ∧ Below w.heap.size w w' := (szType_all (SizeOf.sizeOf x + 1)).1 x (Nat.lt_succ_self _)
theorem szTypeS_c (l : List TType) : ∀ (w : World) (K : Nat → Prop) (_ : ∀ b, K b → b < w.heap.size) (v : Value) (_ : Rep w K (.sl (l.map TType.enc)) [v]) (left : Int) (_ : 0 ≤ left) (_ : left ≤ 1048576),
    Calls Try.prog 170 #[v, .int .i64 left] w fun e w' => e = .returned (.int .i64 (szr (szs TType.sz l) left)) ∧ Below w.heap.size w w' := (szType_all (SizeOf.sizeOf l + 1)).2 l (Nat.lt_succ_self _)
set_option maxRecDepth 100000 in
set_option maxHeartbeats 1000000 in
theorem szBound_c (x : TBound) : ∀ (w : World) (K : Nat → Prop) (_ : ∀ b, K b → b < w.heap.size) (cs : List Value) (_ : Rep w K x.enc cs) (left : Int) (_ : 0 ≤ left) (_ : left ≤ 1048576),
    Calls Try.prog 220 #[.agg cs.toArray, .int .i64 left] w fun e w' => e = .returned (.int .i64 (szr x.sz left)) ∧ Below w.heap.size w w' := by
  intro w K hK cs h left h0 h1
  obtain ⟨c1, c2, c3, rfl, hTrait, hType⟩ := TBound.opn h
  clear h
  unfold maxLen at hTrait
  have hW : Below w.heap.size w (w.alloc (.cells #[.string x.fTrait, c1, c2, c3] 313)) := (Below.refl _ _).alloc (Nat.le_refl _) _
  have hx : Below (w.heap.size + 1) (w.alloc (.cells #[.string x.fTrait, c1, c2, c3] 313)) (w.alloc (.cells #[.string x.fTrait, c1, c2, c3] 313)) := Below.refl _ _
  go_enter Try.func220, Try.ntmps220
  by_cases g0 : ((x.fTrait.size : Nat) : Int) ≤ left
  · skip
    go_wp2_with fail
    refine (szType_c x.fType _ K (fun b hb => Nat.lt_of_lt_of_le (hK b hb) hW.size) _ (Rep.ext hW hK hType) _ (by omega) (by omega)).mono ?_
    rintro e w1 ⟨rfl, hB1⟩
    have hx1 : Below (w.heap.size + 1) (w.alloc (.cells #[.string x.fTrait, c1, c2, c3] 313)) w1 := hx.trans (hB1.mono (by have := hx.size; simp at this ⊢ <;> omega))
    have hb1 : Below w.heap.size w w1 := hW.trans (hx1.mono (Nat.le_succ _))
    have hc1 := (bcell hx1).1
    by_cases g1 : ((TType.sz x.fType : Nat) : Int) ≤ left - ((x.fTrait.size : Nat) : Int)
    · rw [szr_le g1]
      go_wp2
      go_ret
      exact ⟨ret_int (by rw [TBound.sz_eq]; unfold szr; (repeat' split) <;> omega), hb1⟩
    · rw [szr_gt g1]
      go_wp2
      go_ret
      exact ⟨ret_int (by rw [TBound.sz_eq]; unfold szr; (repeat' split) <;> omega), hb1⟩
  · go_wp2
    go_ret
    exact ⟨ret_int (by rw [TBound.sz_eq]; unfold szr; (repeat' split) <;> omega), hW⟩
theorem infoS313 : (Try.prog.info? 313).map (·.size) = some 4 := by kernel_rfl
set_option maxRecDepth 100000 in
set_option maxHeartbeats 1000000 in
theorem szBoundS_c (l : List TBound) : ∀ (w : World) (K : Nat → Prop) (_ : ∀ b, K b → b < w.heap.size) (v : Value) (_ : Rep w K (.sl (l.map TBound.enc)) [v]) (left : Int) (_ : 0 ≤ left) (_ : left ≤ 1048576),
    Calls Try.prog 208 #[v, .int .i64 left] w fun e w' => e = .returned (.int .i64 (szr (szs TBound.sz l) left)) ∧ Below w.heap.size w w' := by
  intro w K hK v h left h0 h1
  obtain ⟨a, cap, rfl, hc, hm, -, hE⟩ := open_sl TBound.width h
  unfold maxLen at hm
  clear h
  by_cases h2 : (l.length : Int) ≤ left
  · have Hg : Hid (szr (szL TBound.sz (l.drop 0)) (left - l.length) = szr (szs TBound.sz l) left) := by
      simp only [Hid, szr, szs, List.drop_zero]; (repeat' split) <;> omega
    go_enter Try.func208, Try.ntmps208
    go_wp2
    go_loopw [1, 5] (fun t i wr => ∃ (k : Nat) (lf : Int), k ≤ l.length ∧ 0 ≤ lf ∧ lf ≤ 1048576 ∧ i = .int .i64 k ∧ t = .int .i64 lf ∧ Hid (szr (szL TBound.sz (l.drop k)) lf = szr (szs TBound.sz l) left) ∧ Below w.heap.size w wr) (fun _ i _ => l.length - (intOf i).toNat)
    case atStart => exact ⟨0, _, Nat.zero_le _, by omega, by omega, rfl, rfl, Hg, Below.refl _ _⟩
    case round =>
      clear Hg
      obtain ⟨k, lf, hk, hl0, hl1, rfl, rfl, Hs, hB⟩ := hrel
      by_cases hlt : k < l.length
      · obtain ⟨b, off, rfl, hKb, cs, hcs, hr⟩ := hE k hlt
        have hr' := Rep.ext hB hK hr
        have hcs' := hcs.ext hB (hK b hKb)
        have hK' : ∀ b, K b → b < wr.heap.size := fun b h => Nat.lt_of_lt_of_le (hK b h) hB.size
        have Hd : Hid (l.drop k = l[k] :: l.drop (k + 1)) := List.drop_eq_getElem_cons hlt
        clear hE hcs hr
        have hi : (Try.prog.info? 313).map (·.size) = some cs.length := by rw [Rep.length _ _ hr', TBound.width]; exact infoS313
        have hmem : l[k] ∈ l := List.getElem_mem hlt
        generalize l[k] = x at *
        go_wp2_with (with_reducible refine ld rfl 313 _ rfl b _ rfl cs hcs' _ Try.underlying313 hi ?_)
        refine (szBound_c x _ K hK' _ hr' lf hl0 hl1).mono ?_
        rintro e w1 ⟨rfl, hB1⟩
        have hB2 := hB.trans (hB1.mono hB.size)
        by_cases h3 : (x.sz : Int) ≤ lf
        · rw [szr_le h3]
          go_wp2
          go_roundw
          case rel =>
            refine ⟨k + 1, lf - (x.sz : Int), hlt, by omega, by omega, by go_num, rfl, ?_, hB2⟩
            have e := Hs.out
            rw [Hd.out] at e
            unfold Hid
            rw [← e]
            simp only [szr, szL]
            (repeat' split) <;> omega
          case measure => simp [intOf]; omega
        · rw [szr_gt h3]
          have e := Hs.out
          rw [Hd.out] at e
          have hf : szr (szs TBound.sz l) left = -1 := by
            rw [← e]; simp only [szr, szL]; (repeat' split) <;> omega
          have Hf := Lib.hid hf
          clear hf e
          go_wp2
          go_ret
          exact ⟨by rw [Hf.out]; rfl, hB2⟩
      · obtain rfl : k = l.length := by omega
        go_wp2
        go_ret
        refine ⟨?_, hB⟩
        rw [← Hs.out]
        simp [szr, szL, hl0]
  · have Hf : Hid (szr (szs TBound.sz l) left = -1) := by
      simp only [Hid, szr, szs]; (repeat' split) <;> omega
    go_enter Try.func208, Try.ntmps208
    go_wp2
    go_ret
    exact ⟨by rw [Hf.out]; rfl, Below.refl _ _⟩
theorem infoS308 : (Try.prog.info? 308).map (·.size) = some 13 := by kernel_rfl
theorem infoS213 : (Try.prog.info? 213).map (·.size) = some 11 := by kernel_rfl
def SzCoreArm (N : Nat) : Prop := ∀ (x : TCoreArm), SizeOf.sizeOf x < N → ∀ (w : World) (K : Nat → Prop) (_ : ∀ b, K b → b < w.heap.size) (cs : List Value) (_ : Rep w K x.enc cs) (left : Int) (_ : 0 ≤ left) (_ : left ≤ 1048576),
    Calls Try.prog 215 #[.agg cs.toArray, .int .i64 left] w fun e w' => e = .returned (.int .i64 (szr x.sz left)) ∧ Below w.heap.size w w'
def SzCoreArmS (N : Nat) : Prop := ∀ (l : List TCoreArm), SizeOf.sizeOf l < N → ∀ (w : World) (K : Nat → Prop) (_ : ∀ b, K b → b < w.heap.size) (v : Value) (_ : Rep w K (.sl (l.map TCoreArm.enc)) [v]) (left : Int) (_ : 0 ≤ left) (_ : left ≤ 1048576),
    Calls Try.prog 201 #[v, .int .i64 left] w fun e w' => e = .returned (.int .i64 (szr (szs TCoreArm.sz l) left)) ∧ Below w.heap.size w w'
def SzCore (N : Nat) : Prop := ∀ (x : TCore), SizeOf.sizeOf x < N → ∀ (w : World) (K : Nat → Prop) (_ : ∀ b, K b → b < w.heap.size) (cs : List Value) (_ : Rep w K x.enc cs) (left : Int) (_ : 0 ≤ left) (_ : left ≤ 1048576),
    Calls Try.prog 172 #[.agg cs.toArray, .int .i64 left] w fun e w' => e = .returned (.int .i64 (szr x.sz left)) ∧ Below w.heap.size w w'
def SzCoreS (N : Nat) : Prop := ∀ (l : List TCore), SizeOf.sizeOf l < N → ∀ (w : World) (K : Nat → Prop) (_ : ∀ b, K b → b < w.heap.size) (v : Value) (_ : Rep w K (.sl (l.map TCore.enc)) [v]) (left : Int) (_ : 0 ≤ left) (_ : left ≤ 1048576),
    Calls Try.prog 200 #[v, .int .i64 left] w fun e w' => e = .returned (.int .i64 (szr (szs TCore.sz l) left)) ∧ Below w.heap.size w w'
set_option maxRecDepth 100000 in
set_option maxHeartbeats 1000000 in
theorem stepSzCoreArm (N : Nat) (_iSzCoreArm : SzCoreArm N) (_iSzCoreArmS : SzCoreArmS N) (iSzCore : SzCore N) (_iSzCoreS : SzCoreS N) : SzCoreArm (N + 1) := by
  intro x hN w K hK cs h left h0 h1
  obtain ⟨c1, c2, c3, c4, c5, c6, c7, c8, c9, c10, c11, c12, rfl, hConstructor, hVars, hBody⟩ := TCoreArm.opn h
  clear h
  unfold maxLen at hConstructor
  have hW : Below w.heap.size w (w.alloc (.cells #[.string x.fConstructor, c1, c2, c3, c4, c5, c6, c7, c8, c9, c10, c11, c12] 308)) := (Below.refl _ _).alloc (Nat.le_refl _) _
  have hx : Below (w.heap.size + 1) (w.alloc (.cells #[.string x.fConstructor, c1, c2, c3, c4, c5, c6, c7, c8, c9, c10, c11, c12] 308)) (w.alloc (.cells #[.string x.fConstructor, c1, c2, c3, c4, c5, c6, c7, c8, c9, c10, c11, c12] 308)) := Below.refl _ _
  go_enter Try.func215, Try.ntmps215
  by_cases g0 : ((x.fConstructor.size : Nat) : Int) ≤ left
  · skip
    go_wp2_with fail
    refine (szStringS_c x.fVars _ K (fun b hb => Nat.lt_of_lt_of_le (hK b hb) hW.size) _ (Rep.ext hW hK hVars) _ (by omega) (by omega)).mono ?_
    rintro e w1 ⟨rfl, hB1⟩
    have hx1 : Below (w.heap.size + 1) (w.alloc (.cells #[.string x.fConstructor, c1, c2, c3, c4, c5, c6, c7, c8, c9, c10, c11, c12] 308)) w1 := hx.trans (hB1.mono (by have := hx.size; simp at this ⊢ <;> omega))
    have hb1 : Below w.heap.size w w1 := hW.trans (hx1.mono (Nat.le_succ _))
    have hc1 := (bcell hx1).1
    by_cases g1 : ((szs ByteArray.size x.fVars : Nat) : Int) ≤ left - ((x.fConstructor.size : Nat) : Int)
    · rw [szr_le g1]
      go_wp2_with fail
      refine (iSzCore x.fBody (by have := TCoreArm.lt_fBody x; omega) _ K (fun b hb => Nat.lt_of_lt_of_le (hK b hb) hb1.size) _ (Rep.ext hb1 hK hBody) _ (by omega) (by omega)).mono ?_
      rintro e w2 ⟨rfl, hB2⟩
      have hx2 : Below (w.heap.size + 1) (w.alloc (.cells #[.string x.fConstructor, c1, c2, c3, c4, c5, c6, c7, c8, c9, c10, c11, c12] 308)) w2 := hx1.trans (hB2.mono (by have := hx1.size; simp at this ⊢ <;> omega))
      have hb2 : Below w.heap.size w w2 := hW.trans (hx2.mono (Nat.le_succ _))
      have hc2 := (bcell hx2).1
      by_cases g2 : ((TCore.sz x.fBody : Nat) : Int) ≤ left - ((x.fConstructor.size : Nat) : Int) - ((szs ByteArray.size x.fVars : Nat) : Int)
      · rw [szr_le g2]
        go_wp2
        go_ret
        exact ⟨ret_int (by rw [TCoreArm.sz_eq]; unfold szr; (repeat' split) <;> omega), hb2⟩
      · rw [szr_gt g2]
        go_wp2
        go_ret
        exact ⟨ret_int (by rw [TCoreArm.sz_eq]; unfold szr; (repeat' split) <;> omega), hb2⟩
    · rw [szr_gt g1]
      go_wp2
      go_ret
      exact ⟨ret_int (by rw [TCoreArm.sz_eq]; unfold szr; (repeat' split) <;> omega), hb1⟩
  · go_wp2
    go_ret
    exact ⟨ret_int (by rw [TCoreArm.sz_eq]; unfold szr; (repeat' split) <;> omega), hW⟩
set_option maxRecDepth 100000 in
set_option maxHeartbeats 1000000 in
theorem stepSzCoreArmS (N : Nat) (iSzCoreArm : SzCoreArm N) (_iSzCoreArmS : SzCoreArmS N) (_iSzCore : SzCore N) (_iSzCoreS : SzCoreS N) : SzCoreArmS (N + 1) := by
  intro l hN w K hK v h left h0 h1
  obtain ⟨a, cap, rfl, hc, hm, -, hE⟩ := open_sl TCoreArm.width h
  unfold maxLen at hm
  clear h
  by_cases h2 : (l.length : Int) ≤ left
  · have Hg : Hid (szr (szL TCoreArm.sz (l.drop 0)) (left - l.length) = szr (szs TCoreArm.sz l) left) := by
      simp only [Hid, szr, szs, List.drop_zero]; (repeat' split) <;> omega
    go_enter Try.func201, Try.ntmps201
    go_wp2
    go_loopw [1, 5] (fun t i wr => ∃ (k : Nat) (lf : Int), k ≤ l.length ∧ 0 ≤ lf ∧ lf ≤ 1048576 ∧ i = .int .i64 k ∧ t = .int .i64 lf ∧ Hid (szr (szL TCoreArm.sz (l.drop k)) lf = szr (szs TCoreArm.sz l) left) ∧ Below w.heap.size w wr) (fun _ i _ => l.length - (intOf i).toNat)
    case atStart => exact ⟨0, _, Nat.zero_le _, by omega, by omega, rfl, rfl, Hg, Below.refl _ _⟩
    case round =>
      clear Hg
      obtain ⟨k, lf, hk, hl0, hl1, rfl, rfl, Hs, hB⟩ := hrel
      by_cases hlt : k < l.length
      · obtain ⟨b, off, rfl, hKb, cs, hcs, hr⟩ := hE k hlt
        have hr' := Rep.ext hB hK hr
        have hcs' := hcs.ext hB (hK b hKb)
        have hK' : ∀ b, K b → b < wr.heap.size := fun b h => Nat.lt_of_lt_of_le (hK b h) hB.size
        have Hd : Hid (l.drop k = l[k] :: l.drop (k + 1)) := List.drop_eq_getElem_cons hlt
        clear hE hcs hr
        have hi : (Try.prog.info? 308).map (·.size) = some cs.length := by rw [Rep.length _ _ hr', TCoreArm.width]; exact infoS308
        have hmem : l[k] ∈ l := List.getElem_mem hlt
        generalize l[k] = x at *
        go_wp2_with (with_reducible refine ld rfl 308 _ rfl b _ rfl cs hcs' _ Try.underlying308 hi ?_)
        refine (iSzCoreArm x (by have := List.sizeOf_lt_of_mem hmem; omega) _ K hK' _ hr' lf hl0 hl1).mono ?_
        rintro e w1 ⟨rfl, hB1⟩
        have hB2 := hB.trans (hB1.mono hB.size)
        by_cases h3 : (x.sz : Int) ≤ lf
        · rw [szr_le h3]
          go_wp2
          go_roundw
          case rel =>
            refine ⟨k + 1, lf - (x.sz : Int), hlt, by omega, by omega, by go_num, rfl, ?_, hB2⟩
            have e := Hs.out
            rw [Hd.out] at e
            unfold Hid
            rw [← e]
            simp only [szr, szL]
            (repeat' split) <;> omega
          case measure => simp [intOf]; omega
        · rw [szr_gt h3]
          have e := Hs.out
          rw [Hd.out] at e
          have hf : szr (szs TCoreArm.sz l) left = -1 := by
            rw [← e]; simp only [szr, szL]; (repeat' split) <;> omega
          have Hf := Lib.hid hf
          clear hf e
          go_wp2
          go_ret
          exact ⟨by rw [Hf.out]; rfl, hB2⟩
      · obtain rfl : k = l.length := by omega
        go_wp2
        go_ret
        refine ⟨?_, hB⟩
        rw [← Hs.out]
        simp [szr, szL, hl0]
  · have Hf : Hid (szr (szs TCoreArm.sz l) left = -1) := by
      simp only [Hid, szr, szs]; (repeat' split) <;> omega
    go_enter Try.func201, Try.ntmps201
    go_wp2
    go_ret
    exact ⟨by rw [Hf.out]; rfl, Below.refl _ _⟩
set_option maxRecDepth 100000 in
set_option maxHeartbeats 1000000 in
theorem stepSzCore (N : Nat) (_iSzCoreArm : SzCoreArm N) (iSzCoreArmS : SzCoreArmS N) (_iSzCore : SzCore N) (iSzCoreS : SzCoreS N) : SzCore (N + 1) := by
  intro x hN w K hK cs h left h0 h1
  obtain ⟨c4, c5, c6, c7, c8, c9, c10, rfl, hKind, hTrait, hName, hN, hType, hTypeArgs, hEvidence, hArgs, hArms⟩ := TCore.opn h
  clear h
  clear hKind
  unfold maxLen at hTrait
  unfold maxLen at hName
  clear hN
  have hW : Below w.heap.size w (w.alloc (.cells #[.int .i64 x.fKind, .string x.fTrait, .string x.fName, .int .i64 x.fN, c4, c5, c6, c7, c8, c9, c10] 213)) := (Below.refl _ _).alloc (Nat.le_refl _) _
  have hx : Below (w.heap.size + 1) (w.alloc (.cells #[.int .i64 x.fKind, .string x.fTrait, .string x.fName, .int .i64 x.fN, c4, c5, c6, c7, c8, c9, c10] 213)) (w.alloc (.cells #[.int .i64 x.fKind, .string x.fTrait, .string x.fName, .int .i64 x.fN, c4, c5, c6, c7, c8, c9, c10] 213)) := Below.refl _ _
  go_enter Try.func172, Try.ntmps172
  by_cases g0 : ((x.fTrait.size : Nat) : Int) ≤ left
  · skip
    by_cases g1 : ((x.fName.size : Nat) : Int) ≤ left - ((x.fTrait.size : Nat) : Int)
    · skip
      go_wp2_with fail
      refine (szType_c x.fType _ K (fun b hb => Nat.lt_of_lt_of_le (hK b hb) hW.size) _ (Rep.ext hW hK hType) _ (by omega) (by omega)).mono ?_
      rintro e w2 ⟨rfl, hB2⟩
      have hx2 : Below (w.heap.size + 1) (w.alloc (.cells #[.int .i64 x.fKind, .string x.fTrait, .string x.fName, .int .i64 x.fN, c4, c5, c6, c7, c8, c9, c10] 213)) w2 := hx.trans (hB2.mono (by have := hx.size; simp at this ⊢ <;> omega))
      have hb2 : Below w.heap.size w w2 := hW.trans (hx2.mono (Nat.le_succ _))
      have hc2 := (bcell hx2).1
      by_cases g2 : ((TType.sz x.fType : Nat) : Int) ≤ left - ((x.fTrait.size : Nat) : Int) - ((x.fName.size : Nat) : Int)
      · rw [szr_le g2]
        go_wp2_with fail
        refine (szTypeS_c x.fTypeArgs _ K (fun b hb => Nat.lt_of_lt_of_le (hK b hb) hb2.size) _ (Rep.ext hb2 hK hTypeArgs) _ (by omega) (by omega)).mono ?_
        rintro e w3 ⟨rfl, hB3⟩
        have hx3 : Below (w.heap.size + 1) (w.alloc (.cells #[.int .i64 x.fKind, .string x.fTrait, .string x.fName, .int .i64 x.fN, c4, c5, c6, c7, c8, c9, c10] 213)) w3 := hx2.trans (hB3.mono (by have := hx2.size; simp at this ⊢ <;> omega))
        have hb3 : Below w.heap.size w w3 := hW.trans (hx3.mono (Nat.le_succ _))
        have hc3 := (bcell hx3).1
        by_cases g3 : ((szs TType.sz x.fTypeArgs : Nat) : Int) ≤ left - ((x.fTrait.size : Nat) : Int) - ((x.fName.size : Nat) : Int) - ((TType.sz x.fType : Nat) : Int)
        · rw [szr_le g3]
          go_wp2_with fail
          refine (szEvidenceS_c x.fEvidence _ K (fun b hb => Nat.lt_of_lt_of_le (hK b hb) hb3.size) _ (Rep.ext hb3 hK hEvidence) _ (by omega) (by omega)).mono ?_
          rintro e w4 ⟨rfl, hB4⟩
          have hx4 : Below (w.heap.size + 1) (w.alloc (.cells #[.int .i64 x.fKind, .string x.fTrait, .string x.fName, .int .i64 x.fN, c4, c5, c6, c7, c8, c9, c10] 213)) w4 := hx3.trans (hB4.mono (by have := hx3.size; simp at this ⊢ <;> omega))
          have hb4 : Below w.heap.size w w4 := hW.trans (hx4.mono (Nat.le_succ _))
          have hc4 := (bcell hx4).1
          by_cases g4 : ((szs TEvidence.sz x.fEvidence : Nat) : Int) ≤ left - ((x.fTrait.size : Nat) : Int) - ((x.fName.size : Nat) : Int) - ((TType.sz x.fType : Nat) : Int) - ((szs TType.sz x.fTypeArgs : Nat) : Int)
          · rw [szr_le g4]
            go_wp2_with fail
            refine (iSzCoreS x.fArgs (by have := TCore.lt_fArgs x; omega) _ K (fun b hb => Nat.lt_of_lt_of_le (hK b hb) hb4.size) _ (Rep.ext hb4 hK hArgs) _ (by omega) (by omega)).mono ?_
            rintro e w5 ⟨rfl, hB5⟩
            have hx5 : Below (w.heap.size + 1) (w.alloc (.cells #[.int .i64 x.fKind, .string x.fTrait, .string x.fName, .int .i64 x.fN, c4, c5, c6, c7, c8, c9, c10] 213)) w5 := hx4.trans (hB5.mono (by have := hx4.size; simp at this ⊢ <;> omega))
            have hb5 : Below w.heap.size w w5 := hW.trans (hx5.mono (Nat.le_succ _))
            have hc5 := (bcell hx5).1
            by_cases g5 : ((szs TCore.sz x.fArgs : Nat) : Int) ≤ left - ((x.fTrait.size : Nat) : Int) - ((x.fName.size : Nat) : Int) - ((TType.sz x.fType : Nat) : Int) - ((szs TType.sz x.fTypeArgs : Nat) : Int) - ((szs TEvidence.sz x.fEvidence : Nat) : Int)
            · rw [szr_le g5]
              go_wp2_with fail
              refine (iSzCoreArmS x.fArms (by have := TCore.lt_fArms x; omega) _ K (fun b hb => Nat.lt_of_lt_of_le (hK b hb) hb5.size) _ (Rep.ext hb5 hK hArms) _ (by omega) (by omega)).mono ?_
              rintro e w6 ⟨rfl, hB6⟩
              have hx6 : Below (w.heap.size + 1) (w.alloc (.cells #[.int .i64 x.fKind, .string x.fTrait, .string x.fName, .int .i64 x.fN, c4, c5, c6, c7, c8, c9, c10] 213)) w6 := hx5.trans (hB6.mono (by have := hx5.size; simp at this ⊢ <;> omega))
              have hb6 : Below w.heap.size w w6 := hW.trans (hx6.mono (Nat.le_succ _))
              have hc6 := (bcell hx6).1
              by_cases g6 : ((szs TCoreArm.sz x.fArms : Nat) : Int) ≤ left - ((x.fTrait.size : Nat) : Int) - ((x.fName.size : Nat) : Int) - ((TType.sz x.fType : Nat) : Int) - ((szs TType.sz x.fTypeArgs : Nat) : Int) - ((szs TEvidence.sz x.fEvidence : Nat) : Int) - ((szs TCore.sz x.fArgs : Nat) : Int)
              · rw [szr_le g6]
                go_wp2
                go_ret
                exact ⟨ret_int (by rw [TCore.sz_eq]; unfold szr; (repeat' split) <;> omega), hb6⟩
              · rw [szr_gt g6]
                go_wp2
                go_ret
                exact ⟨ret_int (by rw [TCore.sz_eq]; unfold szr; (repeat' split) <;> omega), hb6⟩
            · rw [szr_gt g5]
              go_wp2
              go_ret
              exact ⟨ret_int (by rw [TCore.sz_eq]; unfold szr; (repeat' split) <;> omega), hb5⟩
          · rw [szr_gt g4]
            go_wp2
            go_ret
            exact ⟨ret_int (by rw [TCore.sz_eq]; unfold szr; (repeat' split) <;> omega), hb4⟩
        · rw [szr_gt g3]
          go_wp2
          go_ret
          exact ⟨ret_int (by rw [TCore.sz_eq]; unfold szr; (repeat' split) <;> omega), hb3⟩
      · rw [szr_gt g2]
        go_wp2
        go_ret
        exact ⟨ret_int (by rw [TCore.sz_eq]; unfold szr; (repeat' split) <;> omega), hb2⟩
    · go_wp2
      go_ret
      exact ⟨ret_int (by rw [TCore.sz_eq]; unfold szr; (repeat' split) <;> omega), hW⟩
  · go_wp2
    go_ret
    exact ⟨ret_int (by rw [TCore.sz_eq]; unfold szr; (repeat' split) <;> omega), hW⟩
set_option maxRecDepth 100000 in
set_option maxHeartbeats 1000000 in
theorem stepSzCoreS (N : Nat) (_iSzCoreArm : SzCoreArm N) (_iSzCoreArmS : SzCoreArmS N) (iSzCore : SzCore N) (_iSzCoreS : SzCoreS N) : SzCoreS (N + 1) := by
  intro l hN w K hK v h left h0 h1
  obtain ⟨a, cap, rfl, hc, hm, -, hE⟩ := open_sl TCore.width h
  unfold maxLen at hm
  clear h
  by_cases h2 : (l.length : Int) ≤ left
  · have Hg : Hid (szr (szL TCore.sz (l.drop 0)) (left - l.length) = szr (szs TCore.sz l) left) := by
      simp only [Hid, szr, szs, List.drop_zero]; (repeat' split) <;> omega
    go_enter Try.func200, Try.ntmps200
    go_wp2
    go_loopw [1, 5] (fun t i wr => ∃ (k : Nat) (lf : Int), k ≤ l.length ∧ 0 ≤ lf ∧ lf ≤ 1048576 ∧ i = .int .i64 k ∧ t = .int .i64 lf ∧ Hid (szr (szL TCore.sz (l.drop k)) lf = szr (szs TCore.sz l) left) ∧ Below w.heap.size w wr) (fun _ i _ => l.length - (intOf i).toNat)
    case atStart => exact ⟨0, _, Nat.zero_le _, by omega, by omega, rfl, rfl, Hg, Below.refl _ _⟩
    case round =>
      clear Hg
      obtain ⟨k, lf, hk, hl0, hl1, rfl, rfl, Hs, hB⟩ := hrel
      by_cases hlt : k < l.length
      · obtain ⟨b, off, rfl, hKb, cs, hcs, hr⟩ := hE k hlt
        have hr' := Rep.ext hB hK hr
        have hcs' := hcs.ext hB (hK b hKb)
        have hK' : ∀ b, K b → b < wr.heap.size := fun b h => Nat.lt_of_lt_of_le (hK b h) hB.size
        have Hd : Hid (l.drop k = l[k] :: l.drop (k + 1)) := List.drop_eq_getElem_cons hlt
        clear hE hcs hr
        have hi : (Try.prog.info? 213).map (·.size) = some cs.length := by rw [Rep.length _ _ hr', TCore.width]; exact infoS213
        have hmem : l[k] ∈ l := List.getElem_mem hlt
        generalize l[k] = x at *
        go_wp2_with (with_reducible refine ld rfl 213 _ rfl b _ rfl cs hcs' _ Try.underlying213 hi ?_)
        refine (iSzCore x (by have := List.sizeOf_lt_of_mem hmem; omega) _ K hK' _ hr' lf hl0 hl1).mono ?_
        rintro e w1 ⟨rfl, hB1⟩
        have hB2 := hB.trans (hB1.mono hB.size)
        by_cases h3 : (x.sz : Int) ≤ lf
        · rw [szr_le h3]
          go_wp2
          go_roundw
          case rel =>
            refine ⟨k + 1, lf - (x.sz : Int), hlt, by omega, by omega, by go_num, rfl, ?_, hB2⟩
            have e := Hs.out
            rw [Hd.out] at e
            unfold Hid
            rw [← e]
            simp only [szr, szL]
            (repeat' split) <;> omega
          case measure => simp [intOf]; omega
        · rw [szr_gt h3]
          have e := Hs.out
          rw [Hd.out] at e
          have hf : szr (szs TCore.sz l) left = -1 := by
            rw [← e]; simp only [szr, szL]; (repeat' split) <;> omega
          have Hf := Lib.hid hf
          clear hf e
          go_wp2
          go_ret
          exact ⟨by rw [Hf.out]; rfl, hB2⟩
      · obtain rfl : k = l.length := by omega
        go_wp2
        go_ret
        refine ⟨?_, hB⟩
        rw [← Hs.out]
        simp [szr, szL, hl0]
  · have Hf : Hid (szr (szs TCore.sz l) left = -1) := by
      simp only [Hid, szr, szs]; (repeat' split) <;> omega
    go_enter Try.func200, Try.ntmps200
    go_wp2
    go_ret
    exact ⟨by rw [Hf.out]; rfl, Below.refl _ _⟩
theorem szCoreArmCore_all : ∀ N : Nat, SzCoreArm N ∧ SzCoreArmS N ∧ SzCore N ∧ SzCoreS N
  | 0 => ⟨fun _ h => absurd h (Nat.not_lt_zero _), fun _ h => absurd h (Nat.not_lt_zero _), fun _ h => absurd h (Nat.not_lt_zero _), fun _ h => absurd h (Nat.not_lt_zero _)⟩
  | N + 1 => by
    obtain ⟨i0, i1, i2, i3⟩ := szCoreArmCore_all N
    exact ⟨stepSzCoreArm N i0 i1 i2 i3, stepSzCoreArmS N i0 i1 i2 i3, stepSzCore N i0 i1 i2 i3, stepSzCoreS N i0 i1 i2 i3⟩
theorem szCoreArm_c (x : TCoreArm) : ∀ (w : World) (K : Nat → Prop) (_ : ∀ b, K b → b < w.heap.size) (cs : List Value) (_ : Rep w K x.enc cs) (left : Int) (_ : 0 ≤ left) (_ : left ≤ 1048576),
    Calls Try.prog 215 #[.agg cs.toArray, .int .i64 left] w fun e w' => e = .returned (.int .i64 (szr x.sz left)) ∧ Below w.heap.size w w' := (szCoreArmCore_all (SizeOf.sizeOf x + 1)).1 x (Nat.lt_succ_self _)
theorem szCoreArmS_c (l : List TCoreArm) : ∀ (w : World) (K : Nat → Prop) (_ : ∀ b, K b → b < w.heap.size) (v : Value) (_ : Rep w K (.sl (l.map TCoreArm.enc)) [v]) (left : Int) (_ : 0 ≤ left) (_ : left ≤ 1048576),
    Calls Try.prog 201 #[v, .int .i64 left] w fun e w' => e = .returned (.int .i64 (szr (szs TCoreArm.sz l) left)) ∧ Below w.heap.size w w' := (szCoreArmCore_all (SizeOf.sizeOf l + 1)).2.1 l (Nat.lt_succ_self _)
theorem szCore_c (x : TCore) : ∀ (w : World) (K : Nat → Prop) (_ : ∀ b, K b → b < w.heap.size) (cs : List Value) (_ : Rep w K x.enc cs) (left : Int) (_ : 0 ≤ left) (_ : left ≤ 1048576),
    Calls Try.prog 172 #[.agg cs.toArray, .int .i64 left] w fun e w' => e = .returned (.int .i64 (szr x.sz left)) ∧ Below w.heap.size w w' := (szCoreArmCore_all (SizeOf.sizeOf x + 1)).2.2.1 x (Nat.lt_succ_self _)
theorem szCoreS_c (l : List TCore) : ∀ (w : World) (K : Nat → Prop) (_ : ∀ b, K b → b < w.heap.size) (v : Value) (_ : Rep w K (.sl (l.map TCore.enc)) [v]) (left : Int) (_ : 0 ≤ left) (_ : left ≤ 1048576),
    Calls Try.prog 200 #[v, .int .i64 left] w fun e w' => e = .returned (.int .i64 (szr (szs TCore.sz l) left)) ∧ Below w.heap.size w w' := (szCoreArmCore_all (SizeOf.sizeOf l + 1)).2.2.2 l (Nat.lt_succ_self _)
set_option maxRecDepth 100000 in
set_option maxHeartbeats 1000000 in
theorem szMethodTable_c (x : TMethodTable) : ∀ (w : World) (K : Nat → Prop) (_ : ∀ b, K b → b < w.heap.size) (cs : List Value) (_ : Rep w K x.enc cs) (left : Int) (_ : 0 ≤ left) (_ : left ≤ 1048576),
    Calls Try.prog 103 #[.agg cs.toArray, .int .i64 left] w fun e w' => e = .returned (.int .i64 (szr x.sz left)) ∧ Below w.heap.size w w' := by
  intro w K hK cs h left h0 h1
  obtain ⟨c1, c2, c3, c4, rfl, hTrait, hType, hEntries⟩ := TMethodTable.opn h
  clear h
  unfold maxLen at hTrait
  have hW : Below w.heap.size w (w.alloc (.cells #[.string x.fTrait, c1, c2, c3, c4] 195)) := (Below.refl _ _).alloc (Nat.le_refl _) _
  have hx : Below (w.heap.size + 1) (w.alloc (.cells #[.string x.fTrait, c1, c2, c3, c4] 195)) (w.alloc (.cells #[.string x.fTrait, c1, c2, c3, c4] 195)) := Below.refl _ _
  go_enter Try.func103, Try.ntmps103
  by_cases g0 : ((x.fTrait.size : Nat) : Int) ≤ left
  · skip
    go_wp2_with fail
    refine (szType_c x.fType _ K (fun b hb => Nat.lt_of_lt_of_le (hK b hb) hW.size) _ (Rep.ext hW hK hType) _ (by omega) (by omega)).mono ?_
    rintro e w1 ⟨rfl, hB1⟩
    have hx1 : Below (w.heap.size + 1) (w.alloc (.cells #[.string x.fTrait, c1, c2, c3, c4] 195)) w1 := hx.trans (hB1.mono (by have := hx.size; simp at this ⊢ <;> omega))
    have hb1 : Below w.heap.size w w1 := hW.trans (hx1.mono (Nat.le_succ _))
    have hc1 := (bcell hx1).1
    by_cases g1 : ((TType.sz x.fType : Nat) : Int) ≤ left - ((x.fTrait.size : Nat) : Int)
    · rw [szr_le g1]
      go_wp2_with fail
      refine (szMethodEntryS_c x.fEntries _ K (fun b hb => Nat.lt_of_lt_of_le (hK b hb) hb1.size) _ (Rep.ext hb1 hK hEntries) _ (by omega) (by omega)).mono ?_
      rintro e w2 ⟨rfl, hB2⟩
      have hx2 : Below (w.heap.size + 1) (w.alloc (.cells #[.string x.fTrait, c1, c2, c3, c4] 195)) w2 := hx1.trans (hB2.mono (by have := hx1.size; simp at this ⊢ <;> omega))
      have hb2 : Below w.heap.size w w2 := hW.trans (hx2.mono (Nat.le_succ _))
      have hc2 := (bcell hx2).1
      by_cases g2 : ((szs TMethodEntry.sz x.fEntries : Nat) : Int) ≤ left - ((x.fTrait.size : Nat) : Int) - ((TType.sz x.fType : Nat) : Int)
      · rw [szr_le g2]
        go_wp2
        go_ret
        exact ⟨ret_int (by rw [TMethodTable.sz_eq]; unfold szr; (repeat' split) <;> omega), hb2⟩
      · rw [szr_gt g2]
        go_wp2
        go_ret
        exact ⟨ret_int (by rw [TMethodTable.sz_eq]; unfold szr; (repeat' split) <;> omega), hb2⟩
    · rw [szr_gt g1]
      go_wp2
      go_ret
      exact ⟨ret_int (by rw [TMethodTable.sz_eq]; unfold szr; (repeat' split) <;> omega), hb1⟩
  · go_wp2
    go_ret
    exact ⟨ret_int (by rw [TMethodTable.sz_eq]; unfold szr; (repeat' split) <;> omega), hW⟩
theorem infoS195 : (Try.prog.info? 195).map (·.size) = some 5 := by kernel_rfl
set_option maxRecDepth 100000 in
set_option maxHeartbeats 1000000 in
theorem szMethodTableS_c (l : List TMethodTable) : ∀ (w : World) (K : Nat → Prop) (_ : ∀ b, K b → b < w.heap.size) (v : Value) (_ : Rep w K (.sl (l.map TMethodTable.enc)) [v]) (left : Int) (_ : 0 ≤ left) (_ : left ≤ 1048576),
    Calls Try.prog 56 #[v, .int .i64 left] w fun e w' => e = .returned (.int .i64 (szr (szs TMethodTable.sz l) left)) ∧ Below w.heap.size w w' := by
  intro w K hK v h left h0 h1
  obtain ⟨a, cap, rfl, hc, hm, -, hE⟩ := open_sl TMethodTable.width h
  unfold maxLen at hm
  clear h
  by_cases h2 : (l.length : Int) ≤ left
  · have Hg : Hid (szr (szL TMethodTable.sz (l.drop 0)) (left - l.length) = szr (szs TMethodTable.sz l) left) := by
      simp only [Hid, szr, szs, List.drop_zero]; (repeat' split) <;> omega
    go_enter Try.func56, Try.ntmps56
    go_wp2
    go_loopw [1, 5] (fun t i wr => ∃ (k : Nat) (lf : Int), k ≤ l.length ∧ 0 ≤ lf ∧ lf ≤ 1048576 ∧ i = .int .i64 k ∧ t = .int .i64 lf ∧ Hid (szr (szL TMethodTable.sz (l.drop k)) lf = szr (szs TMethodTable.sz l) left) ∧ Below w.heap.size w wr) (fun _ i _ => l.length - (intOf i).toNat)
    case atStart => exact ⟨0, _, Nat.zero_le _, by omega, by omega, rfl, rfl, Hg, Below.refl _ _⟩
    case round =>
      clear Hg
      obtain ⟨k, lf, hk, hl0, hl1, rfl, rfl, Hs, hB⟩ := hrel
      by_cases hlt : k < l.length
      · obtain ⟨b, off, rfl, hKb, cs, hcs, hr⟩ := hE k hlt
        have hr' := Rep.ext hB hK hr
        have hcs' := hcs.ext hB (hK b hKb)
        have hK' : ∀ b, K b → b < wr.heap.size := fun b h => Nat.lt_of_lt_of_le (hK b h) hB.size
        have Hd : Hid (l.drop k = l[k] :: l.drop (k + 1)) := List.drop_eq_getElem_cons hlt
        clear hE hcs hr
        have hi : (Try.prog.info? 195).map (·.size) = some cs.length := by rw [Rep.length _ _ hr', TMethodTable.width]; exact infoS195
        have hmem : l[k] ∈ l := List.getElem_mem hlt
        generalize l[k] = x at *
        go_wp2_with (with_reducible refine ld rfl 195 _ rfl b _ rfl cs hcs' _ Try.underlying195 hi ?_)
        refine (szMethodTable_c x _ K hK' _ hr' lf hl0 hl1).mono ?_
        rintro e w1 ⟨rfl, hB1⟩
        have hB2 := hB.trans (hB1.mono hB.size)
        by_cases h3 : (x.sz : Int) ≤ lf
        · rw [szr_le h3]
          go_wp2
          go_roundw
          case rel =>
            refine ⟨k + 1, lf - (x.sz : Int), hlt, by omega, by omega, by go_num, rfl, ?_, hB2⟩
            have e := Hs.out
            rw [Hd.out] at e
            unfold Hid
            rw [← e]
            simp only [szr, szL]
            (repeat' split) <;> omega
          case measure => simp [intOf]; omega
        · rw [szr_gt h3]
          have e := Hs.out
          rw [Hd.out] at e
          have hf : szr (szs TMethodTable.sz l) left = -1 := by
            rw [← e]; simp only [szr, szL]; (repeat' split) <;> omega
          have Hf := Lib.hid hf
          clear hf e
          go_wp2
          go_ret
          exact ⟨by rw [Hf.out]; rfl, hB2⟩
      · obtain rfl : k = l.length := by omega
        go_wp2
        go_ret
        refine ⟨?_, hB⟩
        rw [← Hs.out]
        simp [szr, szL, hl0]
  · have Hf : Hid (szr (szs TMethodTable.sz l) left = -1) := by
      simp only [Hid, szr, szs]; (repeat' split) <;> omega
    go_enter Try.func56, Try.ntmps56
    go_wp2
    go_ret
    exact ⟨by rw [Hf.out]; rfl, Below.refl _ _⟩
set_option maxRecDepth 100000 in
set_option maxHeartbeats 1000000 in
theorem szMachine_c (x : TMachine) : ∀ (w : World) (K : Nat → Prop) (_ : ∀ b, K b → b < w.heap.size) (cs : List Value) (_ : Rep w K x.enc cs) (left : Int) (_ : 0 ≤ left) (_ : left ≤ 1048576),
    Calls Try.prog 17 #[.agg cs.toArray, .int .i64 left] w fun e w' => e = .returned (.int .i64 (szr x.sz left)) ∧ Below w.heap.size w w' := by
  intro w K hK cs h left h0 h1
  obtain ⟨c0, c1, rfl, hCodes, hTables⟩ := TMachine.opn h
  clear h
  have hW : Below w.heap.size w (w.alloc (.cells #[c0, c1] 47)) := (Below.refl _ _).alloc (Nat.le_refl _) _
  have hx : Below (w.heap.size + 1) (w.alloc (.cells #[c0, c1] 47)) (w.alloc (.cells #[c0, c1] 47)) := Below.refl _ _
  go_enter Try.func17, Try.ntmps17
  go_wp2_with fail
  refine (szCodeS_c x.fCodes _ K (fun b hb => Nat.lt_of_lt_of_le (hK b hb) hW.size) _ (Rep.ext hW hK hCodes) _ (by omega) (by omega)).mono ?_
  rintro e w0 ⟨rfl, hB0⟩
  have hx0 : Below (w.heap.size + 1) (w.alloc (.cells #[c0, c1] 47)) w0 := hx.trans (hB0.mono (by have := hx.size; simp at this ⊢ <;> omega))
  have hb0 : Below w.heap.size w w0 := hW.trans (hx0.mono (Nat.le_succ _))
  have hc0 := (bcell hx0).1
  by_cases g0 : ((szs TCode.sz x.fCodes : Nat) : Int) ≤ left
  · rw [szr_le g0]
    go_wp2_with fail
    refine (szMethodTableS_c x.fTables _ K (fun b hb => Nat.lt_of_lt_of_le (hK b hb) hb0.size) _ (Rep.ext hb0 hK hTables) _ (by omega) (by omega)).mono ?_
    rintro e w1 ⟨rfl, hB1⟩
    have hx1 : Below (w.heap.size + 1) (w.alloc (.cells #[c0, c1] 47)) w1 := hx0.trans (hB1.mono (by have := hx0.size; simp at this ⊢ <;> omega))
    have hb1 : Below w.heap.size w w1 := hW.trans (hx1.mono (Nat.le_succ _))
    have hc1 := (bcell hx1).1
    by_cases g1 : ((szs TMethodTable.sz x.fTables : Nat) : Int) ≤ left - ((szs TCode.sz x.fCodes : Nat) : Int)
    · rw [szr_le g1]
      go_wp2
      go_ret
      exact ⟨ret_int (by rw [TMachine.sz_eq]; unfold szr; (repeat' split) <;> omega), hb1⟩
    · rw [szr_gt g1]
      go_wp2
      go_ret
      exact ⟨ret_int (by rw [TMachine.sz_eq]; unfold szr; (repeat' split) <;> omega), hb1⟩
  · rw [szr_gt g0]
    go_wp2
    go_ret
    exact ⟨ret_int (by rw [TMachine.sz_eq]; unfold szr; (repeat' split) <;> omega), hb0⟩
set_option maxRecDepth 100000 in
set_option maxHeartbeats 1000000 in
theorem szParam_c (x : TParam) : ∀ (w : World) (K : Nat → Prop) (_ : ∀ b, K b → b < w.heap.size) (cs : List Value) (_ : Rep w K x.enc cs) (left : Int) (_ : 0 ≤ left) (_ : left ≤ 1048576),
    Calls Try.prog 221 #[.agg cs.toArray, .int .i64 left] w fun e w' => e = .returned (.int .i64 (szr x.sz left)) ∧ Below w.heap.size w w' := by
  intro w K hK cs h left h0 h1
  obtain ⟨c1, c2, c3, rfl, hName, hType⟩ := TParam.opn h
  clear h
  unfold maxLen at hName
  have hW : Below w.heap.size w (w.alloc (.cells #[.string x.fName, c1, c2, c3] 316)) := (Below.refl _ _).alloc (Nat.le_refl _) _
  have hx : Below (w.heap.size + 1) (w.alloc (.cells #[.string x.fName, c1, c2, c3] 316)) (w.alloc (.cells #[.string x.fName, c1, c2, c3] 316)) := Below.refl _ _
  go_enter Try.func221, Try.ntmps221
  by_cases g0 : ((x.fName.size : Nat) : Int) ≤ left
  · skip
    go_wp2_with fail
    refine (szType_c x.fType _ K (fun b hb => Nat.lt_of_lt_of_le (hK b hb) hW.size) _ (Rep.ext hW hK hType) _ (by omega) (by omega)).mono ?_
    rintro e w1 ⟨rfl, hB1⟩
    have hx1 : Below (w.heap.size + 1) (w.alloc (.cells #[.string x.fName, c1, c2, c3] 316)) w1 := hx.trans (hB1.mono (by have := hx.size; simp at this ⊢ <;> omega))
    have hb1 : Below w.heap.size w w1 := hW.trans (hx1.mono (Nat.le_succ _))
    have hc1 := (bcell hx1).1
    by_cases g1 : ((TType.sz x.fType : Nat) : Int) ≤ left - ((x.fName.size : Nat) : Int)
    · rw [szr_le g1]
      go_wp2
      go_ret
      exact ⟨ret_int (by rw [TParam.sz_eq]; unfold szr; (repeat' split) <;> omega), hb1⟩
    · rw [szr_gt g1]
      go_wp2
      go_ret
      exact ⟨ret_int (by rw [TParam.sz_eq]; unfold szr; (repeat' split) <;> omega), hb1⟩
  · go_wp2
    go_ret
    exact ⟨ret_int (by rw [TParam.sz_eq]; unfold szr; (repeat' split) <;> omega), hW⟩
theorem infoS316 : (Try.prog.info? 316).map (·.size) = some 4 := by kernel_rfl
set_option maxRecDepth 100000 in
set_option maxHeartbeats 1000000 in
theorem szParamS_c (l : List TParam) : ∀ (w : World) (K : Nat → Prop) (_ : ∀ b, K b → b < w.heap.size) (v : Value) (_ : Rep w K (.sl (l.map TParam.enc)) [v]) (left : Int) (_ : 0 ≤ left) (_ : left ≤ 1048576),
    Calls Try.prog 209 #[v, .int .i64 left] w fun e w' => e = .returned (.int .i64 (szr (szs TParam.sz l) left)) ∧ Below w.heap.size w w' := by
  intro w K hK v h left h0 h1
  obtain ⟨a, cap, rfl, hc, hm, -, hE⟩ := open_sl TParam.width h
  unfold maxLen at hm
  clear h
  by_cases h2 : (l.length : Int) ≤ left
  · have Hg : Hid (szr (szL TParam.sz (l.drop 0)) (left - l.length) = szr (szs TParam.sz l) left) := by
      simp only [Hid, szr, szs, List.drop_zero]; (repeat' split) <;> omega
    go_enter Try.func209, Try.ntmps209
    go_wp2
    go_loopw [1, 5] (fun t i wr => ∃ (k : Nat) (lf : Int), k ≤ l.length ∧ 0 ≤ lf ∧ lf ≤ 1048576 ∧ i = .int .i64 k ∧ t = .int .i64 lf ∧ Hid (szr (szL TParam.sz (l.drop k)) lf = szr (szs TParam.sz l) left) ∧ Below w.heap.size w wr) (fun _ i _ => l.length - (intOf i).toNat)
    case atStart => exact ⟨0, _, Nat.zero_le _, by omega, by omega, rfl, rfl, Hg, Below.refl _ _⟩
    case round =>
      clear Hg
      obtain ⟨k, lf, hk, hl0, hl1, rfl, rfl, Hs, hB⟩ := hrel
      by_cases hlt : k < l.length
      · obtain ⟨b, off, rfl, hKb, cs, hcs, hr⟩ := hE k hlt
        have hr' := Rep.ext hB hK hr
        have hcs' := hcs.ext hB (hK b hKb)
        have hK' : ∀ b, K b → b < wr.heap.size := fun b h => Nat.lt_of_lt_of_le (hK b h) hB.size
        have Hd : Hid (l.drop k = l[k] :: l.drop (k + 1)) := List.drop_eq_getElem_cons hlt
        clear hE hcs hr
        have hi : (Try.prog.info? 316).map (·.size) = some cs.length := by rw [Rep.length _ _ hr', TParam.width]; exact infoS316
        have hmem : l[k] ∈ l := List.getElem_mem hlt
        generalize l[k] = x at *
        go_wp2_with (with_reducible refine ld rfl 316 _ rfl b _ rfl cs hcs' _ Try.underlying316 hi ?_)
        refine (szParam_c x _ K hK' _ hr' lf hl0 hl1).mono ?_
        rintro e w1 ⟨rfl, hB1⟩
        have hB2 := hB.trans (hB1.mono hB.size)
        by_cases h3 : (x.sz : Int) ≤ lf
        · rw [szr_le h3]
          go_wp2
          go_roundw
          case rel =>
            refine ⟨k + 1, lf - (x.sz : Int), hlt, by omega, by omega, by go_num, rfl, ?_, hB2⟩
            have e := Hs.out
            rw [Hd.out] at e
            unfold Hid
            rw [← e]
            simp only [szr, szL]
            (repeat' split) <;> omega
          case measure => simp [intOf]; omega
        · rw [szr_gt h3]
          have e := Hs.out
          rw [Hd.out] at e
          have hf : szr (szs TParam.sz l) left = -1 := by
            rw [← e]; simp only [szr, szL]; (repeat' split) <;> omega
          have Hf := Lib.hid hf
          clear hf e
          go_wp2
          go_ret
          exact ⟨by rw [Hf.out]; rfl, hB2⟩
      · obtain rfl : k = l.length := by omega
        go_wp2
        go_ret
        refine ⟨?_, hB⟩
        rw [← Hs.out]
        simp [szr, szL, hl0]
  · have Hf : Hid (szr (szs TParam.sz l) left = -1) := by
      simp only [Hid, szr, szs]; (repeat' split) <;> omega
    go_enter Try.func209, Try.ntmps209
    go_wp2
    go_ret
    exact ⟨by rw [Hf.out]; rfl, Below.refl _ _⟩
set_option maxRecDepth 100000 in
set_option maxHeartbeats 1000000 in
theorem szSpecialization_c (x : TSpecialization) : ∀ (w : World) (K : Nat → Prop) (_ : ∀ b, K b → b < w.heap.size) (cs : List Value) (_ : Rep w K x.enc cs) (left : Int) (_ : 0 ≤ left) (_ : left ≤ 1048576),
    Calls Try.prog 116 #[.agg cs.toArray, .int .i64 left] w fun e w' => e = .returned (.int .i64 (szr x.sz left)) ∧ Below w.heap.size w w' := by
  intro w K hK cs h left h0 h1
  obtain ⟨c1, c2, c3, c4, c5, c6, c7, c8, c9, c10, c11, c12, c13, rfl, hUnit, hTypeArgs, hParams, hBody⟩ := TSpecialization.opn h
  clear h
  clear hUnit
  have hW : Below w.heap.size w (w.alloc (.cells #[.int .i64 x.fUnit, c1, c2, c3, c4, c5, c6, c7, c8, c9, c10, c11, c12, c13] 215)) := (Below.refl _ _).alloc (Nat.le_refl _) _
  have hx : Below (w.heap.size + 1) (w.alloc (.cells #[.int .i64 x.fUnit, c1, c2, c3, c4, c5, c6, c7, c8, c9, c10, c11, c12, c13] 215)) (w.alloc (.cells #[.int .i64 x.fUnit, c1, c2, c3, c4, c5, c6, c7, c8, c9, c10, c11, c12, c13] 215)) := Below.refl _ _
  go_enter Try.func116, Try.ntmps116
  go_wp2_with fail
  refine (szTypeS_c x.fTypeArgs _ K (fun b hb => Nat.lt_of_lt_of_le (hK b hb) hW.size) _ (Rep.ext hW hK hTypeArgs) _ (by omega) (by omega)).mono ?_
  rintro e w0 ⟨rfl, hB0⟩
  have hx0 : Below (w.heap.size + 1) (w.alloc (.cells #[.int .i64 x.fUnit, c1, c2, c3, c4, c5, c6, c7, c8, c9, c10, c11, c12, c13] 215)) w0 := hx.trans (hB0.mono (by have := hx.size; simp at this ⊢ <;> omega))
  have hb0 : Below w.heap.size w w0 := hW.trans (hx0.mono (Nat.le_succ _))
  have hc0 := (bcell hx0).1
  by_cases g0 : ((szs TType.sz x.fTypeArgs : Nat) : Int) ≤ left
  · rw [szr_le g0]
    go_wp2_with fail
    refine (szStringS_c x.fParams _ K (fun b hb => Nat.lt_of_lt_of_le (hK b hb) hb0.size) _ (Rep.ext hb0 hK hParams) _ (by omega) (by omega)).mono ?_
    rintro e w1 ⟨rfl, hB1⟩
    have hx1 : Below (w.heap.size + 1) (w.alloc (.cells #[.int .i64 x.fUnit, c1, c2, c3, c4, c5, c6, c7, c8, c9, c10, c11, c12, c13] 215)) w1 := hx0.trans (hB1.mono (by have := hx0.size; simp at this ⊢ <;> omega))
    have hb1 : Below w.heap.size w w1 := hW.trans (hx1.mono (Nat.le_succ _))
    have hc1 := (bcell hx1).1
    by_cases g1 : ((szs ByteArray.size x.fParams : Nat) : Int) ≤ left - ((szs TType.sz x.fTypeArgs : Nat) : Int)
    · rw [szr_le g1]
      go_wp2_with fail
      refine (szCore_c x.fBody _ K (fun b hb => Nat.lt_of_lt_of_le (hK b hb) hb1.size) _ (Rep.ext hb1 hK hBody) _ (by omega) (by omega)).mono ?_
      rintro e w2 ⟨rfl, hB2⟩
      have hx2 : Below (w.heap.size + 1) (w.alloc (.cells #[.int .i64 x.fUnit, c1, c2, c3, c4, c5, c6, c7, c8, c9, c10, c11, c12, c13] 215)) w2 := hx1.trans (hB2.mono (by have := hx1.size; simp at this ⊢ <;> omega))
      have hb2 : Below w.heap.size w w2 := hW.trans (hx2.mono (Nat.le_succ _))
      have hc2 := (bcell hx2).1
      by_cases g2 : ((TCore.sz x.fBody : Nat) : Int) ≤ left - ((szs TType.sz x.fTypeArgs : Nat) : Int) - ((szs ByteArray.size x.fParams : Nat) : Int)
      · rw [szr_le g2]
        go_wp2
        go_ret
        exact ⟨ret_int (by rw [TSpecialization.sz_eq]; unfold szr; (repeat' split) <;> omega), hb2⟩
      · rw [szr_gt g2]
        go_wp2
        go_ret
        exact ⟨ret_int (by rw [TSpecialization.sz_eq]; unfold szr; (repeat' split) <;> omega), hb2⟩
    · rw [szr_gt g1]
      go_wp2
      go_ret
      exact ⟨ret_int (by rw [TSpecialization.sz_eq]; unfold szr; (repeat' split) <;> omega), hb1⟩
  · rw [szr_gt g0]
    go_wp2
    go_ret
    exact ⟨ret_int (by rw [TSpecialization.sz_eq]; unfold szr; (repeat' split) <;> omega), hb0⟩
theorem infoS215 : (Try.prog.info? 215).map (·.size) = some 14 := by kernel_rfl
set_option maxRecDepth 100000 in
set_option maxHeartbeats 1000000 in
theorem szSpecializationS_c (l : List TSpecialization) : ∀ (w : World) (K : Nat → Prop) (_ : ∀ b, K b → b < w.heap.size) (v : Value) (_ : Rep w K (.sl (l.map TSpecialization.enc)) [v]) (left : Int) (_ : 0 ≤ left) (_ : left ≤ 1048576),
    Calls Try.prog 75 #[v, .int .i64 left] w fun e w' => e = .returned (.int .i64 (szr (szs TSpecialization.sz l) left)) ∧ Below w.heap.size w w' := by
  intro w K hK v h left h0 h1
  obtain ⟨a, cap, rfl, hc, hm, -, hE⟩ := open_sl TSpecialization.width h
  unfold maxLen at hm
  clear h
  by_cases h2 : (l.length : Int) ≤ left
  · have Hg : Hid (szr (szL TSpecialization.sz (l.drop 0)) (left - l.length) = szr (szs TSpecialization.sz l) left) := by
      simp only [Hid, szr, szs, List.drop_zero]; (repeat' split) <;> omega
    go_enter Try.func75, Try.ntmps75
    go_wp2
    go_loopw [1, 5] (fun t i wr => ∃ (k : Nat) (lf : Int), k ≤ l.length ∧ 0 ≤ lf ∧ lf ≤ 1048576 ∧ i = .int .i64 k ∧ t = .int .i64 lf ∧ Hid (szr (szL TSpecialization.sz (l.drop k)) lf = szr (szs TSpecialization.sz l) left) ∧ Below w.heap.size w wr) (fun _ i _ => l.length - (intOf i).toNat)
    case atStart => exact ⟨0, _, Nat.zero_le _, by omega, by omega, rfl, rfl, Hg, Below.refl _ _⟩
    case round =>
      clear Hg
      obtain ⟨k, lf, hk, hl0, hl1, rfl, rfl, Hs, hB⟩ := hrel
      by_cases hlt : k < l.length
      · obtain ⟨b, off, rfl, hKb, cs, hcs, hr⟩ := hE k hlt
        have hr' := Rep.ext hB hK hr
        have hcs' := hcs.ext hB (hK b hKb)
        have hK' : ∀ b, K b → b < wr.heap.size := fun b h => Nat.lt_of_lt_of_le (hK b h) hB.size
        have Hd : Hid (l.drop k = l[k] :: l.drop (k + 1)) := List.drop_eq_getElem_cons hlt
        clear hE hcs hr
        have hi : (Try.prog.info? 215).map (·.size) = some cs.length := by rw [Rep.length _ _ hr', TSpecialization.width]; exact infoS215
        have hmem : l[k] ∈ l := List.getElem_mem hlt
        generalize l[k] = x at *
        go_wp2_with (with_reducible refine ld rfl 215 _ rfl b _ rfl cs hcs' _ Try.underlying215 hi ?_)
        refine (szSpecialization_c x _ K hK' _ hr' lf hl0 hl1).mono ?_
        rintro e w1 ⟨rfl, hB1⟩
        have hB2 := hB.trans (hB1.mono hB.size)
        by_cases h3 : (x.sz : Int) ≤ lf
        · rw [szr_le h3]
          go_wp2
          go_roundw
          case rel =>
            refine ⟨k + 1, lf - (x.sz : Int), hlt, by omega, by omega, by go_num, rfl, ?_, hB2⟩
            have e := Hs.out
            rw [Hd.out] at e
            unfold Hid
            rw [← e]
            simp only [szr, szL]
            (repeat' split) <;> omega
          case measure => simp [intOf]; omega
        · rw [szr_gt h3]
          have e := Hs.out
          rw [Hd.out] at e
          have hf : szr (szs TSpecialization.sz l) left = -1 := by
            rw [← e]; simp only [szr, szL]; (repeat' split) <;> omega
          have Hf := Lib.hid hf
          clear hf e
          go_wp2
          go_ret
          exact ⟨by rw [Hf.out]; rfl, hB2⟩
      · obtain rfl : k = l.length := by omega
        go_wp2
        go_ret
        refine ⟨?_, hB⟩
        rw [← Hs.out]
        simp [szr, szL, hl0]
  · have Hf : Hid (szr (szs TSpecialization.sz l) left = -1) := by
      simp only [Hid, szr, szs]; (repeat' split) <;> omega
    go_enter Try.func75, Try.ntmps75
    go_wp2
    go_ret
    exact ⟨by rw [Hf.out]; rfl, Below.refl _ _⟩
set_option maxRecDepth 100000 in
set_option maxHeartbeats 1000000 in
theorem szMonoProgram_c (x : TMonoProgram) : ∀ (w : World) (K : Nat → Prop) (_ : ∀ b, K b → b < w.heap.size) (cs : List Value) (_ : Rep w K x.enc cs) (left : Int) (_ : 0 ≤ left) (_ : left ≤ 1048576),
    Calls Try.prog 29 #[.agg cs.toArray, .int .i64 left] w fun e w' => e = .returned (.int .i64 (szr x.sz left)) ∧ Below w.heap.size w w' := by
  intro w K hK cs h left h0 h1
  obtain ⟨c0, c1, rfl, hSpecializations, hTables⟩ := TMonoProgram.opn h
  clear h
  have hW : Below w.heap.size w (w.alloc (.cells #[c0, c1] 65)) := (Below.refl _ _).alloc (Nat.le_refl _) _
  have hx : Below (w.heap.size + 1) (w.alloc (.cells #[c0, c1] 65)) (w.alloc (.cells #[c0, c1] 65)) := Below.refl _ _
  go_enter Try.func29, Try.ntmps29
  go_wp2_with fail
  refine (szSpecializationS_c x.fSpecializations _ K (fun b hb => Nat.lt_of_lt_of_le (hK b hb) hW.size) _ (Rep.ext hW hK hSpecializations) _ (by omega) (by omega)).mono ?_
  rintro e w0 ⟨rfl, hB0⟩
  have hx0 : Below (w.heap.size + 1) (w.alloc (.cells #[c0, c1] 65)) w0 := hx.trans (hB0.mono (by have := hx.size; simp at this ⊢ <;> omega))
  have hb0 : Below w.heap.size w w0 := hW.trans (hx0.mono (Nat.le_succ _))
  have hc0 := (bcell hx0).1
  by_cases g0 : ((szs TSpecialization.sz x.fSpecializations : Nat) : Int) ≤ left
  · rw [szr_le g0]
    go_wp2_with fail
    refine (szMethodTableS_c x.fTables _ K (fun b hb => Nat.lt_of_lt_of_le (hK b hb) hb0.size) _ (Rep.ext hb0 hK hTables) _ (by omega) (by omega)).mono ?_
    rintro e w1 ⟨rfl, hB1⟩
    have hx1 : Below (w.heap.size + 1) (w.alloc (.cells #[c0, c1] 65)) w1 := hx0.trans (hB1.mono (by have := hx0.size; simp at this ⊢ <;> omega))
    have hb1 : Below w.heap.size w w1 := hW.trans (hx1.mono (Nat.le_succ _))
    have hc1 := (bcell hx1).1
    by_cases g1 : ((szs TMethodTable.sz x.fTables : Nat) : Int) ≤ left - ((szs TSpecialization.sz x.fSpecializations : Nat) : Int)
    · rw [szr_le g1]
      go_wp2
      go_ret
      exact ⟨ret_int (by rw [TMonoProgram.sz_eq]; unfold szr; (repeat' split) <;> omega), hb1⟩
    · rw [szr_gt g1]
      go_wp2
      go_ret
      exact ⟨ret_int (by rw [TMonoProgram.sz_eq]; unfold szr; (repeat' split) <;> omega), hb1⟩
  · rw [szr_gt g0]
    go_wp2
    go_ret
    exact ⟨ret_int (by rw [TMonoProgram.sz_eq]; unfold szr; (repeat' split) <;> omega), hb0⟩
set_option maxRecDepth 100000 in
set_option maxHeartbeats 1000000 in
theorem szUnit_c (x : TUnit) : ∀ (w : World) (K : Nat → Prop) (_ : ∀ b, K b → b < w.heap.size) (cs : List Value) (_ : Rep w K x.enc cs) (left : Int) (_ : 0 ≤ left) (_ : left ≤ 1048576),
    Calls Try.prog 179 #[.agg cs.toArray, .int .i64 left] w fun e w' => e = .returned (.int .i64 (szr x.sz left)) ∧ Below w.heap.size w w' := by
  intro w K hK cs h left h0 h1
  obtain ⟨c4, c5, c6, c7, c8, c9, c10, c11, c12, c13, c14, c15, c16, c17, c18, c19, c20, rfl, hKind, hPackage, hAt, hSub, hVars, hWhere, hParams, hResult, hBody⟩ := TUnit.opn h
  clear h
  clear hKind
  clear hPackage
  clear hAt
  clear hSub
  have hW : Below w.heap.size w (w.alloc (.cells #[.int .i64 x.fKind, .int .i64 x.fPackage, .int .i64 x.fAt, .int .i64 x.fSub, c4, c5, c6, c7, c8, c9, c10, c11, c12, c13, c14, c15, c16, c17, c18, c19, c20] 272)) := (Below.refl _ _).alloc (Nat.le_refl _) _
  have hx : Below (w.heap.size + 1) (w.alloc (.cells #[.int .i64 x.fKind, .int .i64 x.fPackage, .int .i64 x.fAt, .int .i64 x.fSub, c4, c5, c6, c7, c8, c9, c10, c11, c12, c13, c14, c15, c16, c17, c18, c19, c20] 272)) (w.alloc (.cells #[.int .i64 x.fKind, .int .i64 x.fPackage, .int .i64 x.fAt, .int .i64 x.fSub, c4, c5, c6, c7, c8, c9, c10, c11, c12, c13, c14, c15, c16, c17, c18, c19, c20] 272)) := Below.refl _ _
  go_enter Try.func179, Try.ntmps179
  go_wp2_with fail
  refine (szStringS_c x.fVars _ K (fun b hb => Nat.lt_of_lt_of_le (hK b hb) hW.size) _ (Rep.ext hW hK hVars) _ (by omega) (by omega)).mono ?_
  rintro e w0 ⟨rfl, hB0⟩
  have hx0 : Below (w.heap.size + 1) (w.alloc (.cells #[.int .i64 x.fKind, .int .i64 x.fPackage, .int .i64 x.fAt, .int .i64 x.fSub, c4, c5, c6, c7, c8, c9, c10, c11, c12, c13, c14, c15, c16, c17, c18, c19, c20] 272)) w0 := hx.trans (hB0.mono (by have := hx.size; simp at this ⊢ <;> omega))
  have hb0 : Below w.heap.size w w0 := hW.trans (hx0.mono (Nat.le_succ _))
  have hc0 := (bcell hx0).1
  by_cases g0 : ((szs ByteArray.size x.fVars : Nat) : Int) ≤ left
  · rw [szr_le g0]
    go_wp2_with fail
    refine (szBoundS_c x.fWhere _ K (fun b hb => Nat.lt_of_lt_of_le (hK b hb) hb0.size) _ (Rep.ext hb0 hK hWhere) _ (by omega) (by omega)).mono ?_
    rintro e w1 ⟨rfl, hB1⟩
    have hx1 : Below (w.heap.size + 1) (w.alloc (.cells #[.int .i64 x.fKind, .int .i64 x.fPackage, .int .i64 x.fAt, .int .i64 x.fSub, c4, c5, c6, c7, c8, c9, c10, c11, c12, c13, c14, c15, c16, c17, c18, c19, c20] 272)) w1 := hx0.trans (hB1.mono (by have := hx0.size; simp at this ⊢ <;> omega))
    have hb1 : Below w.heap.size w w1 := hW.trans (hx1.mono (Nat.le_succ _))
    have hc1 := (bcell hx1).1
    by_cases g1 : ((szs TBound.sz x.fWhere : Nat) : Int) ≤ left - ((szs ByteArray.size x.fVars : Nat) : Int)
    · rw [szr_le g1]
      go_wp2_with fail
      refine (szParamS_c x.fParams _ K (fun b hb => Nat.lt_of_lt_of_le (hK b hb) hb1.size) _ (Rep.ext hb1 hK hParams) _ (by omega) (by omega)).mono ?_
      rintro e w2 ⟨rfl, hB2⟩
      have hx2 : Below (w.heap.size + 1) (w.alloc (.cells #[.int .i64 x.fKind, .int .i64 x.fPackage, .int .i64 x.fAt, .int .i64 x.fSub, c4, c5, c6, c7, c8, c9, c10, c11, c12, c13, c14, c15, c16, c17, c18, c19, c20] 272)) w2 := hx1.trans (hB2.mono (by have := hx1.size; simp at this ⊢ <;> omega))
      have hb2 : Below w.heap.size w w2 := hW.trans (hx2.mono (Nat.le_succ _))
      have hc2 := (bcell hx2).1
      by_cases g2 : ((szs TParam.sz x.fParams : Nat) : Int) ≤ left - ((szs ByteArray.size x.fVars : Nat) : Int) - ((szs TBound.sz x.fWhere : Nat) : Int)
      · rw [szr_le g2]
        go_wp2_with fail
        refine (szType_c x.fResult _ K (fun b hb => Nat.lt_of_lt_of_le (hK b hb) hb2.size) _ (Rep.ext hb2 hK hResult) _ (by omega) (by omega)).mono ?_
        rintro e w3 ⟨rfl, hB3⟩
        have hx3 : Below (w.heap.size + 1) (w.alloc (.cells #[.int .i64 x.fKind, .int .i64 x.fPackage, .int .i64 x.fAt, .int .i64 x.fSub, c4, c5, c6, c7, c8, c9, c10, c11, c12, c13, c14, c15, c16, c17, c18, c19, c20] 272)) w3 := hx2.trans (hB3.mono (by have := hx2.size; simp at this ⊢ <;> omega))
        have hb3 : Below w.heap.size w w3 := hW.trans (hx3.mono (Nat.le_succ _))
        have hc3 := (bcell hx3).1
        by_cases g3 : ((TType.sz x.fResult : Nat) : Int) ≤ left - ((szs ByteArray.size x.fVars : Nat) : Int) - ((szs TBound.sz x.fWhere : Nat) : Int) - ((szs TParam.sz x.fParams : Nat) : Int)
        · rw [szr_le g3]
          go_wp2_with fail
          refine (szCore_c x.fBody _ K (fun b hb => Nat.lt_of_lt_of_le (hK b hb) hb3.size) _ (Rep.ext hb3 hK hBody) _ (by omega) (by omega)).mono ?_
          rintro e w4 ⟨rfl, hB4⟩
          have hx4 : Below (w.heap.size + 1) (w.alloc (.cells #[.int .i64 x.fKind, .int .i64 x.fPackage, .int .i64 x.fAt, .int .i64 x.fSub, c4, c5, c6, c7, c8, c9, c10, c11, c12, c13, c14, c15, c16, c17, c18, c19, c20] 272)) w4 := hx3.trans (hB4.mono (by have := hx3.size; simp at this ⊢ <;> omega))
          have hb4 : Below w.heap.size w w4 := hW.trans (hx4.mono (Nat.le_succ _))
          have hc4 := (bcell hx4).1
          by_cases g4 : ((TCore.sz x.fBody : Nat) : Int) ≤ left - ((szs ByteArray.size x.fVars : Nat) : Int) - ((szs TBound.sz x.fWhere : Nat) : Int) - ((szs TParam.sz x.fParams : Nat) : Int) - ((TType.sz x.fResult : Nat) : Int)
          · rw [szr_le g4]
            go_wp2
            go_ret
            exact ⟨ret_int (by rw [TUnit.sz_eq]; unfold szr; (repeat' split) <;> omega), hb4⟩
          · rw [szr_gt g4]
            go_wp2
            go_ret
            exact ⟨ret_int (by rw [TUnit.sz_eq]; unfold szr; (repeat' split) <;> omega), hb4⟩
        · rw [szr_gt g3]
          go_wp2
          go_ret
          exact ⟨ret_int (by rw [TUnit.sz_eq]; unfold szr; (repeat' split) <;> omega), hb3⟩
      · rw [szr_gt g2]
        go_wp2
        go_ret
        exact ⟨ret_int (by rw [TUnit.sz_eq]; unfold szr; (repeat' split) <;> omega), hb2⟩
    · rw [szr_gt g1]
      go_wp2
      go_ret
      exact ⟨ret_int (by rw [TUnit.sz_eq]; unfold szr; (repeat' split) <;> omega), hb1⟩
  · rw [szr_gt g0]
    go_wp2
    go_ret
    exact ⟨ret_int (by rw [TUnit.sz_eq]; unfold szr; (repeat' split) <;> omega), hb0⟩
theorem infoS272 : (Try.prog.info? 272).map (·.size) = some 21 := by kernel_rfl
set_option maxRecDepth 100000 in
set_option maxHeartbeats 1000000 in
theorem szUnitS_c (l : List TUnit) : ∀ (w : World) (K : Nat → Prop) (_ : ∀ b, K b → b < w.heap.size) (v : Value) (_ : Rep w K (.sl (l.map TUnit.enc)) [v]) (left : Int) (_ : 0 ≤ left) (_ : left ≤ 1048576),
    Calls Try.prog 137 #[v, .int .i64 left] w fun e w' => e = .returned (.int .i64 (szr (szs TUnit.sz l) left)) ∧ Below w.heap.size w w' := by
  intro w K hK v h left h0 h1
  obtain ⟨a, cap, rfl, hc, hm, -, hE⟩ := open_sl TUnit.width h
  unfold maxLen at hm
  clear h
  by_cases h2 : (l.length : Int) ≤ left
  · have Hg : Hid (szr (szL TUnit.sz (l.drop 0)) (left - l.length) = szr (szs TUnit.sz l) left) := by
      simp only [Hid, szr, szs, List.drop_zero]; (repeat' split) <;> omega
    go_enter Try.func137, Try.ntmps137
    go_wp2
    go_loopw [1, 5] (fun t i wr => ∃ (k : Nat) (lf : Int), k ≤ l.length ∧ 0 ≤ lf ∧ lf ≤ 1048576 ∧ i = .int .i64 k ∧ t = .int .i64 lf ∧ Hid (szr (szL TUnit.sz (l.drop k)) lf = szr (szs TUnit.sz l) left) ∧ Below w.heap.size w wr) (fun _ i _ => l.length - (intOf i).toNat)
    case atStart => exact ⟨0, _, Nat.zero_le _, by omega, by omega, rfl, rfl, Hg, Below.refl _ _⟩
    case round =>
      clear Hg
      obtain ⟨k, lf, hk, hl0, hl1, rfl, rfl, Hs, hB⟩ := hrel
      by_cases hlt : k < l.length
      · obtain ⟨b, off, rfl, hKb, cs, hcs, hr⟩ := hE k hlt
        have hr' := Rep.ext hB hK hr
        have hcs' := hcs.ext hB (hK b hKb)
        have hK' : ∀ b, K b → b < wr.heap.size := fun b h => Nat.lt_of_lt_of_le (hK b h) hB.size
        have Hd : Hid (l.drop k = l[k] :: l.drop (k + 1)) := List.drop_eq_getElem_cons hlt
        clear hE hcs hr
        have hi : (Try.prog.info? 272).map (·.size) = some cs.length := by rw [Rep.length _ _ hr', TUnit.width]; exact infoS272
        have hmem : l[k] ∈ l := List.getElem_mem hlt
        generalize l[k] = x at *
        go_wp2_with (with_reducible refine ld rfl 272 _ rfl b _ rfl cs hcs' _ Try.underlying272 hi ?_)
        refine (szUnit_c x _ K hK' _ hr' lf hl0 hl1).mono ?_
        rintro e w1 ⟨rfl, hB1⟩
        have hB2 := hB.trans (hB1.mono hB.size)
        by_cases h3 : (x.sz : Int) ≤ lf
        · rw [szr_le h3]
          go_wp2
          go_roundw
          case rel =>
            refine ⟨k + 1, lf - (x.sz : Int), hlt, by omega, by omega, by go_num, rfl, ?_, hB2⟩
            have e := Hs.out
            rw [Hd.out] at e
            unfold Hid
            rw [← e]
            simp only [szr, szL]
            (repeat' split) <;> omega
          case measure => simp [intOf]; omega
        · rw [szr_gt h3]
          have e := Hs.out
          rw [Hd.out] at e
          have hf : szr (szs TUnit.sz l) left = -1 := by
            rw [← e]; simp only [szr, szL]; (repeat' split) <;> omega
          have Hf := Lib.hid hf
          clear hf e
          go_wp2
          go_ret
          exact ⟨by rw [Hf.out]; rfl, hB2⟩
      · obtain rfl : k = l.length := by omega
        go_wp2
        go_ret
        refine ⟨?_, hB⟩
        rw [← Hs.out]
        simp [szr, szL, hl0]
  · have Hf : Hid (szr (szs TUnit.sz l) left = -1) := by
      simp only [Hid, szr, szs]; (repeat' split) <;> omega
    go_enter Try.func137, Try.ntmps137
    go_wp2
    go_ret
    exact ⟨by rw [Hf.out]; rfl, Below.refl _ _⟩
theorem infoS276 : (Try.prog.info? 276).map (·.size) = some 6 := by kernel_rfl
set_option maxRecDepth 100000 in
set_option maxHeartbeats 1000000 in
theorem szUnitErrorS_c (l : List TUnitError) : ∀ (w : World) (K : Nat → Prop) (_ : ∀ b, K b → b < w.heap.size) (v : Value) (_ : Rep w K (.sl (l.map TUnitError.enc)) [v]) (left : Int) (_ : 0 ≤ left) (_ : left ≤ 1048576),
    Calls Try.prog 138 #[v, .int .i64 left] w fun e w' => e = .returned (.int .i64 (szr (szs (fun _ => 0) l) left)) ∧ Below w.heap.size w w' := by
  intro w K hK v h left h0 h1
  obtain ⟨a, cap, rfl, hc, hm, -, hE⟩ := open_sl TUnitError.width h
  unfold maxLen at hm
  clear h
  by_cases h2 : (l.length : Int) ≤ left
  · go_enter Try.func138, Try.ntmps138
    go_wp2
    go_ret
    exact ⟨ret_int (by have := szL_zero l; unfold szr szs; (repeat' split) <;> omega), Below.refl _ _⟩
  · have Hf : Hid (szr (szs (fun _ => 0) l) left = -1) := by
      simp only [Hid, szr, szs]; (repeat' split) <;> omega
    go_enter Try.func138, Try.ntmps138
    go_wp2
    go_ret
    exact ⟨by rw [Hf.out]; rfl, Below.refl _ _⟩
set_option maxRecDepth 100000 in
set_option maxHeartbeats 1000000 in
theorem szBuiltPackage_c (x : TBuiltPackage) : ∀ (w : World) (K : Nat → Prop) (_ : ∀ b, K b → b < w.heap.size) (cs : List Value) (_ : Rep w K x.enc cs) (left : Int) (_ : 0 ≤ left) (_ : left ≤ 1048576),
    Calls Try.prog 92 #[.agg cs.toArray, .int .i64 left] w fun e w' => e = .returned (.int .i64 (szr x.sz left)) ∧ Below w.heap.size w w' := by
  intro w K hK cs h left h0 h1
  obtain ⟨c2, c3, rfl, hName, hKey, hUnits, hErrors⟩ := TBuiltPackage.opn h
  clear h
  unfold maxLen at hName
  unfold maxLen at hKey
  have hW : Below w.heap.size w (w.alloc (.cells #[.string x.fName, .string x.fKey, c2, c3] 172)) := (Below.refl _ _).alloc (Nat.le_refl _) _
  have hx : Below (w.heap.size + 1) (w.alloc (.cells #[.string x.fName, .string x.fKey, c2, c3] 172)) (w.alloc (.cells #[.string x.fName, .string x.fKey, c2, c3] 172)) := Below.refl _ _
  go_enter Try.func92, Try.ntmps92
  by_cases g0 : ((x.fName.size : Nat) : Int) ≤ left
  · skip
    by_cases g1 : ((x.fKey.size : Nat) : Int) ≤ left - ((x.fName.size : Nat) : Int)
    · skip
      go_wp2_with fail
      refine (szUnitS_c x.fUnits _ K (fun b hb => Nat.lt_of_lt_of_le (hK b hb) hW.size) _ (Rep.ext hW hK hUnits) _ (by omega) (by omega)).mono ?_
      rintro e w2 ⟨rfl, hB2⟩
      have hx2 : Below (w.heap.size + 1) (w.alloc (.cells #[.string x.fName, .string x.fKey, c2, c3] 172)) w2 := hx.trans (hB2.mono (by have := hx.size; simp at this ⊢ <;> omega))
      have hb2 : Below w.heap.size w w2 := hW.trans (hx2.mono (Nat.le_succ _))
      have hc2 := (bcell hx2).1
      by_cases g2 : ((szs TUnit.sz x.fUnits : Nat) : Int) ≤ left - ((x.fName.size : Nat) : Int) - ((x.fKey.size : Nat) : Int)
      · rw [szr_le g2]
        go_wp2_with fail
        refine (szUnitErrorS_c x.fErrors _ K (fun b hb => Nat.lt_of_lt_of_le (hK b hb) hb2.size) _ (Rep.ext hb2 hK hErrors) _ (by omega) (by omega)).mono ?_
        rintro e w3 ⟨rfl, hB3⟩
        have hx3 : Below (w.heap.size + 1) (w.alloc (.cells #[.string x.fName, .string x.fKey, c2, c3] 172)) w3 := hx2.trans (hB3.mono (by have := hx2.size; simp at this ⊢ <;> omega))
        have hb3 : Below w.heap.size w w3 := hW.trans (hx3.mono (Nat.le_succ _))
        have hc3 := (bcell hx3).1
        by_cases g3 : ((szs (fun _ => 0) x.fErrors : Nat) : Int) ≤ left - ((x.fName.size : Nat) : Int) - ((x.fKey.size : Nat) : Int) - ((szs TUnit.sz x.fUnits : Nat) : Int)
        · rw [szr_le g3]
          go_wp2
          go_ret
          exact ⟨ret_int (by rw [TBuiltPackage.sz_eq]; unfold szr; (repeat' split) <;> omega), hb3⟩
        · rw [szr_gt g3]
          go_wp2
          go_ret
          exact ⟨ret_int (by rw [TBuiltPackage.sz_eq]; unfold szr; (repeat' split) <;> omega), hb3⟩
      · rw [szr_gt g2]
        go_wp2
        go_ret
        exact ⟨ret_int (by rw [TBuiltPackage.sz_eq]; unfold szr; (repeat' split) <;> omega), hb2⟩
    · go_wp2
      go_ret
      exact ⟨ret_int (by rw [TBuiltPackage.sz_eq]; unfold szr; (repeat' split) <;> omega), hW⟩
  · go_wp2
    go_ret
    exact ⟨ret_int (by rw [TBuiltPackage.sz_eq]; unfold szr; (repeat' split) <;> omega), hW⟩
theorem infoS172 : (Try.prog.info? 172).map (·.size) = some 4 := by kernel_rfl
set_option maxRecDepth 100000 in
set_option maxHeartbeats 1000000 in
theorem szBuiltPackageS_c (l : List TBuiltPackage) : ∀ (w : World) (K : Nat → Prop) (_ : ∀ b, K b → b < w.heap.size) (v : Value) (_ : Rep w K (.sl (l.map TBuiltPackage.enc)) [v]) (left : Int) (_ : 0 ≤ left) (_ : left ≤ 1048576),
    Calls Try.prog 46 #[v, .int .i64 left] w fun e w' => e = .returned (.int .i64 (szr (szs TBuiltPackage.sz l) left)) ∧ Below w.heap.size w w' := by
  intro w K hK v h left h0 h1
  obtain ⟨a, cap, rfl, hc, hm, -, hE⟩ := open_sl TBuiltPackage.width h
  unfold maxLen at hm
  clear h
  by_cases h2 : (l.length : Int) ≤ left
  · have Hg : Hid (szr (szL TBuiltPackage.sz (l.drop 0)) (left - l.length) = szr (szs TBuiltPackage.sz l) left) := by
      simp only [Hid, szr, szs, List.drop_zero]; (repeat' split) <;> omega
    go_enter Try.func46, Try.ntmps46
    go_wp2
    go_loopw [1, 5] (fun t i wr => ∃ (k : Nat) (lf : Int), k ≤ l.length ∧ 0 ≤ lf ∧ lf ≤ 1048576 ∧ i = .int .i64 k ∧ t = .int .i64 lf ∧ Hid (szr (szL TBuiltPackage.sz (l.drop k)) lf = szr (szs TBuiltPackage.sz l) left) ∧ Below w.heap.size w wr) (fun _ i _ => l.length - (intOf i).toNat)
    case atStart => exact ⟨0, _, Nat.zero_le _, by omega, by omega, rfl, rfl, Hg, Below.refl _ _⟩
    case round =>
      clear Hg
      obtain ⟨k, lf, hk, hl0, hl1, rfl, rfl, Hs, hB⟩ := hrel
      by_cases hlt : k < l.length
      · obtain ⟨b, off, rfl, hKb, cs, hcs, hr⟩ := hE k hlt
        have hr' := Rep.ext hB hK hr
        have hcs' := hcs.ext hB (hK b hKb)
        have hK' : ∀ b, K b → b < wr.heap.size := fun b h => Nat.lt_of_lt_of_le (hK b h) hB.size
        have Hd : Hid (l.drop k = l[k] :: l.drop (k + 1)) := List.drop_eq_getElem_cons hlt
        clear hE hcs hr
        have hi : (Try.prog.info? 172).map (·.size) = some cs.length := by rw [Rep.length _ _ hr', TBuiltPackage.width]; exact infoS172
        have hmem : l[k] ∈ l := List.getElem_mem hlt
        generalize l[k] = x at *
        go_wp2_with (with_reducible refine ld rfl 172 _ rfl b _ rfl cs hcs' _ Try.underlying172 hi ?_)
        refine (szBuiltPackage_c x _ K hK' _ hr' lf hl0 hl1).mono ?_
        rintro e w1 ⟨rfl, hB1⟩
        have hB2 := hB.trans (hB1.mono hB.size)
        by_cases h3 : (x.sz : Int) ≤ lf
        · rw [szr_le h3]
          go_wp2
          go_roundw
          case rel =>
            refine ⟨k + 1, lf - (x.sz : Int), hlt, by omega, by omega, by go_num, rfl, ?_, hB2⟩
            have e := Hs.out
            rw [Hd.out] at e
            unfold Hid
            rw [← e]
            simp only [szr, szL]
            (repeat' split) <;> omega
          case measure => simp [intOf]; omega
        · rw [szr_gt h3]
          have e := Hs.out
          rw [Hd.out] at e
          have hf : szr (szs TBuiltPackage.sz l) left = -1 := by
            rw [← e]; simp only [szr, szL]; (repeat' split) <;> omega
          have Hf := Lib.hid hf
          clear hf e
          go_wp2
          go_ret
          exact ⟨by rw [Hf.out]; rfl, hB2⟩
      · obtain rfl : k = l.length := by omega
        go_wp2
        go_ret
        refine ⟨?_, hB⟩
        rw [← Hs.out]
        simp [szr, szL, hl0]
  · have Hf : Hid (szr (szs TBuiltPackage.sz l) left = -1) := by
      simp only [Hid, szr, szs]; (repeat' split) <;> omega
    go_enter Try.func46, Try.ntmps46
    go_wp2
    go_ret
    exact ⟨by rw [Hf.out]; rfl, Below.refl _ _⟩
set_option maxRecDepth 100000 in
set_option maxHeartbeats 1000000 in
theorem szBuild_c (x : TBuild) : ∀ (w : World) (K : Nat → Prop) (_ : ∀ b, K b → b < w.heap.size) (cs : List Value) (_ : Rep w K x.enc cs) (left : Int) (_ : 0 ≤ left) (_ : left ≤ 1048576),
    Calls Try.prog 12 #[.agg cs.toArray, .int .i64 left] w fun e w' => e = .returned (.int .i64 (szr x.sz left)) ∧ Below w.heap.size w w' := by
  intro w K hK cs h left h0 h1
  obtain ⟨c0, rfl, hPackages⟩ := TBuild.opn h
  clear h
  have hW : Below w.heap.size w (w.alloc (.cells #[c0] 36)) := (Below.refl _ _).alloc (Nat.le_refl _) _
  have hx : Below (w.heap.size + 1) (w.alloc (.cells #[c0] 36)) (w.alloc (.cells #[c0] 36)) := Below.refl _ _
  go_enter Try.func12, Try.ntmps12
  go_wp2_with fail
  refine (szBuiltPackageS_c x.fPackages _ K (fun b hb => Nat.lt_of_lt_of_le (hK b hb) hW.size) _ (Rep.ext hW hK hPackages) _ (by omega) (by omega)).mono ?_
  rintro e w0 ⟨rfl, hB0⟩
  have hx0 : Below (w.heap.size + 1) (w.alloc (.cells #[c0] 36)) w0 := hx.trans (hB0.mono (by have := hx.size; simp at this ⊢ <;> omega))
  have hb0 : Below w.heap.size w w0 := hW.trans (hx0.mono (Nat.le_succ _))
  have hc0 := (bcell hx0).1
  by_cases g0 : ((szs TBuiltPackage.sz x.fPackages : Nat) : Int) ≤ left
  · rw [szr_le g0]
    go_wp2
    go_ret
    exact ⟨ret_int (by rw [TBuild.sz_eq]; unfold szr; (repeat' split) <;> omega), hb0⟩
  · rw [szr_gt g0]
    go_wp2
    go_ret
    exact ⟨ret_int (by rw [TBuild.sz_eq]; unfold szr; (repeat' split) <;> omega), hb0⟩
theorem infoS119 : (Try.prog.info? 119).map (·.size) = some 9 := by kernel_rfl
def SzValue (N : Nat) : Prop := ∀ (x : TValue), SizeOf.sizeOf x < N → ∀ (w : World) (K : Nat → Prop) (_ : ∀ b, K b → b < w.heap.size) (cs : List Value) (_ : Rep w K x.enc cs) (left : Int) (_ : 0 ≤ left) (_ : left ≤ 1048576),
    Calls Try.prog 57 #[.agg cs.toArray, .int .i64 left] w fun e w' => e = .returned (.int .i64 (szr x.sz left)) ∧ Below w.heap.size w w'
def SzValueS (N : Nat) : Prop := ∀ (l : List TValue), SizeOf.sizeOf l < N → ∀ (w : World) (K : Nat → Prop) (_ : ∀ b, K b → b < w.heap.size) (v : Value) (_ : Rep w K (.sl (l.map TValue.enc)) [v]) (left : Int) (_ : 0 ≤ left) (_ : left ≤ 1048576),
    Calls Try.prog 18 #[v, .int .i64 left] w fun e w' => e = .returned (.int .i64 (szr (szs TValue.sz l) left)) ∧ Below w.heap.size w w'
set_option maxRecDepth 100000 in
set_option maxHeartbeats 1000000 in
theorem stepSzValue (N : Nat) (_iSzValue : SzValue N) (iSzValueS : SzValueS N) : SzValue (N + 1) := by
  intro x hN w K hK cs h left h0 h1
  obtain ⟨c3, c4, c5, c6, c7, c8, rfl, hKind, hN, hName, hDict, hArgs⟩ := TValue.opn h
  clear h
  clear hKind
  clear hN
  unfold maxLen at hName
  have hW : Below w.heap.size w (w.alloc (.cells #[.int .i64 x.fKind, .int .i64 x.fN, .string x.fName, c3, c4, c5, c6, c7, c8] 119)) := (Below.refl _ _).alloc (Nat.le_refl _) _
  have hx : Below (w.heap.size + 1) (w.alloc (.cells #[.int .i64 x.fKind, .int .i64 x.fN, .string x.fName, c3, c4, c5, c6, c7, c8] 119)) (w.alloc (.cells #[.int .i64 x.fKind, .int .i64 x.fN, .string x.fName, c3, c4, c5, c6, c7, c8] 119)) := Below.refl _ _
  go_enter Try.func57, Try.ntmps57
  by_cases g0 : ((x.fName.size : Nat) : Int) ≤ left
  · skip
    go_wp2_with fail
    refine (szDictionary_c x.fDict _ K (fun b hb => Nat.lt_of_lt_of_le (hK b hb) hW.size) _ (Rep.ext hW hK hDict) _ (by omega) (by omega)).mono ?_
    rintro e w1 ⟨rfl, hB1⟩
    have hx1 : Below (w.heap.size + 1) (w.alloc (.cells #[.int .i64 x.fKind, .int .i64 x.fN, .string x.fName, c3, c4, c5, c6, c7, c8] 119)) w1 := hx.trans (hB1.mono (by have := hx.size; simp at this ⊢ <;> omega))
    have hb1 : Below w.heap.size w w1 := hW.trans (hx1.mono (Nat.le_succ _))
    have hc1 := (bcell hx1).1
    by_cases g1 : ((TDictionary.sz x.fDict : Nat) : Int) ≤ left - ((x.fName.size : Nat) : Int)
    · rw [szr_le g1]
      go_wp2_with fail
      refine (iSzValueS x.fArgs (by have := TValue.lt_fArgs x; omega) _ K (fun b hb => Nat.lt_of_lt_of_le (hK b hb) hb1.size) _ (Rep.ext hb1 hK hArgs) _ (by omega) (by omega)).mono ?_
      rintro e w2 ⟨rfl, hB2⟩
      have hx2 : Below (w.heap.size + 1) (w.alloc (.cells #[.int .i64 x.fKind, .int .i64 x.fN, .string x.fName, c3, c4, c5, c6, c7, c8] 119)) w2 := hx1.trans (hB2.mono (by have := hx1.size; simp at this ⊢ <;> omega))
      have hb2 : Below w.heap.size w w2 := hW.trans (hx2.mono (Nat.le_succ _))
      have hc2 := (bcell hx2).1
      by_cases g2 : ((szs TValue.sz x.fArgs : Nat) : Int) ≤ left - ((x.fName.size : Nat) : Int) - ((TDictionary.sz x.fDict : Nat) : Int)
      · rw [szr_le g2]
        go_wp2
        go_ret
        exact ⟨ret_int (by rw [TValue.sz_eq]; unfold szr; (repeat' split) <;> omega), hb2⟩
      · rw [szr_gt g2]
        go_wp2
        go_ret
        exact ⟨ret_int (by rw [TValue.sz_eq]; unfold szr; (repeat' split) <;> omega), hb2⟩
    · rw [szr_gt g1]
      go_wp2
      go_ret
      exact ⟨ret_int (by rw [TValue.sz_eq]; unfold szr; (repeat' split) <;> omega), hb1⟩
  · go_wp2
    go_ret
    exact ⟨ret_int (by rw [TValue.sz_eq]; unfold szr; (repeat' split) <;> omega), hW⟩
set_option maxRecDepth 100000 in
set_option maxHeartbeats 1000000 in
theorem stepSzValueS (N : Nat) (iSzValue : SzValue N) (_iSzValueS : SzValueS N) : SzValueS (N + 1) := by
  intro l hN w K hK v h left h0 h1
  obtain ⟨a, cap, rfl, hc, hm, -, hE⟩ := open_sl TValue.width h
  unfold maxLen at hm
  clear h
  by_cases h2 : (l.length : Int) ≤ left
  · have Hg : Hid (szr (szL TValue.sz (l.drop 0)) (left - l.length) = szr (szs TValue.sz l) left) := by
      simp only [Hid, szr, szs, List.drop_zero]; (repeat' split) <;> omega
    go_enter Try.func18, Try.ntmps18
    go_wp2
    go_loopw [1, 5] (fun t i wr => ∃ (k : Nat) (lf : Int), k ≤ l.length ∧ 0 ≤ lf ∧ lf ≤ 1048576 ∧ i = .int .i64 k ∧ t = .int .i64 lf ∧ Hid (szr (szL TValue.sz (l.drop k)) lf = szr (szs TValue.sz l) left) ∧ Below w.heap.size w wr) (fun _ i _ => l.length - (intOf i).toNat)
    case atStart => exact ⟨0, _, Nat.zero_le _, by omega, by omega, rfl, rfl, Hg, Below.refl _ _⟩
    case round =>
      clear Hg
      obtain ⟨k, lf, hk, hl0, hl1, rfl, rfl, Hs, hB⟩ := hrel
      by_cases hlt : k < l.length
      · obtain ⟨b, off, rfl, hKb, cs, hcs, hr⟩ := hE k hlt
        have hr' := Rep.ext hB hK hr
        have hcs' := hcs.ext hB (hK b hKb)
        have hK' : ∀ b, K b → b < wr.heap.size := fun b h => Nat.lt_of_lt_of_le (hK b h) hB.size
        have Hd : Hid (l.drop k = l[k] :: l.drop (k + 1)) := List.drop_eq_getElem_cons hlt
        clear hE hcs hr
        have hi : (Try.prog.info? 119).map (·.size) = some cs.length := by rw [Rep.length _ _ hr', TValue.width]; exact infoS119
        have hmem : l[k] ∈ l := List.getElem_mem hlt
        generalize l[k] = x at *
        go_wp2_with (with_reducible refine ld rfl 119 _ rfl b _ rfl cs hcs' _ Try.underlying119 hi ?_)
        refine (iSzValue x (by have := List.sizeOf_lt_of_mem hmem; omega) _ K hK' _ hr' lf hl0 hl1).mono ?_
        rintro e w1 ⟨rfl, hB1⟩
        have hB2 := hB.trans (hB1.mono hB.size)
        by_cases h3 : (x.sz : Int) ≤ lf
        · rw [szr_le h3]
          go_wp2
          go_roundw
          case rel =>
            refine ⟨k + 1, lf - (x.sz : Int), hlt, by omega, by omega, by go_num, rfl, ?_, hB2⟩
            have e := Hs.out
            rw [Hd.out] at e
            unfold Hid
            rw [← e]
            simp only [szr, szL]
            (repeat' split) <;> omega
          case measure => simp [intOf]; omega
        · rw [szr_gt h3]
          have e := Hs.out
          rw [Hd.out] at e
          have hf : szr (szs TValue.sz l) left = -1 := by
            rw [← e]; simp only [szr, szL]; (repeat' split) <;> omega
          have Hf := Lib.hid hf
          clear hf e
          go_wp2
          go_ret
          exact ⟨by rw [Hf.out]; rfl, hB2⟩
      · obtain rfl : k = l.length := by omega
        go_wp2
        go_ret
        refine ⟨?_, hB⟩
        rw [← Hs.out]
        simp [szr, szL, hl0]
  · have Hf : Hid (szr (szs TValue.sz l) left = -1) := by
      simp only [Hid, szr, szs]; (repeat' split) <;> omega
    go_enter Try.func18, Try.ntmps18
    go_wp2
    go_ret
    exact ⟨by rw [Hf.out]; rfl, Below.refl _ _⟩
theorem szValue_all : ∀ N : Nat, SzValue N ∧ SzValueS N
  | 0 => ⟨fun _ h => absurd h (Nat.not_lt_zero _), fun _ h => absurd h (Nat.not_lt_zero _)⟩
  | N + 1 => by
    obtain ⟨i0, i1⟩ := szValue_all N
    exact ⟨stepSzValue N i0 i1, stepSzValueS N i0 i1⟩
theorem szValue_c (x : TValue) : ∀ (w : World) (K : Nat → Prop) (_ : ∀ b, K b → b < w.heap.size) (cs : List Value) (_ : Rep w K x.enc cs) (left : Int) (_ : 0 ≤ left) (_ : left ≤ 1048576),
    Calls Try.prog 57 #[.agg cs.toArray, .int .i64 left] w fun e w' => e = .returned (.int .i64 (szr x.sz left)) ∧ Below w.heap.size w w' := (szValue_all (SizeOf.sizeOf x + 1)).1 x (Nat.lt_succ_self _)
theorem szValueS_c (l : List TValue) : ∀ (w : World) (K : Nat → Prop) (_ : ∀ b, K b → b < w.heap.size) (v : Value) (_ : Rep w K (.sl (l.map TValue.enc)) [v]) (left : Int) (_ : 0 ≤ left) (_ : left ≤ 1048576),
    Calls Try.prog 18 #[v, .int .i64 left] w fun e w' => e = .returned (.int .i64 (szr (szs TValue.sz l) left)) ∧ Below w.heap.size w w' := (szValue_all (SizeOf.sizeOf l + 1)).2 l (Nat.lt_succ_self _)
set_option maxRecDepth 100000 in
set_option maxHeartbeats 1000000 in
theorem szFrame_c (x : TFrame) : ∀ (w : World) (K : Nat → Prop) (_ : ∀ b, K b → b < w.heap.size) (cs : List Value) (_ : Rep w K x.enc cs) (left : Int) (_ : 0 ≤ left) (_ : left ≤ 1048576),
    Calls Try.prog 87 #[.agg cs.toArray, .int .i64 left] w fun e w' => e = .returned (.int .i64 (szr x.sz left)) ∧ Below w.heap.size w w' := by
  intro w K hK cs h left h0 h1
  obtain ⟨c3, rfl, hCode, hAt, hBase, hSlots⟩ := TFrame.opn h
  clear h
  clear hCode
  clear hAt
  clear hBase
  have hW : Below w.heap.size w (w.alloc (.cells #[.int .i64 x.fCode, .int .i64 x.fAt, .int .i64 x.fBase, c3] 165)) := (Below.refl _ _).alloc (Nat.le_refl _) _
  have hx : Below (w.heap.size + 1) (w.alloc (.cells #[.int .i64 x.fCode, .int .i64 x.fAt, .int .i64 x.fBase, c3] 165)) (w.alloc (.cells #[.int .i64 x.fCode, .int .i64 x.fAt, .int .i64 x.fBase, c3] 165)) := Below.refl _ _
  go_enter Try.func87, Try.ntmps87
  go_wp2_with fail
  refine (szValueS_c x.fSlots _ K (fun b hb => Nat.lt_of_lt_of_le (hK b hb) hW.size) _ (Rep.ext hW hK hSlots) _ (by omega) (by omega)).mono ?_
  rintro e w0 ⟨rfl, hB0⟩
  have hx0 : Below (w.heap.size + 1) (w.alloc (.cells #[.int .i64 x.fCode, .int .i64 x.fAt, .int .i64 x.fBase, c3] 165)) w0 := hx.trans (hB0.mono (by have := hx.size; simp at this ⊢ <;> omega))
  have hb0 : Below w.heap.size w w0 := hW.trans (hx0.mono (Nat.le_succ _))
  have hc0 := (bcell hx0).1
  by_cases g0 : ((szs TValue.sz x.fSlots : Nat) : Int) ≤ left
  · rw [szr_le g0]
    go_wp2
    go_ret
    exact ⟨ret_int (by rw [TFrame.sz_eq]; unfold szr; (repeat' split) <;> omega), hb0⟩
  · rw [szr_gt g0]
    go_wp2
    go_ret
    exact ⟨ret_int (by rw [TFrame.sz_eq]; unfold szr; (repeat' split) <;> omega), hb0⟩
theorem infoS165 : (Try.prog.info? 165).map (·.size) = some 4 := by kernel_rfl
set_option maxRecDepth 100000 in
set_option maxHeartbeats 1000000 in
theorem szFrameS_c (l : List TFrame) : ∀ (w : World) (K : Nat → Prop) (_ : ∀ b, K b → b < w.heap.size) (v : Value) (_ : Rep w K (.sl (l.map TFrame.enc)) [v]) (left : Int) (_ : 0 ≤ left) (_ : left ≤ 1048576),
    Calls Try.prog 38 #[v, .int .i64 left] w fun e w' => e = .returned (.int .i64 (szr (szs TFrame.sz l) left)) ∧ Below w.heap.size w w' := by
  intro w K hK v h left h0 h1
  obtain ⟨a, cap, rfl, hc, hm, -, hE⟩ := open_sl TFrame.width h
  unfold maxLen at hm
  clear h
  by_cases h2 : (l.length : Int) ≤ left
  · have Hg : Hid (szr (szL TFrame.sz (l.drop 0)) (left - l.length) = szr (szs TFrame.sz l) left) := by
      simp only [Hid, szr, szs, List.drop_zero]; (repeat' split) <;> omega
    go_enter Try.func38, Try.ntmps38
    go_wp2
    go_loopw [1, 5] (fun t i wr => ∃ (k : Nat) (lf : Int), k ≤ l.length ∧ 0 ≤ lf ∧ lf ≤ 1048576 ∧ i = .int .i64 k ∧ t = .int .i64 lf ∧ Hid (szr (szL TFrame.sz (l.drop k)) lf = szr (szs TFrame.sz l) left) ∧ Below w.heap.size w wr) (fun _ i _ => l.length - (intOf i).toNat)
    case atStart => exact ⟨0, _, Nat.zero_le _, by omega, by omega, rfl, rfl, Hg, Below.refl _ _⟩
    case round =>
      clear Hg
      obtain ⟨k, lf, hk, hl0, hl1, rfl, rfl, Hs, hB⟩ := hrel
      by_cases hlt : k < l.length
      · obtain ⟨b, off, rfl, hKb, cs, hcs, hr⟩ := hE k hlt
        have hr' := Rep.ext hB hK hr
        have hcs' := hcs.ext hB (hK b hKb)
        have hK' : ∀ b, K b → b < wr.heap.size := fun b h => Nat.lt_of_lt_of_le (hK b h) hB.size
        have Hd : Hid (l.drop k = l[k] :: l.drop (k + 1)) := List.drop_eq_getElem_cons hlt
        clear hE hcs hr
        have hi : (Try.prog.info? 165).map (·.size) = some cs.length := by rw [Rep.length _ _ hr', TFrame.width]; exact infoS165
        have hmem : l[k] ∈ l := List.getElem_mem hlt
        generalize l[k] = x at *
        go_wp2_with (with_reducible refine ld rfl 165 _ rfl b _ rfl cs hcs' _ Try.underlying165 hi ?_)
        refine (szFrame_c x _ K hK' _ hr' lf hl0 hl1).mono ?_
        rintro e w1 ⟨rfl, hB1⟩
        have hB2 := hB.trans (hB1.mono hB.size)
        by_cases h3 : (x.sz : Int) ≤ lf
        · rw [szr_le h3]
          go_wp2
          go_roundw
          case rel =>
            refine ⟨k + 1, lf - (x.sz : Int), hlt, by omega, by omega, by go_num, rfl, ?_, hB2⟩
            have e := Hs.out
            rw [Hd.out] at e
            unfold Hid
            rw [← e]
            simp only [szr, szL]
            (repeat' split) <;> omega
          case measure => simp [intOf]; omega
        · rw [szr_gt h3]
          have e := Hs.out
          rw [Hd.out] at e
          have hf : szr (szs TFrame.sz l) left = -1 := by
            rw [← e]; simp only [szr, szL]; (repeat' split) <;> omega
          have Hf := Lib.hid hf
          clear hf e
          go_wp2
          go_ret
          exact ⟨by rw [Hf.out]; rfl, hB2⟩
      · obtain rfl : k = l.length := by omega
        go_wp2
        go_ret
        refine ⟨?_, hB⟩
        rw [← Hs.out]
        simp [szr, szL, hl0]
  · have Hf : Hid (szr (szs TFrame.sz l) left = -1) := by
      simp only [Hid, szr, szs]; (repeat' split) <;> omega
    go_enter Try.func38, Try.ntmps38
    go_wp2
    go_ret
    exact ⟨by rw [Hf.out]; rfl, Below.refl _ _⟩
set_option maxRecDepth 100000 in
set_option maxHeartbeats 1000000 in
theorem szVM_c (x : TVM) : ∀ (w : World) (K : Nat → Prop) (_ : ∀ b, K b → b < w.heap.size) (cs : List Value) (_ : Rep w K x.enc cs) (left : Int) (_ : 0 ≤ left) (_ : left ≤ 1048576),
    Calls Try.prog 7 #[.agg cs.toArray, .int .i64 left] w fun e w' => e = .returned (.int .i64 (szr x.sz left)) ∧ Below w.heap.size w w' := by
  intro w K hK cs h left h0 h1
  obtain ⟨c0, c1, rfl, hStack, hFrames, hCalls, hCode⟩ := TVM.opn h
  clear h
  clear hCalls
  clear hCode
  have hW : Below w.heap.size w (w.alloc (.cells #[c0, c1, .int .i64 x.fCalls, .int .i64 x.fCode, .bool x.fDone] 25)) := (Below.refl _ _).alloc (Nat.le_refl _) _
  have hx : Below (w.heap.size + 1) (w.alloc (.cells #[c0, c1, .int .i64 x.fCalls, .int .i64 x.fCode, .bool x.fDone] 25)) (w.alloc (.cells #[c0, c1, .int .i64 x.fCalls, .int .i64 x.fCode, .bool x.fDone] 25)) := Below.refl _ _
  go_enter Try.func7, Try.ntmps7
  go_wp2_with fail
  refine (szValueS_c x.fStack _ K (fun b hb => Nat.lt_of_lt_of_le (hK b hb) hW.size) _ (Rep.ext hW hK hStack) _ (by omega) (by omega)).mono ?_
  rintro e w0 ⟨rfl, hB0⟩
  have hx0 : Below (w.heap.size + 1) (w.alloc (.cells #[c0, c1, .int .i64 x.fCalls, .int .i64 x.fCode, .bool x.fDone] 25)) w0 := hx.trans (hB0.mono (by have := hx.size; simp at this ⊢ <;> omega))
  have hb0 : Below w.heap.size w w0 := hW.trans (hx0.mono (Nat.le_succ _))
  have hc0 := (bcell hx0).1
  by_cases g0 : ((szs TValue.sz x.fStack : Nat) : Int) ≤ left
  · rw [szr_le g0]
    go_wp2_with fail
    refine (szFrameS_c x.fFrames _ K (fun b hb => Nat.lt_of_lt_of_le (hK b hb) hb0.size) _ (Rep.ext hb0 hK hFrames) _ (by omega) (by omega)).mono ?_
    rintro e w1 ⟨rfl, hB1⟩
    have hx1 : Below (w.heap.size + 1) (w.alloc (.cells #[c0, c1, .int .i64 x.fCalls, .int .i64 x.fCode, .bool x.fDone] 25)) w1 := hx0.trans (hB1.mono (by have := hx0.size; simp at this ⊢ <;> omega))
    have hb1 : Below w.heap.size w w1 := hW.trans (hx1.mono (Nat.le_succ _))
    have hc1 := (bcell hx1).1
    by_cases g1 : ((szs TFrame.sz x.fFrames : Nat) : Int) ≤ left - ((szs TValue.sz x.fStack : Nat) : Int)
    · rw [szr_le g1]
      go_wp2
      go_ret
      exact ⟨ret_int (by rw [TVM.sz_eq]; unfold szr; (repeat' split) <;> omega), hb1⟩
    · rw [szr_gt g1]
      go_wp2
      go_ret
      exact ⟨ret_int (by rw [TVM.sz_eq]; unfold szr; (repeat' split) <;> omega), hb1⟩
  · rw [szr_gt g0]
    go_wp2
    go_ret
    exact ⟨ret_int (by rw [TVM.sz_eq]; unfold szr; (repeat' split) <;> omega), hb0⟩
end Go.Proofs.Ytnlmldgbhdcpbaa
