/- The functions sz.. of the laws: each takes a value's size from what is left of the bound. Conditions: what is left is from 0 to 1048576. -/
import Derived.Test.YtkmiecgcibjkbaaGreatTypes
namespace Go.Proofs.YtkmiecgcibjkbaaGreat
open Go.RowKit
set_option maxRecDepth 100000 in
set_option maxHeartbeats 1000000 in
theorem szStringS_c (l : List ByteArray) : ∀ (w : World) (K : Nat → Prop) (_ : ∀ b, K b → b < w.heap.size) (v : Value) (_ : Rep w K (.sl (l.map encS)) [v]) (left : Int) (_ : 0 ≤ left) (_ : left ≤ 1048576),
    Calls Tryz.prog 147 #[v, .int .i64 left] w fun e w' => e = .returned (.int .i64 (szr (szs ByteArray.size l) left)) ∧ Below w.heap.size w w' := by
  intro w K hK v h left h0 h1
  obtain ⟨a, cap, rfl, hc, hm, -, hE⟩ := open_sl encS_w h
  unfold maxLen at hm
  clear h
  by_cases h2 : (l.length : Int) ≤ left
  · have Hg : Hid (szr (szL ByteArray.size (l.drop 0)) (left - l.length) = szr (szs ByteArray.size l) left) := by
      simp only [Hid, szr, szs, List.drop_zero]; (repeat' split) <;> omega
    go_enter Tryz.func147, Tryz.ntmps147
    go_wp2
    go_loopw [1, 5] (fun t i wr => ∃ (k : Nat) (lf : Int), k ≤ l.length ∧ 0 ≤ lf ∧ lf ≤ 1048576 ∧ i = .int .i64 k ∧ t = .int .i64 lf ∧ Hid (szr (szL ByteArray.size (l.drop k)) lf = szr (szs ByteArray.size l) left) ∧ Below w.heap.size w wr) (fun _ i _ => l.length - (intOf i).toNat)
    case atStart => exact ⟨0, _, Nat.zero_le _, by omega, by omega, rfl, rfl, Hg, Below.refl _ _⟩
    case round =>
      clear Hg
      obtain ⟨k, lf, hk, hl0, hl1, rfl, rfl, Hs, hB⟩ := hrel
      by_cases hlt : k < l.length
      · obtain ⟨b, off, rfl, hKb, cs, hcs, hr⟩ := hE k hlt
        have hr' := Rep.ext hB hK hr
        have hcs' := hcs.ext hB (hK b hKb)
        have hK' : ∀ b, K b → b < wr.heap.size := fun b h => Nat.lt_of_lt_of_le (hK b h) hB.size
        have Hd : Hid (l.drop k = l[k] :: l.drop (k + 1)) := List.drop_eq_getElem_cons hlt
        clear hE hcs hr
        simp only [encS, Rep] at hr'
        obtain ⟨rfl, hz⟩ := hr'
        have g0 : wr.cell? ⟨b, off + k, none⟩ = some (.string l[k]) := by simpa using hcs' 0 _ rfl
        have hz' : l[k].size ≤ 9223372036854775807 := hz
        clear hcs' hz
        generalize l[k] = x at *
        by_cases h3 : (x.size : Int) ≤ lf
        · go_wp2
          go_roundw
          case rel =>
            refine ⟨k + 1, lf - (x.size : Int), hlt, by omega, by omega, by go_num, rfl, ?_, hB⟩
            have e := Hs.out
            rw [Hd.out] at e
            unfold Hid
            rw [← e]
            simp only [szr, szL]
            (repeat' split) <;> omega
          case measure => simp [intOf]; omega
        · skip
          have e := Hs.out
          rw [Hd.out] at e
          have hf : szr (szs ByteArray.size l) left = -1 := by
            rw [← e]; simp only [szr, szL]; (repeat' split) <;> omega
          have Hf := Lib.hid hf
          clear hf e
          go_wp2
          go_ret
          exact ⟨by rw [Hf.out]; rfl, hB⟩
      · obtain rfl : k = l.length := by omega
        go_wp2
        go_ret
        refine ⟨?_, hB⟩
        rw [← Hs.out]
        simp [szr, szL, hl0]
  · have Hf : Hid (szr (szs ByteArray.size l) left = -1) := by
      simp only [Hid, szr, szs]; (repeat' split) <;> omega
    go_enter Tryz.func147, Tryz.ntmps147
    go_wp2
    go_ret
    exact ⟨by rw [Hf.out]; rfl, Below.refl _ _⟩
theorem infoS325 : (Tryz.prog.info? 325).map (·.size) = some 5 := by kernel_rfl
def SzEvidence (N : Nat) : Prop := ∀ (x : TEvidence), SizeOf.sizeOf x < N → ∀ (w : World) (K : Nat → Prop) (_ : ∀ b, K b → b < w.heap.size) (cs : List Value) (_ : Rep w K x.enc cs) (left : Int) (_ : 0 ≤ left) (_ : left ≤ 1048576),
    Calls Tryz.prog 237 #[.agg cs.toArray, .int .i64 left] w fun e w' => e = .returned (.int .i64 (szr x.sz left)) ∧ Below w.heap.size w w'
def SzEvidenceS (N : Nat) : Prop := ∀ (l : List TEvidence), SizeOf.sizeOf l < N → ∀ (w : World) (K : Nat → Prop) (_ : ∀ b, K b → b < w.heap.size) (v : Value) (_ : Rep w K (.sl (l.map TEvidence.enc)) [v]) (left : Int) (_ : 0 ≤ left) (_ : left ≤ 1048576),
    Calls Tryz.prog 200 #[v, .int .i64 left] w fun e w' => e = .returned (.int .i64 (szr (szs TEvidence.sz l) left)) ∧ Below w.heap.size w w'
set_option maxRecDepth 100000 in
set_option maxHeartbeats 1000000 in
theorem stepSzEvidence (N : Nat) (_iSzEvidence : SzEvidence N) (iSzEvidenceS : SzEvidenceS N) : SzEvidence (N + 1) := by
  intro x hN w K hK cs h left h0 h1
  obtain ⟨c2, c3, c4, rfl, hKind, hN, hAt, hArgs⟩ := TEvidence.opn h
  clear h
  clear hKind
  clear hN
  clear hAt
  have hW : Below w.heap.size w (w.alloc (.cells #[.int .i64 x.fKind, .int .i64 x.fN, c2, c3, c4] 325)) := (Below.refl _ _).alloc (Nat.le_refl _) _
  have hx : Below (w.heap.size + 1) (w.alloc (.cells #[.int .i64 x.fKind, .int .i64 x.fN, c2, c3, c4] 325)) (w.alloc (.cells #[.int .i64 x.fKind, .int .i64 x.fN, c2, c3, c4] 325)) := Below.refl _ _
  go_enter Tryz.func237, Tryz.ntmps237
  go_wp2_with fail
  refine (iSzEvidenceS x.fArgs (by have := TEvidence.lt_fArgs x; omega) _ K (fun b hb => Nat.lt_of_lt_of_le (hK b hb) hW.size) _ (Rep.ext hW hK hArgs) _ (by omega) (by omega)).mono ?_
  rintro e w0 ⟨rfl, hB0⟩
  have hx0 : Below (w.heap.size + 1) (w.alloc (.cells #[.int .i64 x.fKind, .int .i64 x.fN, c2, c3, c4] 325)) w0 := hx.trans (hB0.mono (by have := hx.size; simp at this ⊢ <;> omega))
  have hb0 : Below w.heap.size w w0 := hW.trans (hx0.mono (Nat.le_succ _))
  have hc0 := (bcell hx0).1
  by_cases g0 : ((szs TEvidence.sz x.fArgs : Nat) : Int) ≤ left
  · rw [szr_le g0]
    go_wp2
    go_ret
    exact ⟨ret_int (by rw [TEvidence.sz_eq]; unfold szr; (repeat' split) <;> omega), hb0⟩
  · rw [szr_gt g0]
    go_wp2
    go_ret
    exact ⟨ret_int (by rw [TEvidence.sz_eq]; unfold szr; (repeat' split) <;> omega), hb0⟩
set_option maxRecDepth 100000 in
set_option maxHeartbeats 1000000 in
theorem stepSzEvidenceS (N : Nat) (iSzEvidence : SzEvidence N) (_iSzEvidenceS : SzEvidenceS N) : SzEvidenceS (N + 1) := by
  intro l hN w K hK v h left h0 h1
  obtain ⟨a, cap, rfl, hc, hm, -, hE⟩ := open_sl TEvidence.width h
  unfold maxLen at hm
  clear h
  by_cases h2 : (l.length : Int) ≤ left
  · have Hg : Hid (szr (szL TEvidence.sz (l.drop 0)) (left - l.length) = szr (szs TEvidence.sz l) left) := by
      simp only [Hid, szr, szs, List.drop_zero]; (repeat' split) <;> omega
    go_enter Tryz.func200, Tryz.ntmps200
    go_wp2
    go_loopw [1, 5] (fun t i wr => ∃ (k : Nat) (lf : Int), k ≤ l.length ∧ 0 ≤ lf ∧ lf ≤ 1048576 ∧ i = .int .i64 k ∧ t = .int .i64 lf ∧ Hid (szr (szL TEvidence.sz (l.drop k)) lf = szr (szs TEvidence.sz l) left) ∧ Below w.heap.size w wr) (fun _ i _ => l.length - (intOf i).toNat)
    case atStart => exact ⟨0, _, Nat.zero_le _, by omega, by omega, rfl, rfl, Hg, Below.refl _ _⟩
    case round =>
      clear Hg
      obtain ⟨k, lf, hk, hl0, hl1, rfl, rfl, Hs, hB⟩ := hrel
      by_cases hlt : k < l.length
      · obtain ⟨b, off, rfl, hKb, cs, hcs, hr⟩ := hE k hlt
        have hr' := Rep.ext hB hK hr
        have hcs' := hcs.ext hB (hK b hKb)
        have hK' : ∀ b, K b → b < wr.heap.size := fun b h => Nat.lt_of_lt_of_le (hK b h) hB.size
        have Hd : Hid (l.drop k = l[k] :: l.drop (k + 1)) := List.drop_eq_getElem_cons hlt
        clear hE hcs hr
        have hi : (Tryz.prog.info? 325).map (·.size) = some cs.length := by rw [Rep.length _ _ hr', TEvidence.width]; exact infoS325
        have hmem : l[k] ∈ l := List.getElem_mem hlt
        generalize l[k] = x at *
        go_wp2_with (with_reducible refine ld rfl 325 _ rfl b _ rfl cs hcs' _ Tryz.underlying325 hi ?_)
        refine (iSzEvidence x (by have := List.sizeOf_lt_of_mem hmem; omega) _ K hK' _ hr' lf hl0 hl1).mono ?_
        rintro e w1 ⟨rfl, hB1⟩
        have hB2 := hB.trans (hB1.mono hB.size)
        by_cases h3 : (x.sz : Int) ≤ lf
        · rw [szr_le h3]
          go_wp2
          go_roundw
          case rel =>
            refine ⟨k + 1, lf - (x.sz : Int), hlt, by omega, by omega, by go_num, rfl, ?_, hB2⟩
            have e := Hs.out
            rw [Hd.out] at e
            unfold Hid
            rw [← e]
            simp only [szr, szL]
            (repeat' split) <;> omega
          case measure => simp [intOf]; omega
        · rw [szr_gt h3]
          have e := Hs.out
          rw [Hd.out] at e
          have hf : szr (szs TEvidence.sz l) left = -1 := by
            rw [← e]; simp only [szr, szL]; (repeat' split) <;> omega
          have Hf := Lib.hid hf
          clear hf e
          go_wp2
          go_ret
          exact ⟨by rw [Hf.out]; rfl, hB2⟩
      · obtain rfl : k = l.length := by omega
        go_wp2
        go_ret
        refine ⟨?_, hB⟩
        rw [← Hs.out]
        simp [szr, szL, hl0]
  · have Hf : Hid (szr (szs TEvidence.sz l) left = -1) := by
      simp only [Hid, szr, szs]; (repeat' split) <;> omega
    go_enter Tryz.func200, Tryz.ntmps200
    go_wp2
    go_ret
    exact ⟨by rw [Hf.out]; rfl, Below.refl _ _⟩
theorem szEvidence_all : ∀ N : Nat, SzEvidence N ∧ SzEvidenceS N
  | 0 => ⟨fun _ h => absurd h (Nat.not_lt_zero _), fun _ h => absurd h (Nat.not_lt_zero _)⟩
  | N + 1 => by
    obtain ⟨i0, i1⟩ := szEvidence_all N
    exact ⟨stepSzEvidence N i0 i1, stepSzEvidenceS N i0 i1⟩
theorem szEvidence_c (x : TEvidence) : ∀ (w : World) (K : Nat → Prop) (_ : ∀ b, K b → b < w.heap.size) (cs : List Value) (_ : Rep w K x.enc cs) (left : Int) (_ : 0 ≤ left) (_ : left ≤ 1048576),
    Calls Tryz.prog 237 #[.agg cs.toArray, .int .i64 left] w fun e w' => e = .returned (.int .i64 (szr x.sz left)) ∧ Below w.heap.size w w' := (szEvidence_all (SizeOf.sizeOf x + 1)).1 x (Nat.lt_succ_self _)
theorem szEvidenceS_c (l : List TEvidence) : ∀ (w : World) (K : Nat → Prop) (_ : ∀ b, K b → b < w.heap.size) (v : Value) (_ : Rep w K (.sl (l.map TEvidence.enc)) [v]) (left : Int) (_ : 0 ≤ left) (_ : left ≤ 1048576),
    Calls Tryz.prog 200 #[v, .int .i64 left] w fun e w' => e = .returned (.int .i64 (szr (szs TEvidence.sz l) left)) ∧ Below w.heap.size w w' := (szEvidence_all (SizeOf.sizeOf l + 1)).2 l (Nat.lt_succ_self _)
theorem infoS150 : (Tryz.prog.info? 150).map (·.size) = some 3 := by kernel_rfl
def SzType (N : Nat) : Prop := ∀ (x : TType), SizeOf.sizeOf x < N → ∀ (w : World) (K : Nat → Prop) (_ : ∀ b, K b → b < w.heap.size) (cs : List Value) (_ : Rep w K x.enc cs) (left : Int) (_ : 0 ≤ left) (_ : left ≤ 1048576),
    Calls Tryz.prog 149 #[.agg cs.toArray, .int .i64 left] w fun e w' => e = .returned (.int .i64 (szr x.sz left)) ∧ Below w.heap.size w w'
def SzTypeS (N : Nat) : Prop := ∀ (l : List TType), SizeOf.sizeOf l < N → ∀ (w : World) (K : Nat → Prop) (_ : ∀ b, K b → b < w.heap.size) (v : Value) (_ : Rep w K (.sl (l.map TType.enc)) [v]) (left : Int) (_ : 0 ≤ left) (_ : left ≤ 1048576),
    Calls Tryz.prog 146 #[v, .int .i64 left] w fun e w' => e = .returned (.int .i64 (szr (szs TType.sz l) left)) ∧ Below w.heap.size w w'
set_option maxRecDepth 100000 in
set_option maxHeartbeats 1000000 in
theorem stepSzType (N : Nat) (_iSzType : SzType N) (iSzTypeS : SzTypeS N) : SzType (N + 1) := by
  intro x hN w K hK cs h left h0 h1
  obtain ⟨c2, rfl, hKind, hName, hArgs⟩ := TType.opn h
  clear h
  clear hKind
  unfold maxLen at hName
  have hW : Below w.heap.size w (w.alloc (.cells #[.int .i64 x.fKind, .string x.fName, c2] 150)) := (Below.refl _ _).alloc (Nat.le_refl _) _
  have hx : Below (w.heap.size + 1) (w.alloc (.cells #[.int .i64 x.fKind, .string x.fName, c2] 150)) (w.alloc (.cells #[.int .i64 x.fKind, .string x.fName, c2] 150)) := Below.refl _ _
  go_enter Tryz.func149, Tryz.ntmps149
  by_cases g0 : ((x.fName.size : Nat) : Int) ≤ left
  · skip
    go_wp2_with fail
    refine (iSzTypeS x.fArgs (by have := TType.lt_fArgs x; omega) _ K (fun b hb => Nat.lt_of_lt_of_le (hK b hb) hW.size) _ (Rep.ext hW hK hArgs) _ (by omega) (by omega)).mono ?_
    rintro e w1 ⟨rfl, hB1⟩
    have hx1 : Below (w.heap.size + 1) (w.alloc (.cells #[.int .i64 x.fKind, .string x.fName, c2] 150)) w1 := hx.trans (hB1.mono (by have := hx.size; simp at this ⊢ <;> omega))
    have hb1 : Below w.heap.size w w1 := hW.trans (hx1.mono (Nat.le_succ _))
    have hc1 := (bcell hx1).1
    by_cases g1 : ((szs TType.sz x.fArgs : Nat) : Int) ≤ left - ((x.fName.size : Nat) : Int)
    · rw [szr_le g1]
      go_wp2
      go_ret
      exact ⟨ret_int (by rw [TType.sz_eq]; unfold szr; (repeat' split) <;> omega), hb1⟩
    · rw [szr_gt g1]
      go_wp2
      go_ret
      exact ⟨ret_int (by rw [TType.sz_eq]; unfold szr; (repeat' split) <;> omega), hb1⟩
  · go_wp2
    go_ret
    exact ⟨ret_int (by rw [TType.sz_eq]; unfold szr; (repeat' split) <;> omega), hW⟩
set_option maxRecDepth 100000 in
set_option maxHeartbeats 1000000 in
theorem stepSzTypeS (N : Nat) (iSzType : SzType N) (_iSzTypeS : SzTypeS N) : SzTypeS (N + 1) := by
  intro l hN w K hK v h left h0 h1
  obtain ⟨a, cap, rfl, hc, hm, -, hE⟩ := open_sl TType.width h
  unfold maxLen at hm
  clear h
  by_cases h2 : (l.length : Int) ≤ left
  · have Hg : Hid (szr (szL TType.sz (l.drop 0)) (left - l.length) = szr (szs TType.sz l) left) := by
      simp only [Hid, szr, szs, List.drop_zero]; (repeat' split) <;> omega
    go_enter Tryz.func146, Tryz.ntmps146
    go_wp2
    go_loopw [1, 5] (fun t i wr => ∃ (k : Nat) (lf : Int), k ≤ l.length ∧ 0 ≤ lf ∧ lf ≤ 1048576 ∧ i = .int .i64 k ∧ t = .int .i64 lf ∧ Hid (szr (szL TType.sz (l.drop k)) lf = szr (szs TType.sz l) left) ∧ Below w.heap.size w wr) (fun _ i _ => l.length - (intOf i).toNat)
    case atStart => exact ⟨0, _, Nat.zero_le _, by omega, by omega, rfl, rfl, Hg, Below.refl _ _⟩
    case round =>
      clear Hg
      obtain ⟨k, lf, hk, hl0, hl1, rfl, rfl, Hs, hB⟩ := hrel
      by_cases hlt : k < l.length
      · obtain ⟨b, off, rfl, hKb, cs, hcs, hr⟩ := hE k hlt
        have hr' := Rep.ext hB hK hr
        have hcs' := hcs.ext hB (hK b hKb)
        have hK' : ∀ b, K b → b < wr.heap.size := fun b h => Nat.lt_of_lt_of_le (hK b h) hB.size
        have Hd : Hid (l.drop k = l[k] :: l.drop (k + 1)) := List.drop_eq_getElem_cons hlt
        clear hE hcs hr
        have hi : (Tryz.prog.info? 150).map (·.size) = some cs.length := by rw [Rep.length _ _ hr', TType.width]; exact infoS150
        have hmem : l[k] ∈ l := List.getElem_mem hlt
        generalize l[k] = x at *
        go_wp2_with (with_reducible refine ld rfl 150 _ rfl b _ rfl cs hcs' _ Tryz.underlying150 hi ?_)
        refine (iSzType x (by have := List.sizeOf_lt_of_mem hmem; omega) _ K hK' _ hr' lf hl0 hl1).mono ?_
        rintro e w1 ⟨rfl, hB1⟩
        have hB2 := hB.trans (hB1.mono hB.size)
        by_cases h3 : (x.sz : Int) ≤ lf
        · rw [szr_le h3]
          go_wp2
          go_roundw
          case rel =>
            refine ⟨k + 1, lf - (x.sz : Int), hlt, by omega, by omega, by go_num, rfl, ?_, hB2⟩
            have e := Hs.out
            rw [Hd.out] at e
            unfold Hid
            rw [← e]
            simp only [szr, szL]
            (repeat' split) <;> omega
          case measure => simp [intOf]; omega
        · rw [szr_gt h3]
          have e := Hs.out
          rw [Hd.out] at e
          have hf : szr (szs TType.sz l) left = -1 := by
            rw [← e]; simp only [szr, szL]; (repeat' split) <;> omega
          have Hf := Lib.hid hf
          clear hf e
          go_wp2
          go_ret
          exact ⟨by rw [Hf.out]; rfl, hB2⟩
      · obtain rfl : k = l.length := by omega
        go_wp2
        go_ret
        refine ⟨?_, hB⟩
        rw [← Hs.out]
        simp [szr, szL, hl0]
  · have Hf : Hid (szr (szs TType.sz l) left = -1) := by
      simp only [Hid, szr, szs]; (repeat' split) <;> omega
    go_enter Tryz.func146, Tryz.ntmps146
    go_wp2
    go_ret
    exact ⟨by rw [Hf.out]; rfl, Below.refl _ _⟩
theorem szType_all : ∀ N : Nat, SzType N ∧ SzTypeS N
  | 0 => ⟨fun _ h => absurd h (Nat.not_lt_zero _), fun _ h => absurd h (Nat.not_lt_zero _)⟩
  | N + 1 => by
    obtain ⟨i0, i1⟩ := szType_all N
    exact ⟨stepSzType N i0 i1, stepSzTypeS N i0 i1⟩
theorem szType_c (x : TType) : ∀ (w : World) (K : Nat → Prop) (_ : ∀ b, K b → b < w.heap.size) (cs : List Value) (_ : Rep w K x.enc cs) (left : Int) (_ : 0 ≤ left) (_ : left ≤ 1048576),
    Calls Tryz.prog 149 #[.agg cs.toArray, .int .i64 left] w fun e w' => e = .returned (.int .i64 (szr x.sz left)) ∧ Below w.heap.size w w' := (szType_all (SizeOf.sizeOf x + 1)).1 x (Nat.lt_succ_self _)
theorem szTypeS_c (l : List TType) : ∀ (w : World) (K : Nat → Prop) (_ : ∀ b, K b → b < w.heap.size) (v : Value) (_ : Rep w K (.sl (l.map TType.enc)) [v]) (left : Int) (_ : 0 ≤ left) (_ : left ≤ 1048576),
    Calls Tryz.prog 146 #[v, .int .i64 left] w fun e w' => e = .returned (.int .i64 (szr (szs TType.sz l) left)) ∧ Below w.heap.size w w' := (szType_all (SizeOf.sizeOf l + 1)).2 l (Nat.lt_succ_self _)
set_option maxRecDepth 100000 in
set_option maxHeartbeats 1000000 in
theorem szBound_c (x : TBound) : ∀ (w : World) (K : Nat → Prop) (_ : ∀ b, K b → b < w.heap.size) (cs : List Value) (_ : Rep w K x.enc cs) (left : Int) (_ : 0 ≤ left) (_ : left ≤ 1048576),
    Calls Tryz.prog 170 #[.agg cs.toArray, .int .i64 left] w fun e w' => e = .returned (.int .i64 (szr x.sz left)) ∧ Below w.heap.size w w' := by
  intro w K hK cs h left h0 h1
  obtain ⟨c1, c2, c3, rfl, hTrait, hType⟩ := TBound.opn h
  clear h
  unfold maxLen at hTrait
  have hW : Below w.heap.size w (w.alloc (.cells #[.string x.fTrait, c1, c2, c3] 195)) := (Below.refl _ _).alloc (Nat.le_refl _) _
  have hx : Below (w.heap.size + 1) (w.alloc (.cells #[.string x.fTrait, c1, c2, c3] 195)) (w.alloc (.cells #[.string x.fTrait, c1, c2, c3] 195)) := Below.refl _ _
  go_enter Tryz.func170, Tryz.ntmps170
  by_cases g0 : ((x.fTrait.size : Nat) : Int) ≤ left
  · skip
    go_wp2_with fail
    refine (szType_c x.fType _ K (fun b hb => Nat.lt_of_lt_of_le (hK b hb) hW.size) _ (Rep.ext hW hK hType) _ (by omega) (by omega)).mono ?_
    rintro e w1 ⟨rfl, hB1⟩
    have hx1 : Below (w.heap.size + 1) (w.alloc (.cells #[.string x.fTrait, c1, c2, c3] 195)) w1 := hx.trans (hB1.mono (by have := hx.size; simp at this ⊢ <;> omega))
    have hb1 : Below w.heap.size w w1 := hW.trans (hx1.mono (Nat.le_succ _))
    have hc1 := (bcell hx1).1
    by_cases g1 : ((TType.sz x.fType : Nat) : Int) ≤ left - ((x.fTrait.size : Nat) : Int)
    · rw [szr_le g1]
      go_wp2
      go_ret
      exact ⟨ret_int (by rw [TBound.sz_eq]; unfold szr; (repeat' split) <;> omega), hb1⟩
    · rw [szr_gt g1]
      go_wp2
      go_ret
      exact ⟨ret_int (by rw [TBound.sz_eq]; unfold szr; (repeat' split) <;> omega), hb1⟩
  · go_wp2
    go_ret
    exact ⟨ret_int (by rw [TBound.sz_eq]; unfold szr; (repeat' split) <;> omega), hW⟩
theorem infoS195 : (Tryz.prog.info? 195).map (·.size) = some 4 := by kernel_rfl
set_option maxRecDepth 100000 in
set_option maxHeartbeats 1000000 in
theorem szBoundS_c (l : List TBound) : ∀ (w : World) (K : Nat → Prop) (_ : ∀ b, K b → b < w.heap.size) (v : Value) (_ : Rep w K (.sl (l.map TBound.enc)) [v]) (left : Int) (_ : 0 ≤ left) (_ : left ≤ 1048576),
    Calls Tryz.prog 251 #[v, .int .i64 left] w fun e w' => e = .returned (.int .i64 (szr (szs TBound.sz l) left)) ∧ Below w.heap.size w w' := by
  intro w K hK v h left h0 h1
  obtain ⟨a, cap, rfl, hc, hm, -, hE⟩ := open_sl TBound.width h
  unfold maxLen at hm
  clear h
  by_cases h2 : (l.length : Int) ≤ left
  · have Hg : Hid (szr (szL TBound.sz (l.drop 0)) (left - l.length) = szr (szs TBound.sz l) left) := by
      simp only [Hid, szr, szs, List.drop_zero]; (repeat' split) <;> omega
    go_enter Tryz.func251, Tryz.ntmps251
    go_wp2
    go_loopw [1, 5] (fun t i wr => ∃ (k : Nat) (lf : Int), k ≤ l.length ∧ 0 ≤ lf ∧ lf ≤ 1048576 ∧ i = .int .i64 k ∧ t = .int .i64 lf ∧ Hid (szr (szL TBound.sz (l.drop k)) lf = szr (szs TBound.sz l) left) ∧ Below w.heap.size w wr) (fun _ i _ => l.length - (intOf i).toNat)
    case atStart => exact ⟨0, _, Nat.zero_le _, by omega, by omega, rfl, rfl, Hg, Below.refl _ _⟩
    case round =>
      clear Hg
      obtain ⟨k, lf, hk, hl0, hl1, rfl, rfl, Hs, hB⟩ := hrel
      by_cases hlt : k < l.length
      · obtain ⟨b, off, rfl, hKb, cs, hcs, hr⟩ := hE k hlt
        have hr' := Rep.ext hB hK hr
        have hcs' := hcs.ext hB (hK b hKb)
        have hK' : ∀ b, K b → b < wr.heap.size := fun b h => Nat.lt_of_lt_of_le (hK b h) hB.size
        have Hd : Hid (l.drop k = l[k] :: l.drop (k + 1)) := List.drop_eq_getElem_cons hlt
        clear hE hcs hr
        have hi : (Tryz.prog.info? 195).map (·.size) = some cs.length := by rw [Rep.length _ _ hr', TBound.width]; exact infoS195
        have hmem : l[k] ∈ l := List.getElem_mem hlt
        generalize l[k] = x at *
        go_wp2_with (with_reducible refine ld rfl 195 _ rfl b _ rfl cs hcs' _ Tryz.underlying195 hi ?_)
        refine (szBound_c x _ K hK' _ hr' lf hl0 hl1).mono ?_
        rintro e w1 ⟨rfl, hB1⟩
        have hB2 := hB.trans (hB1.mono hB.size)
        by_cases h3 : (x.sz : Int) ≤ lf
        · rw [szr_le h3]
          go_wp2
          go_roundw
          case rel =>
            refine ⟨k + 1, lf - (x.sz : Int), hlt, by omega, by omega, by go_num, rfl, ?_, hB2⟩
            have e := Hs.out
            rw [Hd.out] at e
            unfold Hid
            rw [← e]
            simp only [szr, szL]
            (repeat' split) <;> omega
          case measure => simp [intOf]; omega
        · rw [szr_gt h3]
          have e := Hs.out
          rw [Hd.out] at e
          have hf : szr (szs TBound.sz l) left = -1 := by
            rw [← e]; simp only [szr, szL]; (repeat' split) <;> omega
          have Hf := Lib.hid hf
          clear hf e
          go_wp2
          go_ret
          exact ⟨by rw [Hf.out]; rfl, hB2⟩
      · obtain rfl : k = l.length := by omega
        go_wp2
        go_ret
        refine ⟨?_, hB⟩
        rw [← Hs.out]
        simp [szr, szL, hl0]
  · have Hf : Hid (szr (szs TBound.sz l) left = -1) := by
      simp only [Hid, szr, szs]; (repeat' split) <;> omega
    go_enter Tryz.func251, Tryz.ntmps251
    go_wp2
    go_ret
    exact ⟨by rw [Hf.out]; rfl, Below.refl _ _⟩
theorem infoS328 : (Tryz.prog.info? 328).map (·.size) = some 13 := by kernel_rfl
theorem infoS155 : (Tryz.prog.info? 155).map (·.size) = some 11 := by kernel_rfl
def SzCoreArm (N : Nat) : Prop := ∀ (x : TCoreArm), SizeOf.sizeOf x < N → ∀ (w : World) (K : Nat → Prop) (_ : ∀ b, K b → b < w.heap.size) (cs : List Value) (_ : Rep w K x.enc cs) (left : Int) (_ : 0 ≤ left) (_ : left ≤ 1048576),
    Calls Tryz.prog 238 #[.agg cs.toArray, .int .i64 left] w fun e w' => e = .returned (.int .i64 (szr x.sz left)) ∧ Below w.heap.size w w'
def SzCoreArmS (N : Nat) : Prop := ∀ (l : List TCoreArm), SizeOf.sizeOf l < N → ∀ (w : World) (K : Nat → Prop) (_ : ∀ b, K b → b < w.heap.size) (v : Value) (_ : Rep w K (.sl (l.map TCoreArm.enc)) [v]) (left : Int) (_ : 0 ≤ left) (_ : left ≤ 1048576),
    Calls Tryz.prog 202 #[v, .int .i64 left] w fun e w' => e = .returned (.int .i64 (szr (szs TCoreArm.sz l) left)) ∧ Below w.heap.size w w'
def SzCore (N : Nat) : Prop := ∀ (x : TCore), SizeOf.sizeOf x < N → ∀ (w : World) (K : Nat → Prop) (_ : ∀ b, K b → b < w.heap.size) (cs : List Value) (_ : Rep w K x.enc cs) (left : Int) (_ : 0 ≤ left) (_ : left ≤ 1048576),
    Calls Tryz.prog 148 #[.agg cs.toArray, .int .i64 left] w fun e w' => e = .returned (.int .i64 (szr x.sz left)) ∧ Below w.heap.size w w'
def SzCoreS (N : Nat) : Prop := ∀ (l : List TCore), SizeOf.sizeOf l < N → ∀ (w : World) (K : Nat → Prop) (_ : ∀ b, K b → b < w.heap.size) (v : Value) (_ : Rep w K (.sl (l.map TCore.enc)) [v]) (left : Int) (_ : 0 ≤ left) (_ : left ≤ 1048576),
    Calls Tryz.prog 201 #[v, .int .i64 left] w fun e w' => e = .returned (.int .i64 (szr (szs TCore.sz l) left)) ∧ Below w.heap.size w w'
set_option maxRecDepth 100000 in
set_option maxHeartbeats 1000000 in
theorem stepSzCoreArm (N : Nat) (_iSzCoreArm : SzCoreArm N) (_iSzCoreArmS : SzCoreArmS N) (iSzCore : SzCore N) (_iSzCoreS : SzCoreS N) : SzCoreArm (N + 1) := by
  intro x hN w K hK cs h left h0 h1
  obtain ⟨c1, c2, c3, c4, c5, c6, c7, c8, c9, c10, c11, c12, rfl, hConstructor, hVars, hBody⟩ := TCoreArm.opn h
  clear h
  unfold maxLen at hConstructor
  have hW : Below w.heap.size w (w.alloc (.cells #[.string x.fConstructor, c1, c2, c3, c4, c5, c6, c7, c8, c9, c10, c11, c12] 328)) := (Below.refl _ _).alloc (Nat.le_refl _) _
  have hx : Below (w.heap.size + 1) (w.alloc (.cells #[.string x.fConstructor, c1, c2, c3, c4, c5, c6, c7, c8, c9, c10, c11, c12] 328)) (w.alloc (.cells #[.string x.fConstructor, c1, c2, c3, c4, c5, c6, c7, c8, c9, c10, c11, c12] 328)) := Below.refl _ _
  go_enter Tryz.func238, Tryz.ntmps238
  by_cases g0 : ((x.fConstructor.size : Nat) : Int) ≤ left
  · skip
    go_wp2_with fail
    refine (szStringS_c x.fVars _ K (fun b hb => Nat.lt_of_lt_of_le (hK b hb) hW.size) _ (Rep.ext hW hK hVars) _ (by omega) (by omega)).mono ?_
    rintro e w1 ⟨rfl, hB1⟩
    have hx1 : Below (w.heap.size + 1) (w.alloc (.cells #[.string x.fConstructor, c1, c2, c3, c4, c5, c6, c7, c8, c9, c10, c11, c12] 328)) w1 := hx.trans (hB1.mono (by have := hx.size; simp at this ⊢ <;> omega))
    have hb1 : Below w.heap.size w w1 := hW.trans (hx1.mono (Nat.le_succ _))
    have hc1 := (bcell hx1).1
    by_cases g1 : ((szs ByteArray.size x.fVars : Nat) : Int) ≤ left - ((x.fConstructor.size : Nat) : Int)
    · rw [szr_le g1]
      go_wp2_with fail
      refine (iSzCore x.fBody (by have := TCoreArm.lt_fBody x; omega) _ K (fun b hb => Nat.lt_of_lt_of_le (hK b hb) hb1.size) _ (Rep.ext hb1 hK hBody) _ (by omega) (by omega)).mono ?_
      rintro e w2 ⟨rfl, hB2⟩
      have hx2 : Below (w.heap.size + 1) (w.alloc (.cells #[.string x.fConstructor, c1, c2, c3, c4, c5, c6, c7, c8, c9, c10, c11, c12] 328)) w2 := hx1.trans (hB2.mono (by have := hx1.size; simp at this ⊢ <;> omega))
      have hb2 : Below w.heap.size w w2 := hW.trans (hx2.mono (Nat.le_succ _))
      have hc2 := (bcell hx2).1
      by_cases g2 : ((TCore.sz x.fBody : Nat) : Int) ≤ left - ((x.fConstructor.size : Nat) : Int) - ((szs ByteArray.size x.fVars : Nat) : Int)
      · rw [szr_le g2]
        go_wp2
        go_ret
        exact ⟨ret_int (by rw [TCoreArm.sz_eq]; unfold szr; (repeat' split) <;> omega), hb2⟩
      · rw [szr_gt g2]
        go_wp2
        go_ret
        exact ⟨ret_int (by rw [TCoreArm.sz_eq]; unfold szr; (repeat' split) <;> omega), hb2⟩
    · rw [szr_gt g1]
      go_wp2
      go_ret
      exact ⟨ret_int (by rw [TCoreArm.sz_eq]; unfold szr; (repeat' split) <;> omega), hb1⟩
  · go_wp2
    go_ret
    exact ⟨ret_int (by rw [TCoreArm.sz_eq]; unfold szr; (repeat' split) <;> omega), hW⟩
set_option maxRecDepth 100000 in
set_option maxHeartbeats 1000000 in
theorem stepSzCoreArmS (N : Nat) (iSzCoreArm : SzCoreArm N) (_iSzCoreArmS : SzCoreArmS N) (_iSzCore : SzCore N) (_iSzCoreS : SzCoreS N) : SzCoreArmS (N + 1) := by
  intro l hN w K hK v h left h0 h1
  obtain ⟨a, cap, rfl, hc, hm, -, hE⟩ := open_sl TCoreArm.width h
  unfold maxLen at hm
  clear h
  by_cases h2 : (l.length : Int) ≤ left
  · have Hg : Hid (szr (szL TCoreArm.sz (l.drop 0)) (left - l.length) = szr (szs TCoreArm.sz l) left) := by
      simp only [Hid, szr, szs, List.drop_zero]; (repeat' split) <;> omega
    go_enter Tryz.func202, Tryz.ntmps202
    go_wp2
    go_loopw [1, 5] (fun t i wr => ∃ (k : Nat) (lf : Int), k ≤ l.length ∧ 0 ≤ lf ∧ lf ≤ 1048576 ∧ i = .int .i64 k ∧ t = .int .i64 lf ∧ Hid (szr (szL TCoreArm.sz (l.drop k)) lf = szr (szs TCoreArm.sz l) left) ∧ Below w.heap.size w wr) (fun _ i _ => l.length - (intOf i).toNat)
    case atStart => exact ⟨0, _, Nat.zero_le _, by omega, by omega, rfl, rfl, Hg, Below.refl _ _⟩
    case round =>
      clear Hg
      obtain ⟨k, lf, hk, hl0, hl1, rfl, rfl, Hs, hB⟩ := hrel
      by_cases hlt : k < l.length
      · obtain ⟨b, off, rfl, hKb, cs, hcs, hr⟩ := hE k hlt
        have hr' := Rep.ext hB hK hr
        have hcs' := hcs.ext hB (hK b hKb)
        have hK' : ∀ b, K b → b < wr.heap.size := fun b h => Nat.lt_of_lt_of_le (hK b h) hB.size
        have Hd : Hid (l.drop k = l[k] :: l.drop (k + 1)) := List.drop_eq_getElem_cons hlt
        clear hE hcs hr
        have hi : (Tryz.prog.info? 328).map (·.size) = some cs.length := by rw [Rep.length _ _ hr', TCoreArm.width]; exact infoS328
        have hmem : l[k] ∈ l := List.getElem_mem hlt
        generalize l[k] = x at *
        go_wp2_with (with_reducible refine ld rfl 328 _ rfl b _ rfl cs hcs' _ Tryz.underlying328 hi ?_)
        refine (iSzCoreArm x (by have := List.sizeOf_lt_of_mem hmem; omega) _ K hK' _ hr' lf hl0 hl1).mono ?_
        rintro e w1 ⟨rfl, hB1⟩
        have hB2 := hB.trans (hB1.mono hB.size)
        by_cases h3 : (x.sz : Int) ≤ lf
        · rw [szr_le h3]
          go_wp2
          go_roundw
          case rel =>
            refine ⟨k + 1, lf - (x.sz : Int), hlt, by omega, by omega, by go_num, rfl, ?_, hB2⟩
            have e := Hs.out
            rw [Hd.out] at e
            unfold Hid
            rw [← e]
            simp only [szr, szL]
            (repeat' split) <;> omega
          case measure => simp [intOf]; omega
        · rw [szr_gt h3]
          have e := Hs.out
          rw [Hd.out] at e
          have hf : szr (szs TCoreArm.sz l) left = -1 := by
            rw [← e]; simp only [szr, szL]; (repeat' split) <;> omega
          have Hf := Lib.hid hf
          clear hf e
          go_wp2
          go_ret
          exact ⟨by rw [Hf.out]; rfl, hB2⟩
      · obtain rfl : k = l.length := by omega
        go_wp2
        go_ret
        refine ⟨?_, hB⟩
        rw [← Hs.out]
        simp [szr, szL, hl0]
  · have Hf : Hid (szr (szs TCoreArm.sz l) left = -1) := by
      simp only [Hid, szr, szs]; (repeat' split) <;> omega
    go_enter Tryz.func202, Tryz.ntmps202
    go_wp2
    go_ret
    exact ⟨by rw [Hf.out]; rfl, Below.refl _ _⟩
set_option maxRecDepth 100000 in
set_option maxHeartbeats 1000000 in
theorem stepSzCore (N : Nat) (_iSzCoreArm : SzCoreArm N) (iSzCoreArmS : SzCoreArmS N) (_iSzCore : SzCore N) (iSzCoreS : SzCoreS N) : SzCore (N + 1) := by
  intro x hN w K hK cs h left h0 h1
  obtain ⟨c4, c5, c6, c7, c8, c9, c10, rfl, hKind, hTrait, hName, hN, hType, hTypeArgs, hEvidence, hArgs, hArms⟩ := TCore.opn h
  clear h
  clear hKind
  unfold maxLen at hTrait
  unfold maxLen at hName
  clear hN
  have hW : Below w.heap.size w (w.alloc (.cells #[.int .i64 x.fKind, .string x.fTrait, .string x.fName, .int .i64 x.fN, c4, c5, c6, c7, c8, c9, c10] 155)) := (Below.refl _ _).alloc (Nat.le_refl _) _
  have hx : Below (w.heap.size + 1) (w.alloc (.cells #[.int .i64 x.fKind, .string x.fTrait, .string x.fName, .int .i64 x.fN, c4, c5, c6, c7, c8, c9, c10] 155)) (w.alloc (.cells #[.int .i64 x.fKind, .string x.fTrait, .string x.fName, .int .i64 x.fN, c4, c5, c6, c7, c8, c9, c10] 155)) := Below.refl _ _
  go_enter Tryz.func148, Tryz.ntmps148
  by_cases g0 : ((x.fTrait.size : Nat) : Int) ≤ left
  · skip
    by_cases g1 : ((x.fName.size : Nat) : Int) ≤ left - ((x.fTrait.size : Nat) : Int)
    · skip
      go_wp2_with fail
      refine (szType_c x.fType _ K (fun b hb => Nat.lt_of_lt_of_le (hK b hb) hW.size) _ (Rep.ext hW hK hType) _ (by omega) (by omega)).mono ?_
      rintro e w2 ⟨rfl, hB2⟩
      have hx2 : Below (w.heap.size + 1) (w.alloc (.cells #[.int .i64 x.fKind, .string x.fTrait, .string x.fName, .int .i64 x.fN, c4, c5, c6, c7, c8, c9, c10] 155)) w2 := hx.trans (hB2.mono (by have := hx.size; simp at this ⊢ <;> omega))
      have hb2 : Below w.heap.size w w2 := hW.trans (hx2.mono (Nat.le_succ _))
      have hc2 := (bcell hx2).1
      by_cases g2 : ((TType.sz x.fType : Nat) : Int) ≤ left - ((x.fTrait.size : Nat) : Int) - ((x.fName.size : Nat) : Int)
      · rw [szr_le g2]
        go_wp2_with fail
        refine (szTypeS_c x.fTypeArgs _ K (fun b hb => Nat.lt_of_lt_of_le (hK b hb) hb2.size) _ (Rep.ext hb2 hK hTypeArgs) _ (by omega) (by omega)).mono ?_
        rintro e w3 ⟨rfl, hB3⟩
        have hx3 : Below (w.heap.size + 1) (w.alloc (.cells #[.int .i64 x.fKind, .string x.fTrait, .string x.fName, .int .i64 x.fN, c4, c5, c6, c7, c8, c9, c10] 155)) w3 := hx2.trans (hB3.mono (by have := hx2.size; simp at this ⊢ <;> omega))
        have hb3 : Below w.heap.size w w3 := hW.trans (hx3.mono (Nat.le_succ _))
        have hc3 := (bcell hx3).1
        by_cases g3 : ((szs TType.sz x.fTypeArgs : Nat) : Int) ≤ left - ((x.fTrait.size : Nat) : Int) - ((x.fName.size : Nat) : Int) - ((TType.sz x.fType : Nat) : Int)
        · rw [szr_le g3]
          go_wp2_with fail
          refine (szEvidenceS_c x.fEvidence _ K (fun b hb => Nat.lt_of_lt_of_le (hK b hb) hb3.size) _ (Rep.ext hb3 hK hEvidence) _ (by omega) (by omega)).mono ?_
          rintro e w4 ⟨rfl, hB4⟩
          have hx4 : Below (w.heap.size + 1) (w.alloc (.cells #[.int .i64 x.fKind, .string x.fTrait, .string x.fName, .int .i64 x.fN, c4, c5, c6, c7, c8, c9, c10] 155)) w4 := hx3.trans (hB4.mono (by have := hx3.size; simp at this ⊢ <;> omega))
          have hb4 : Below w.heap.size w w4 := hW.trans (hx4.mono (Nat.le_succ _))
          have hc4 := (bcell hx4).1
          by_cases g4 : ((szs TEvidence.sz x.fEvidence : Nat) : Int) ≤ left - ((x.fTrait.size : Nat) : Int) - ((x.fName.size : Nat) : Int) - ((TType.sz x.fType : Nat) : Int) - ((szs TType.sz x.fTypeArgs : Nat) : Int)
          · rw [szr_le g4]
            go_wp2_with fail
            refine (iSzCoreS x.fArgs (by have := TCore.lt_fArgs x; omega) _ K (fun b hb => Nat.lt_of_lt_of_le (hK b hb) hb4.size) _ (Rep.ext hb4 hK hArgs) _ (by omega) (by omega)).mono ?_
            rintro e w5 ⟨rfl, hB5⟩
            have hx5 : Below (w.heap.size + 1) (w.alloc (.cells #[.int .i64 x.fKind, .string x.fTrait, .string x.fName, .int .i64 x.fN, c4, c5, c6, c7, c8, c9, c10] 155)) w5 := hx4.trans (hB5.mono (by have := hx4.size; simp at this ⊢ <;> omega))
            have hb5 : Below w.heap.size w w5 := hW.trans (hx5.mono (Nat.le_succ _))
            have hc5 := (bcell hx5).1
            by_cases g5 : ((szs TCore.sz x.fArgs : Nat) : Int) ≤ left - ((x.fTrait.size : Nat) : Int) - ((x.fName.size : Nat) : Int) - ((TType.sz x.fType : Nat) : Int) - ((szs TType.sz x.fTypeArgs : Nat) : Int) - ((szs TEvidence.sz x.fEvidence : Nat) : Int)
            · rw [szr_le g5]
              go_wp2_with fail
              refine (iSzCoreArmS x.fArms (by have := TCore.lt_fArms x; omega) _ K (fun b hb => Nat.lt_of_lt_of_le (hK b hb) hb5.size) _ (Rep.ext hb5 hK hArms) _ (by omega) (by omega)).mono ?_
              rintro e w6 ⟨rfl, hB6⟩
              have hx6 : Below (w.heap.size + 1) (w.alloc (.cells #[.int .i64 x.fKind, .string x.fTrait, .string x.fName, .int .i64 x.fN, c4, c5, c6, c7, c8, c9, c10] 155)) w6 := hx5.trans (hB6.mono (by have := hx5.size; simp at this ⊢ <;> omega))
              have hb6 : Below w.heap.size w w6 := hW.trans (hx6.mono (Nat.le_succ _))
              have hc6 := (bcell hx6).1
              by_cases g6 : ((szs TCoreArm.sz x.fArms : Nat) : Int) ≤ left - ((x.fTrait.size : Nat) : Int) - ((x.fName.size : Nat) : Int) - ((TType.sz x.fType : Nat) : Int) - ((szs TType.sz x.fTypeArgs : Nat) : Int) - ((szs TEvidence.sz x.fEvidence : Nat) : Int) - ((szs TCore.sz x.fArgs : Nat) : Int)
              · rw [szr_le g6]
                go_wp2
                go_ret
                exact ⟨ret_int (by rw [TCore.sz_eq]; unfold szr; (repeat' split) <;> omega), hb6⟩
              · rw [szr_gt g6]
                go_wp2
                go_ret
                exact ⟨ret_int (by rw [TCore.sz_eq]; unfold szr; (repeat' split) <;> omega), hb6⟩
            · rw [szr_gt g5]
              go_wp2
              go_ret
              exact ⟨ret_int (by rw [TCore.sz_eq]; unfold szr; (repeat' split) <;> omega), hb5⟩
          · rw [szr_gt g4]
            go_wp2
            go_ret
            exact ⟨ret_int (by rw [TCore.sz_eq]; unfold szr; (repeat' split) <;> omega), hb4⟩
        · rw [szr_gt g3]
          go_wp2
          go_ret
          exact ⟨ret_int (by rw [TCore.sz_eq]; unfold szr; (repeat' split) <;> omega), hb3⟩
      · rw [szr_gt g2]
        go_wp2
        go_ret
        exact ⟨ret_int (by rw [TCore.sz_eq]; unfold szr; (repeat' split) <;> omega), hb2⟩
    · go_wp2
      go_ret
      exact ⟨ret_int (by rw [TCore.sz_eq]; unfold szr; (repeat' split) <;> omega), hW⟩
  · go_wp2
    go_ret
    exact ⟨ret_int (by rw [TCore.sz_eq]; unfold szr; (repeat' split) <;> omega), hW⟩
set_option maxRecDepth 100000 in
set_option maxHeartbeats 1000000 in
theorem stepSzCoreS (N : Nat) (_iSzCoreArm : SzCoreArm N) (_iSzCoreArmS : SzCoreArmS N) (iSzCore : SzCore N) (_iSzCoreS : SzCoreS N) : SzCoreS (N + 1) := by
  intro l hN w K hK v h left h0 h1
  obtain ⟨a, cap, rfl, hc, hm, -, hE⟩ := open_sl TCore.width h
  unfold maxLen at hm
  clear h
  by_cases h2 : (l.length : Int) ≤ left
  · have Hg : Hid (szr (szL TCore.sz (l.drop 0)) (left - l.length) = szr (szs TCore.sz l) left) := by
      simp only [Hid, szr, szs, List.drop_zero]; (repeat' split) <;> omega
    go_enter Tryz.func201, Tryz.ntmps201
    go_wp2
    go_loopw [1, 5] (fun t i wr => ∃ (k : Nat) (lf : Int), k ≤ l.length ∧ 0 ≤ lf ∧ lf ≤ 1048576 ∧ i = .int .i64 k ∧ t = .int .i64 lf ∧ Hid (szr (szL TCore.sz (l.drop k)) lf = szr (szs TCore.sz l) left) ∧ Below w.heap.size w wr) (fun _ i _ => l.length - (intOf i).toNat)
    case atStart => exact ⟨0, _, Nat.zero_le _, by omega, by omega, rfl, rfl, Hg, Below.refl _ _⟩
    case round =>
      clear Hg
      obtain ⟨k, lf, hk, hl0, hl1, rfl, rfl, Hs, hB⟩ := hrel
      by_cases hlt : k < l.length
      · obtain ⟨b, off, rfl, hKb, cs, hcs, hr⟩ := hE k hlt
        have hr' := Rep.ext hB hK hr
        have hcs' := hcs.ext hB (hK b hKb)
        have hK' : ∀ b, K b → b < wr.heap.size := fun b h => Nat.lt_of_lt_of_le (hK b h) hB.size
        have Hd : Hid (l.drop k = l[k] :: l.drop (k + 1)) := List.drop_eq_getElem_cons hlt
        clear hE hcs hr
        have hi : (Tryz.prog.info? 155).map (·.size) = some cs.length := by rw [Rep.length _ _ hr', TCore.width]; exact infoS155
        have hmem : l[k] ∈ l := List.getElem_mem hlt
        generalize l[k] = x at *
        go_wp2_with (with_reducible refine ld rfl 155 _ rfl b _ rfl cs hcs' _ Tryz.underlying155 hi ?_)
        refine (iSzCore x (by have := List.sizeOf_lt_of_mem hmem; omega) _ K hK' _ hr' lf hl0 hl1).mono ?_
        rintro e w1 ⟨rfl, hB1⟩
        have hB2 := hB.trans (hB1.mono hB.size)
        by_cases h3 : (x.sz : Int) ≤ lf
        · rw [szr_le h3]
          go_wp2
          go_roundw
          case rel =>
            refine ⟨k + 1, lf - (x.sz : Int), hlt, by omega, by omega, by go_num, rfl, ?_, hB2⟩
            have e := Hs.out
            rw [Hd.out] at e
            unfold Hid
            rw [← e]
            simp only [szr, szL]
            (repeat' split) <;> omega
          case measure => simp [intOf]; omega
        · rw [szr_gt h3]
          have e := Hs.out
          rw [Hd.out] at e
          have hf : szr (szs TCore.sz l) left = -1 := by
            rw [← e]; simp only [szr, szL]; (repeat' split) <;> omega
          have Hf := Lib.hid hf
          clear hf e
          go_wp2
          go_ret
          exact ⟨by rw [Hf.out]; rfl, hB2⟩
      · obtain rfl : k = l.length := by omega
        go_wp2
        go_ret
        refine ⟨?_, hB⟩
        rw [← Hs.out]
        simp [szr, szL, hl0]
  · have Hf : Hid (szr (szs TCore.sz l) left = -1) := by
      simp only [Hid, szr, szs]; (repeat' split) <;> omega
    go_enter Tryz.func201, Tryz.ntmps201
    go_wp2
    go_ret
    exact ⟨by rw [Hf.out]; rfl, Below.refl _ _⟩
theorem szCoreArmCore_all : ∀ N : Nat, SzCoreArm N ∧ SzCoreArmS N ∧ SzCore N ∧ SzCoreS N
  | 0 => ⟨fun _ h => absurd h (Nat.not_lt_zero _), fun _ h => absurd h (Nat.not_lt_zero _), fun _ h => absurd h (Nat.not_lt_zero _), fun _ h => absurd h (Nat.not_lt_zero _)⟩
  | N + 1 => by
    obtain ⟨i0, i1, i2, i3⟩ := szCoreArmCore_all N
    exact ⟨stepSzCoreArm N i0 i1 i2 i3, stepSzCoreArmS N i0 i1 i2 i3, stepSzCore N i0 i1 i2 i3, stepSzCoreS N i0 i1 i2 i3⟩
theorem szCoreArm_c (x : TCoreArm) : ∀ (w : World) (K : Nat → Prop) (_ : ∀ b, K b → b < w.heap.size) (cs : List Value) (_ : Rep w K x.enc cs) (left : Int) (_ : 0 ≤ left) (_ : left ≤ 1048576),
    Calls Tryz.prog 238 #[.agg cs.toArray, .int .i64 left] w fun e w' => e = .returned (.int .i64 (szr x.sz left)) ∧ Below w.heap.size w w' := (szCoreArmCore_all (SizeOf.sizeOf x + 1)).1 x (Nat.lt_succ_self _)
theorem szCoreArmS_c (l : List TCoreArm) : ∀ (w : World) (K : Nat → Prop) (_ : ∀ b, K b → b < w.heap.size) (v : Value) (_ : Rep w K (.sl (l.map TCoreArm.enc)) [v]) (left : Int) (_ : 0 ≤ left) (_ : left ≤ 1048576),
    Calls Tryz.prog 202 #[v, .int .i64 left] w fun e w' => e = .returned (.int .i64 (szr (szs TCoreArm.sz l) left)) ∧ Below w.heap.size w w' := (szCoreArmCore_all (SizeOf.sizeOf l + 1)).2.1 l (Nat.lt_succ_self _)
theorem szCore_c (x : TCore) : ∀ (w : World) (K : Nat → Prop) (_ : ∀ b, K b → b < w.heap.size) (cs : List Value) (_ : Rep w K x.enc cs) (left : Int) (_ : 0 ≤ left) (_ : left ≤ 1048576),
    Calls Tryz.prog 148 #[.agg cs.toArray, .int .i64 left] w fun e w' => e = .returned (.int .i64 (szr x.sz left)) ∧ Below w.heap.size w w' := (szCoreArmCore_all (SizeOf.sizeOf x + 1)).2.2.1 x (Nat.lt_succ_self _)
theorem szCoreS_c (l : List TCore) : ∀ (w : World) (K : Nat → Prop) (_ : ∀ b, K b → b < w.heap.size) (v : Value) (_ : Rep w K (.sl (l.map TCore.enc)) [v]) (left : Int) (_ : 0 ≤ left) (_ : left ≤ 1048576),
    Calls Tryz.prog 201 #[v, .int .i64 left] w fun e w' => e = .returned (.int .i64 (szr (szs TCore.sz l) left)) ∧ Below w.heap.size w w' := (szCoreArmCore_all (SizeOf.sizeOf l + 1)).2.2.2 l (Nat.lt_succ_self _)
set_option maxRecDepth 100000 in
set_option maxHeartbeats 1000000 in
theorem szParam_c (x : TParam) : ∀ (w : World) (K : Nat → Prop) (_ : ∀ b, K b → b < w.heap.size) (cs : List Value) (_ : Rep w K x.enc cs) (left : Int) (_ : 0 ≤ left) (_ : left ≤ 1048576),
    Calls Tryz.prog 262 #[.agg cs.toArray, .int .i64 left] w fun e w' => e = .returned (.int .i64 (szr x.sz left)) ∧ Below w.heap.size w w' := by
  intro w K hK cs h left h0 h1
  obtain ⟨c1, c2, c3, rfl, hName, hType⟩ := TParam.opn h
  clear h
  unfold maxLen at hName
  have hW : Below w.heap.size w (w.alloc (.cells #[.string x.fName, c1, c2, c3] 348)) := (Below.refl _ _).alloc (Nat.le_refl _) _
  have hx : Below (w.heap.size + 1) (w.alloc (.cells #[.string x.fName, c1, c2, c3] 348)) (w.alloc (.cells #[.string x.fName, c1, c2, c3] 348)) := Below.refl _ _
  go_enter Tryz.func262, Tryz.ntmps262
  by_cases g0 : ((x.fName.size : Nat) : Int) ≤ left
  · skip
    go_wp2_with fail
    refine (szType_c x.fType _ K (fun b hb => Nat.lt_of_lt_of_le (hK b hb) hW.size) _ (Rep.ext hW hK hType) _ (by omega) (by omega)).mono ?_
    rintro e w1 ⟨rfl, hB1⟩
    have hx1 : Below (w.heap.size + 1) (w.alloc (.cells #[.string x.fName, c1, c2, c3] 348)) w1 := hx.trans (hB1.mono (by have := hx.size; simp at this ⊢ <;> omega))
    have hb1 : Below w.heap.size w w1 := hW.trans (hx1.mono (Nat.le_succ _))
    have hc1 := (bcell hx1).1
    by_cases g1 : ((TType.sz x.fType : Nat) : Int) ≤ left - ((x.fName.size : Nat) : Int)
    · rw [szr_le g1]
      go_wp2
      go_ret
      exact ⟨ret_int (by rw [TParam.sz_eq]; unfold szr; (repeat' split) <;> omega), hb1⟩
    · rw [szr_gt g1]
      go_wp2
      go_ret
      exact ⟨ret_int (by rw [TParam.sz_eq]; unfold szr; (repeat' split) <;> omega), hb1⟩
  · go_wp2
    go_ret
    exact ⟨ret_int (by rw [TParam.sz_eq]; unfold szr; (repeat' split) <;> omega), hW⟩
theorem infoS348 : (Tryz.prog.info? 348).map (·.size) = some 4 := by kernel_rfl
set_option maxRecDepth 100000 in
set_option maxHeartbeats 1000000 in
theorem szParamS_c (l : List TParam) : ∀ (w : World) (K : Nat → Prop) (_ : ∀ b, K b → b < w.heap.size) (v : Value) (_ : Rep w K (.sl (l.map TParam.enc)) [v]) (left : Int) (_ : 0 ≤ left) (_ : left ≤ 1048576),
    Calls Tryz.prog 252 #[v, .int .i64 left] w fun e w' => e = .returned (.int .i64 (szr (szs TParam.sz l) left)) ∧ Below w.heap.size w w' := by
  intro w K hK v h left h0 h1
  obtain ⟨a, cap, rfl, hc, hm, -, hE⟩ := open_sl TParam.width h
  unfold maxLen at hm
  clear h
  by_cases h2 : (l.length : Int) ≤ left
  · have Hg : Hid (szr (szL TParam.sz (l.drop 0)) (left - l.length) = szr (szs TParam.sz l) left) := by
      simp only [Hid, szr, szs, List.drop_zero]; (repeat' split) <;> omega
    go_enter Tryz.func252, Tryz.ntmps252
    go_wp2
    go_loopw [1, 5] (fun t i wr => ∃ (k : Nat) (lf : Int), k ≤ l.length ∧ 0 ≤ lf ∧ lf ≤ 1048576 ∧ i = .int .i64 k ∧ t = .int .i64 lf ∧ Hid (szr (szL TParam.sz (l.drop k)) lf = szr (szs TParam.sz l) left) ∧ Below w.heap.size w wr) (fun _ i _ => l.length - (intOf i).toNat)
    case atStart => exact ⟨0, _, Nat.zero_le _, by omega, by omega, rfl, rfl, Hg, Below.refl _ _⟩
    case round =>
      clear Hg
      obtain ⟨k, lf, hk, hl0, hl1, rfl, rfl, Hs, hB⟩ := hrel
      by_cases hlt : k < l.length
      · obtain ⟨b, off, rfl, hKb, cs, hcs, hr⟩ := hE k hlt
        have hr' := Rep.ext hB hK hr
        have hcs' := hcs.ext hB (hK b hKb)
        have hK' : ∀ b, K b → b < wr.heap.size := fun b h => Nat.lt_of_lt_of_le (hK b h) hB.size
        have Hd : Hid (l.drop k = l[k] :: l.drop (k + 1)) := List.drop_eq_getElem_cons hlt
        clear hE hcs hr
        have hi : (Tryz.prog.info? 348).map (·.size) = some cs.length := by rw [Rep.length _ _ hr', TParam.width]; exact infoS348
        have hmem : l[k] ∈ l := List.getElem_mem hlt
        generalize l[k] = x at *
        go_wp2_with (with_reducible refine ld rfl 348 _ rfl b _ rfl cs hcs' _ Tryz.underlying348 hi ?_)
        refine (szParam_c x _ K hK' _ hr' lf hl0 hl1).mono ?_
        rintro e w1 ⟨rfl, hB1⟩
        have hB2 := hB.trans (hB1.mono hB.size)
        by_cases h3 : (x.sz : Int) ≤ lf
        · rw [szr_le h3]
          go_wp2
          go_roundw
          case rel =>
            refine ⟨k + 1, lf - (x.sz : Int), hlt, by omega, by omega, by go_num, rfl, ?_, hB2⟩
            have e := Hs.out
            rw [Hd.out] at e
            unfold Hid
            rw [← e]
            simp only [szr, szL]
            (repeat' split) <;> omega
          case measure => simp [intOf]; omega
        · rw [szr_gt h3]
          have e := Hs.out
          rw [Hd.out] at e
          have hf : szr (szs TParam.sz l) left = -1 := by
            rw [← e]; simp only [szr, szL]; (repeat' split) <;> omega
          have Hf := Lib.hid hf
          clear hf e
          go_wp2
          go_ret
          exact ⟨by rw [Hf.out]; rfl, hB2⟩
      · obtain rfl : k = l.length := by omega
        go_wp2
        go_ret
        refine ⟨?_, hB⟩
        rw [← Hs.out]
        simp [szr, szL, hl0]
  · have Hf : Hid (szr (szs TParam.sz l) left = -1) := by
      simp only [Hid, szr, szs]; (repeat' split) <;> omega
    go_enter Tryz.func252, Tryz.ntmps252
    go_wp2
    go_ret
    exact ⟨by rw [Hf.out]; rfl, Below.refl _ _⟩
set_option maxRecDepth 100000 in
set_option maxHeartbeats 1000000 in
theorem szUnit_c (x : TUnit) : ∀ (w : World) (K : Nat → Prop) (_ : ∀ b, K b → b < w.heap.size) (cs : List Value) (_ : Rep w K x.enc cs) (left : Int) (_ : 0 ≤ left) (_ : left ≤ 1048576),
    Calls Tryz.prog 231 #[.agg cs.toArray, .int .i64 left] w fun e w' => e = .returned (.int .i64 (szr x.sz left)) ∧ Below w.heap.size w w' := by
  intro w K hK cs h left h0 h1
  obtain ⟨c4, c5, c6, c7, c8, c9, c10, c11, c12, c13, c14, c15, c16, c17, c18, c19, c20, rfl, hKind, hPackage, hAt, hSub, hVars, hWhere, hParams, hResult, hBody⟩ := TUnit.opn h
  clear h
  clear hKind
  clear hPackage
  clear hAt
  clear hSub
  have hW : Below w.heap.size w (w.alloc (.cells #[.int .i64 x.fKind, .int .i64 x.fPackage, .int .i64 x.fAt, .int .i64 x.fSub, c4, c5, c6, c7, c8, c9, c10, c11, c12, c13, c14, c15, c16, c17, c18, c19, c20] 315)) := (Below.refl _ _).alloc (Nat.le_refl _) _
  have hx : Below (w.heap.size + 1) (w.alloc (.cells #[.int .i64 x.fKind, .int .i64 x.fPackage, .int .i64 x.fAt, .int .i64 x.fSub, c4, c5, c6, c7, c8, c9, c10, c11, c12, c13, c14, c15, c16, c17, c18, c19, c20] 315)) (w.alloc (.cells #[.int .i64 x.fKind, .int .i64 x.fPackage, .int .i64 x.fAt, .int .i64 x.fSub, c4, c5, c6, c7, c8, c9, c10, c11, c12, c13, c14, c15, c16, c17, c18, c19, c20] 315)) := Below.refl _ _
  go_enter Tryz.func231, Tryz.ntmps231
  go_wp2_with fail
  refine (szStringS_c x.fVars _ K (fun b hb => Nat.lt_of_lt_of_le (hK b hb) hW.size) _ (Rep.ext hW hK hVars) _ (by omega) (by omega)).mono ?_
  rintro e w0 ⟨rfl, hB0⟩
  have hx0 : Below (w.heap.size + 1) (w.alloc (.cells #[.int .i64 x.fKind, .int .i64 x.fPackage, .int .i64 x.fAt, .int .i64 x.fSub, c4, c5, c6, c7, c8, c9, c10, c11, c12, c13, c14, c15, c16, c17, c18, c19, c20] 315)) w0 := hx.trans (hB0.mono (by have := hx.size; simp at this ⊢ <;> omega))
  have hb0 : Below w.heap.size w w0 := hW.trans (hx0.mono (Nat.le_succ _))
  have hc0 := (bcell hx0).1
  by_cases g0 : ((szs ByteArray.size x.fVars : Nat) : Int) ≤ left
  · rw [szr_le g0]
    go_wp2_with fail
    refine (szBoundS_c x.fWhere _ K (fun b hb => Nat.lt_of_lt_of_le (hK b hb) hb0.size) _ (Rep.ext hb0 hK hWhere) _ (by omega) (by omega)).mono ?_
    rintro e w1 ⟨rfl, hB1⟩
    have hx1 : Below (w.heap.size + 1) (w.alloc (.cells #[.int .i64 x.fKind, .int .i64 x.fPackage, .int .i64 x.fAt, .int .i64 x.fSub, c4, c5, c6, c7, c8, c9, c10, c11, c12, c13, c14, c15, c16, c17, c18, c19, c20] 315)) w1 := hx0.trans (hB1.mono (by have := hx0.size; simp at this ⊢ <;> omega))
    have hb1 : Below w.heap.size w w1 := hW.trans (hx1.mono (Nat.le_succ _))
    have hc1 := (bcell hx1).1
    by_cases g1 : ((szs TBound.sz x.fWhere : Nat) : Int) ≤ left - ((szs ByteArray.size x.fVars : Nat) : Int)
    · rw [szr_le g1]
      go_wp2_with fail
      refine (szParamS_c x.fParams _ K (fun b hb => Nat.lt_of_lt_of_le (hK b hb) hb1.size) _ (Rep.ext hb1 hK hParams) _ (by omega) (by omega)).mono ?_
      rintro e w2 ⟨rfl, hB2⟩
      have hx2 : Below (w.heap.size + 1) (w.alloc (.cells #[.int .i64 x.fKind, .int .i64 x.fPackage, .int .i64 x.fAt, .int .i64 x.fSub, c4, c5, c6, c7, c8, c9, c10, c11, c12, c13, c14, c15, c16, c17, c18, c19, c20] 315)) w2 := hx1.trans (hB2.mono (by have := hx1.size; simp at this ⊢ <;> omega))
      have hb2 : Below w.heap.size w w2 := hW.trans (hx2.mono (Nat.le_succ _))
      have hc2 := (bcell hx2).1
      by_cases g2 : ((szs TParam.sz x.fParams : Nat) : Int) ≤ left - ((szs ByteArray.size x.fVars : Nat) : Int) - ((szs TBound.sz x.fWhere : Nat) : Int)
      · rw [szr_le g2]
        go_wp2_with fail
        refine (szType_c x.fResult _ K (fun b hb => Nat.lt_of_lt_of_le (hK b hb) hb2.size) _ (Rep.ext hb2 hK hResult) _ (by omega) (by omega)).mono ?_
        rintro e w3 ⟨rfl, hB3⟩
        have hx3 : Below (w.heap.size + 1) (w.alloc (.cells #[.int .i64 x.fKind, .int .i64 x.fPackage, .int .i64 x.fAt, .int .i64 x.fSub, c4, c5, c6, c7, c8, c9, c10, c11, c12, c13, c14, c15, c16, c17, c18, c19, c20] 315)) w3 := hx2.trans (hB3.mono (by have := hx2.size; simp at this ⊢ <;> omega))
        have hb3 : Below w.heap.size w w3 := hW.trans (hx3.mono (Nat.le_succ _))
        have hc3 := (bcell hx3).1
        by_cases g3 : ((TType.sz x.fResult : Nat) : Int) ≤ left - ((szs ByteArray.size x.fVars : Nat) : Int) - ((szs TBound.sz x.fWhere : Nat) : Int) - ((szs TParam.sz x.fParams : Nat) : Int)
        · rw [szr_le g3]
          go_wp2_with fail
          refine (szCore_c x.fBody _ K (fun b hb => Nat.lt_of_lt_of_le (hK b hb) hb3.size) _ (Rep.ext hb3 hK hBody) _ (by omega) (by omega)).mono ?_
          rintro e w4 ⟨rfl, hB4⟩
          have hx4 : Below (w.heap.size + 1) (w.alloc (.cells #[.int .i64 x.fKind, .int .i64 x.fPackage, .int .i64 x.fAt, .int .i64 x.fSub, c4, c5, c6, c7, c8, c9, c10, c11, c12, c13, c14, c15, c16, c17, c18, c19, c20] 315)) w4 := hx3.trans (hB4.mono (by have := hx3.size; simp at this ⊢ <;> omega))
          have hb4 : Below w.heap.size w w4 := hW.trans (hx4.mono (Nat.le_succ _))
          have hc4 := (bcell hx4).1
          by_cases g4 : ((TCore.sz x.fBody : Nat) : Int) ≤ left - ((szs ByteArray.size x.fVars : Nat) : Int) - ((szs TBound.sz x.fWhere : Nat) : Int) - ((szs TParam.sz x.fParams : Nat) : Int) - ((TType.sz x.fResult : Nat) : Int)
          · rw [szr_le g4]
            go_wp2
            go_ret
            exact ⟨ret_int (by rw [TUnit.sz_eq]; unfold szr; (repeat' split) <;> omega), hb4⟩
          · rw [szr_gt g4]
            go_wp2
            go_ret
            exact ⟨ret_int (by rw [TUnit.sz_eq]; unfold szr; (repeat' split) <;> omega), hb4⟩
        · rw [szr_gt g3]
          go_wp2
          go_ret
          exact ⟨ret_int (by rw [TUnit.sz_eq]; unfold szr; (repeat' split) <;> omega), hb3⟩
      · rw [szr_gt g2]
        go_wp2
        go_ret
        exact ⟨ret_int (by rw [TUnit.sz_eq]; unfold szr; (repeat' split) <;> omega), hb2⟩
    · rw [szr_gt g1]
      go_wp2
      go_ret
      exact ⟨ret_int (by rw [TUnit.sz_eq]; unfold szr; (repeat' split) <;> omega), hb1⟩
  · rw [szr_gt g0]
    go_wp2
    go_ret
    exact ⟨ret_int (by rw [TUnit.sz_eq]; unfold szr; (repeat' split) <;> omega), hb0⟩
theorem infoS315 : (Tryz.prog.info? 315).map (·.size) = some 21 := by kernel_rfl
set_option maxRecDepth 100000 in
set_option maxHeartbeats 1000000 in
theorem szUnitS_c (l : List TUnit) : ∀ (w : World) (K : Nat → Prop) (_ : ∀ b, K b → b < w.heap.size) (v : Value) (_ : Rep w K (.sl (l.map TUnit.enc)) [v]) (left : Int) (_ : 0 ≤ left) (_ : left ≤ 1048576),
    Calls Tryz.prog 190 #[v, .int .i64 left] w fun e w' => e = .returned (.int .i64 (szr (szs TUnit.sz l) left)) ∧ Below w.heap.size w w' := by
  intro w K hK v h left h0 h1
  obtain ⟨a, cap, rfl, hc, hm, -, hE⟩ := open_sl TUnit.width h
  unfold maxLen at hm
  clear h
  by_cases h2 : (l.length : Int) ≤ left
  · have Hg : Hid (szr (szL TUnit.sz (l.drop 0)) (left - l.length) = szr (szs TUnit.sz l) left) := by
      simp only [Hid, szr, szs, List.drop_zero]; (repeat' split) <;> omega
    go_enter Tryz.func190, Tryz.ntmps190
    go_wp2
    go_loopw [1, 5] (fun t i wr => ∃ (k : Nat) (lf : Int), k ≤ l.length ∧ 0 ≤ lf ∧ lf ≤ 1048576 ∧ i = .int .i64 k ∧ t = .int .i64 lf ∧ Hid (szr (szL TUnit.sz (l.drop k)) lf = szr (szs TUnit.sz l) left) ∧ Below w.heap.size w wr) (fun _ i _ => l.length - (intOf i).toNat)
    case atStart => exact ⟨0, _, Nat.zero_le _, by omega, by omega, rfl, rfl, Hg, Below.refl _ _⟩
    case round =>
      clear Hg
      obtain ⟨k, lf, hk, hl0, hl1, rfl, rfl, Hs, hB⟩ := hrel
      by_cases hlt : k < l.length
      · obtain ⟨b, off, rfl, hKb, cs, hcs, hr⟩ := hE k hlt
        have hr' := Rep.ext hB hK hr
        have hcs' := hcs.ext hB (hK b hKb)
        have hK' : ∀ b, K b → b < wr.heap.size := fun b h => Nat.lt_of_lt_of_le (hK b h) hB.size
        have Hd : Hid (l.drop k = l[k] :: l.drop (k + 1)) := List.drop_eq_getElem_cons hlt
        clear hE hcs hr
        have hi : (Tryz.prog.info? 315).map (·.size) = some cs.length := by rw [Rep.length _ _ hr', TUnit.width]; exact infoS315
        have hmem : l[k] ∈ l := List.getElem_mem hlt
        generalize l[k] = x at *
        go_wp2_with (with_reducible refine ld rfl 315 _ rfl b _ rfl cs hcs' _ Tryz.underlying315 hi ?_)
        refine (szUnit_c x _ K hK' _ hr' lf hl0 hl1).mono ?_
        rintro e w1 ⟨rfl, hB1⟩
        have hB2 := hB.trans (hB1.mono hB.size)
        by_cases h3 : (x.sz : Int) ≤ lf
        · rw [szr_le h3]
          go_wp2
          go_roundw
          case rel =>
            refine ⟨k + 1, lf - (x.sz : Int), hlt, by omega, by omega, by go_num, rfl, ?_, hB2⟩
            have e := Hs.out
            rw [Hd.out] at e
            unfold Hid
            rw [← e]
            simp only [szr, szL]
            (repeat' split) <;> omega
          case measure => simp [intOf]; omega
        · rw [szr_gt h3]
          have e := Hs.out
          rw [Hd.out] at e
          have hf : szr (szs TUnit.sz l) left = -1 := by
            rw [← e]; simp only [szr, szL]; (repeat' split) <;> omega
          have Hf := Lib.hid hf
          clear hf e
          go_wp2
          go_ret
          exact ⟨by rw [Hf.out]; rfl, hB2⟩
      · obtain rfl : k = l.length := by omega
        go_wp2
        go_ret
        refine ⟨?_, hB⟩
        rw [← Hs.out]
        simp [szr, szL, hl0]
  · have Hf : Hid (szr (szs TUnit.sz l) left = -1) := by
      simp only [Hid, szr, szs]; (repeat' split) <;> omega
    go_enter Tryz.func190, Tryz.ntmps190
    go_wp2
    go_ret
    exact ⟨by rw [Hf.out]; rfl, Below.refl _ _⟩
theorem infoS318 : (Tryz.prog.info? 318).map (·.size) = some 6 := by kernel_rfl
set_option maxRecDepth 100000 in
set_option maxHeartbeats 1000000 in
theorem szUnitErrorS_c (l : List TUnitError) : ∀ (w : World) (K : Nat → Prop) (_ : ∀ b, K b → b < w.heap.size) (v : Value) (_ : Rep w K (.sl (l.map TUnitError.enc)) [v]) (left : Int) (_ : 0 ≤ left) (_ : left ≤ 1048576),
    Calls Tryz.prog 191 #[v, .int .i64 left] w fun e w' => e = .returned (.int .i64 (szr (szs (fun _ => 0) l) left)) ∧ Below w.heap.size w w' := by
  intro w K hK v h left h0 h1
  obtain ⟨a, cap, rfl, hc, hm, -, hE⟩ := open_sl TUnitError.width h
  unfold maxLen at hm
  clear h
  by_cases h2 : (l.length : Int) ≤ left
  · go_enter Tryz.func191, Tryz.ntmps191
    go_wp2
    go_ret
    exact ⟨ret_int (by have := szL_zero l; unfold szr szs; (repeat' split) <;> omega), Below.refl _ _⟩
  · have Hf : Hid (szr (szs (fun _ => 0) l) left = -1) := by
      simp only [Hid, szr, szs]; (repeat' split) <;> omega
    go_enter Tryz.func191, Tryz.ntmps191
    go_wp2
    go_ret
    exact ⟨by rw [Hf.out]; rfl, Below.refl _ _⟩
set_option maxRecDepth 100000 in
set_option maxHeartbeats 1000000 in
theorem szBuiltPackage_c (x : TBuiltPackage) : ∀ (w : World) (K : Nat → Prop) (_ : ∀ b, K b → b < w.heap.size) (cs : List Value) (_ : Rep w K x.enc cs) (left : Int) (_ : 0 ≤ left) (_ : left ≤ 1048576),
    Calls Tryz.prog 131 #[.agg cs.toArray, .int .i64 left] w fun e w' => e = .returned (.int .i64 (szr x.sz left)) ∧ Below w.heap.size w w' := by
  intro w K hK cs h left h0 h1
  obtain ⟨c2, c3, rfl, hName, hKey, hUnits, hErrors⟩ := TBuiltPackage.opn h
  clear h
  unfold maxLen at hName
  unfold maxLen at hKey
  have hW : Below w.heap.size w (w.alloc (.cells #[.string x.fName, .string x.fKey, c2, c3] 221)) := (Below.refl _ _).alloc (Nat.le_refl _) _
  have hx : Below (w.heap.size + 1) (w.alloc (.cells #[.string x.fName, .string x.fKey, c2, c3] 221)) (w.alloc (.cells #[.string x.fName, .string x.fKey, c2, c3] 221)) := Below.refl _ _
  go_enter Tryz.func131, Tryz.ntmps131
  by_cases g0 : ((x.fName.size : Nat) : Int) ≤ left
  · skip
    by_cases g1 : ((x.fKey.size : Nat) : Int) ≤ left - ((x.fName.size : Nat) : Int)
    · skip
      go_wp2_with fail
      refine (szUnitS_c x.fUnits _ K (fun b hb => Nat.lt_of_lt_of_le (hK b hb) hW.size) _ (Rep.ext hW hK hUnits) _ (by omega) (by omega)).mono ?_
      rintro e w2 ⟨rfl, hB2⟩
      have hx2 : Below (w.heap.size + 1) (w.alloc (.cells #[.string x.fName, .string x.fKey, c2, c3] 221)) w2 := hx.trans (hB2.mono (by have := hx.size; simp at this ⊢ <;> omega))
      have hb2 : Below w.heap.size w w2 := hW.trans (hx2.mono (Nat.le_succ _))
      have hc2 := (bcell hx2).1
      by_cases g2 : ((szs TUnit.sz x.fUnits : Nat) : Int) ≤ left - ((x.fName.size : Nat) : Int) - ((x.fKey.size : Nat) : Int)
      · rw [szr_le g2]
        go_wp2_with fail
        refine (szUnitErrorS_c x.fErrors _ K (fun b hb => Nat.lt_of_lt_of_le (hK b hb) hb2.size) _ (Rep.ext hb2 hK hErrors) _ (by omega) (by omega)).mono ?_
        rintro e w3 ⟨rfl, hB3⟩
        have hx3 : Below (w.heap.size + 1) (w.alloc (.cells #[.string x.fName, .string x.fKey, c2, c3] 221)) w3 := hx2.trans (hB3.mono (by have := hx2.size; simp at this ⊢ <;> omega))
        have hb3 : Below w.heap.size w w3 := hW.trans (hx3.mono (Nat.le_succ _))
        have hc3 := (bcell hx3).1
        by_cases g3 : ((szs (fun _ => 0) x.fErrors : Nat) : Int) ≤ left - ((x.fName.size : Nat) : Int) - ((x.fKey.size : Nat) : Int) - ((szs TUnit.sz x.fUnits : Nat) : Int)
        · rw [szr_le g3]
          go_wp2
          go_ret
          exact ⟨ret_int (by rw [TBuiltPackage.sz_eq]; unfold szr; (repeat' split) <;> omega), hb3⟩
        · rw [szr_gt g3]
          go_wp2
          go_ret
          exact ⟨ret_int (by rw [TBuiltPackage.sz_eq]; unfold szr; (repeat' split) <;> omega), hb3⟩
      · rw [szr_gt g2]
        go_wp2
        go_ret
        exact ⟨ret_int (by rw [TBuiltPackage.sz_eq]; unfold szr; (repeat' split) <;> omega), hb2⟩
    · go_wp2
      go_ret
      exact ⟨ret_int (by rw [TBuiltPackage.sz_eq]; unfold szr; (repeat' split) <;> omega), hW⟩
  · go_wp2
    go_ret
    exact ⟨ret_int (by rw [TBuiltPackage.sz_eq]; unfold szr; (repeat' split) <;> omega), hW⟩
theorem infoS221 : (Tryz.prog.info? 221).map (·.size) = some 4 := by kernel_rfl
set_option maxRecDepth 100000 in
set_option maxHeartbeats 1000000 in
theorem szBuiltPackageS_c (l : List TBuiltPackage) : ∀ (w : World) (K : Nat → Prop) (_ : ∀ b, K b → b < w.heap.size) (v : Value) (_ : Rep w K (.sl (l.map TBuiltPackage.enc)) [v]) (left : Int) (_ : 0 ≤ left) (_ : left ≤ 1048576),
    Calls Tryz.prog 69 #[v, .int .i64 left] w fun e w' => e = .returned (.int .i64 (szr (szs TBuiltPackage.sz l) left)) ∧ Below w.heap.size w w' := by
  intro w K hK v h left h0 h1
  obtain ⟨a, cap, rfl, hc, hm, -, hE⟩ := open_sl TBuiltPackage.width h
  unfold maxLen at hm
  clear h
  by_cases h2 : (l.length : Int) ≤ left
  · have Hg : Hid (szr (szL TBuiltPackage.sz (l.drop 0)) (left - l.length) = szr (szs TBuiltPackage.sz l) left) := by
      simp only [Hid, szr, szs, List.drop_zero]; (repeat' split) <;> omega
    go_enter Tryz.func69, Tryz.ntmps69
    go_wp2
    go_loopw [1, 5] (fun t i wr => ∃ (k : Nat) (lf : Int), k ≤ l.length ∧ 0 ≤ lf ∧ lf ≤ 1048576 ∧ i = .int .i64 k ∧ t = .int .i64 lf ∧ Hid (szr (szL TBuiltPackage.sz (l.drop k)) lf = szr (szs TBuiltPackage.sz l) left) ∧ Below w.heap.size w wr) (fun _ i _ => l.length - (intOf i).toNat)
    case atStart => exact ⟨0, _, Nat.zero_le _, by omega, by omega, rfl, rfl, Hg, Below.refl _ _⟩
    case round =>
      clear Hg
      obtain ⟨k, lf, hk, hl0, hl1, rfl, rfl, Hs, hB⟩ := hrel
      by_cases hlt : k < l.length
      · obtain ⟨b, off, rfl, hKb, cs, hcs, hr⟩ := hE k hlt
        have hr' := Rep.ext hB hK hr
        have hcs' := hcs.ext hB (hK b hKb)
        have hK' : ∀ b, K b → b < wr.heap.size := fun b h => Nat.lt_of_lt_of_le (hK b h) hB.size
        have Hd : Hid (l.drop k = l[k] :: l.drop (k + 1)) := List.drop_eq_getElem_cons hlt
        clear hE hcs hr
        have hi : (Tryz.prog.info? 221).map (·.size) = some cs.length := by rw [Rep.length _ _ hr', TBuiltPackage.width]; exact infoS221
        have hmem : l[k] ∈ l := List.getElem_mem hlt
        generalize l[k] = x at *
        go_wp2_with (with_reducible refine ld rfl 221 _ rfl b _ rfl cs hcs' _ Tryz.underlying221 hi ?_)
        refine (szBuiltPackage_c x _ K hK' _ hr' lf hl0 hl1).mono ?_
        rintro e w1 ⟨rfl, hB1⟩
        have hB2 := hB.trans (hB1.mono hB.size)
        by_cases h3 : (x.sz : Int) ≤ lf
        · rw [szr_le h3]
          go_wp2
          go_roundw
          case rel =>
            refine ⟨k + 1, lf - (x.sz : Int), hlt, by omega, by omega, by go_num, rfl, ?_, hB2⟩
            have e := Hs.out
            rw [Hd.out] at e
            unfold Hid
            rw [← e]
            simp only [szr, szL]
            (repeat' split) <;> omega
          case measure => simp [intOf]; omega
        · rw [szr_gt h3]
          have e := Hs.out
          rw [Hd.out] at e
          have hf : szr (szs TBuiltPackage.sz l) left = -1 := by
            rw [← e]; simp only [szr, szL]; (repeat' split) <;> omega
          have Hf := Lib.hid hf
          clear hf e
          go_wp2
          go_ret
          exact ⟨by rw [Hf.out]; rfl, hB2⟩
      · obtain rfl : k = l.length := by omega
        go_wp2
        go_ret
        refine ⟨?_, hB⟩
        rw [← Hs.out]
        simp [szr, szL, hl0]
  · have Hf : Hid (szr (szs TBuiltPackage.sz l) left = -1) := by
      simp only [Hid, szr, szs]; (repeat' split) <;> omega
    go_enter Tryz.func69, Tryz.ntmps69
    go_wp2
    go_ret
    exact ⟨by rw [Hf.out]; rfl, Below.refl _ _⟩
set_option maxRecDepth 100000 in
set_option maxHeartbeats 1000000 in
theorem szBuild_c (x : TBuild) : ∀ (w : World) (K : Nat → Prop) (_ : ∀ b, K b → b < w.heap.size) (cs : List Value) (_ : Rep w K x.enc cs) (left : Int) (_ : 0 ≤ left) (_ : left ≤ 1048576),
    Calls Tryz.prog 24 #[.agg cs.toArray, .int .i64 left] w fun e w' => e = .returned (.int .i64 (szr x.sz left)) ∧ Below w.heap.size w w' := by
  intro w K hK cs h left h0 h1
  obtain ⟨c0, rfl, hPackages⟩ := TBuild.opn h
  clear h
  have hW : Below w.heap.size w (w.alloc (.cells #[c0] 63)) := (Below.refl _ _).alloc (Nat.le_refl _) _
  have hx : Below (w.heap.size + 1) (w.alloc (.cells #[c0] 63)) (w.alloc (.cells #[c0] 63)) := Below.refl _ _
  go_enter Tryz.func24, Tryz.ntmps24
  go_wp2_with fail
  refine (szBuiltPackageS_c x.fPackages _ K (fun b hb => Nat.lt_of_lt_of_le (hK b hb) hW.size) _ (Rep.ext hW hK hPackages) _ (by omega) (by omega)).mono ?_
  rintro e w0 ⟨rfl, hB0⟩
  have hx0 : Below (w.heap.size + 1) (w.alloc (.cells #[c0] 63)) w0 := hx.trans (hB0.mono (by have := hx.size; simp at this ⊢ <;> omega))
  have hb0 : Below w.heap.size w w0 := hW.trans (hx0.mono (Nat.le_succ _))
  have hc0 := (bcell hx0).1
  by_cases g0 : ((szs TBuiltPackage.sz x.fPackages : Nat) : Int) ≤ left
  · rw [szr_le g0]
    go_wp2
    go_ret
    exact ⟨ret_int (by rw [TBuild.sz_eq]; unfold szr; (repeat' split) <;> omega), hb0⟩
  · rw [szr_gt g0]
    go_wp2
    go_ret
    exact ⟨ret_int (by rw [TBuild.sz_eq]; unfold szr; (repeat' split) <;> omega), hb0⟩
end Go.Proofs.YtkmiecgcibjkbaaGreat
