/- The functions sz.. of the laws: each takes a value's size from what is left of the bound. Conditions: what is left is from 0 to 1048576. -/
import Derived.Test.YtkmiecgcibjkbaaGreatTypes
namespace Go.Proofs.YtkmiecgcibjkbaaGreat
open Go.RowKit
set_option maxRecDepth 100000 in
set_option maxHeartbeats 1000000 in
theorem szStringS_c (l : List ByteArray) : ∀ (w : World) (K : Nat → Prop) (_ : ∀ b, K b → b < w.heap.size) (v : Value) (_ : Rep w K (.sl (l.map encS)) [v]) (left : Int) (_ : 0 ≤ left) (_ : left ≤ 1048576),
    Calls Tryz.prog 147 #[v, .int .i64 left] w fun e w' => e = .returned (.int .i64 (szr (szs ByteArray.size l) left)) ∧ Below w.heap.size w w' := by
  intro w K hK v h left h0 h1
  obtain ⟨a, cap, rfl, hc, hm, -, hE⟩ := open_sl encS_w h
  unfold maxLen at hm
  clear h
  by_cases h2 : (l.length : Int) ≤ left
  · have Hg : Hid (szr (szL ByteArray.size (l.drop 0)) (left - l.length) = szr (szs ByteArray.size l) left) := by
      simp only [Hid, szr, szs, List.drop_zero]; (repeat' split) <;> omega
    go_enter Tryz.func147, Tryz.ntmps147
    go_wp2
    go_loopw [1, 5] (fun t i wr => ∃ (k : Nat) (lf : Int), k ≤ l.length ∧ 0 ≤ lf ∧ lf ≤ 1048576 ∧ i = .int .i64 k ∧ t = .int .i64 lf ∧ Hid (szr (szL ByteArray.size (l.drop k)) lf = szr (szs ByteArray.size l) left) ∧ Below w.heap.size w wr) (fun _ i _ => l.length - (intOf i).toNat)
    case atStart => exact ⟨0, _, Nat.zero_le _, by omega, by omega, rfl, rfl, Hg, Below.refl _ _⟩
    case round =>
      clear Hg
      obtain ⟨k, lf, hk, hl0, hl1, rfl, rfl, Hs, hB⟩ := hrel
      by_cases hlt : k < l.length
      · obtain ⟨b, off, rfl, hKb, cs, hcs, hr⟩ := hE k hlt
        have hr' := Rep.ext hB hK hr
        have hcs' := hcs.ext hB (hK b hKb)
        have hK' : ∀ b, K b → b < wr.heap.size := fun b h => Nat.lt_of_lt_of_le (hK b h) hB.size
        have Hd : Hid (l.drop k = l[k] :: l.drop (k + 1)) := List.drop_eq_getElem_cons hlt
        clear hE hcs hr
        simp only [encS, Rep] at hr'
        obtain ⟨rfl, hz⟩ := hr'
        have g0 : wr.cell? ⟨b, off + k, none⟩ = some (.string l[k]) := by simpa using hcs' 0 _ rfl
        have hz' : l[k].size ≤ 9223372036854775807 := hz
        clear hcs' hz
        generalize l[k] = x at *
        by_cases h3 : (x.size : Int) ≤ lf
        · go_wp2
          go_roundw
          case rel =>
            refine ⟨k + 1, lf - (x.size : Int), hlt, by omega, by omega, by go_num, rfl, ?_, hB⟩
            have e := Hs.out
            rw [Hd.out] at e
            unfold Hid
            rw [← e]
            simp only [szr, szL]
            (repeat' split) <;> omega
          case measure => simp [intOf]; omega
        · skip
          have e := Hs.out
          rw [Hd.out] at e
          have hf : szr (szs ByteArray.size l) left = -1 := by
            rw [← e]; simp only [szr, szL]; (repeat' split) <;> omega
          have Hf := Lib.hid hf
          clear hf e
          go_wp2
          go_ret
          exact ⟨by rw [Hf.out]; rfl, hB⟩
      · obtain rfl : k = l.length := by omega
        go_wp2
        go_ret
        refine ⟨?_, hB⟩
        rw [← Hs.out]
        simp [szr, szL, hl0]
  · have Hf : Hid (szr (szs ByteArray.size l) left = -1) := by
      simp only [Hid, szr, szs]; (repeat' split) <;> omega
    go_enter Tryz.func147, Tryz.ntmps147
    go_wp2
    go_ret
    exact ⟨by rw [Hf.out]; rfl, Below.refl _ _⟩
theorem infoS150 : (Tryz.prog.info? 150).map (·.size) = some 3 := by kernel_rfl
def SzType (N : Nat) : Prop := ∀ (x : TType), SizeOf.sizeOf x < N → ∀ (w : World) (K : Nat → Prop) (_ : ∀ b, K b → b < w.heap.size) (cs : List Value) (_ : Rep w K x.enc cs) (left : Int) (_ : 0 ≤ left) (_ : left ≤ 1048576),
    Calls Tryz.prog 149 #[.agg cs.toArray, .int .i64 left] w fun e w' => e = .returned (.int .i64 (szr x.sz left)) ∧ Below w.heap.size w w'
def SzTypeS (N : Nat) : Prop := ∀ (l : List TType), SizeOf.sizeOf l < N → ∀ (w : World) (K : Nat → Prop) (_ : ∀ b, K b → b < w.heap.size) (v : Value) (_ : Rep w K (.sl (l.map TType.enc)) [v]) (left : Int) (_ : 0 ≤ left) (_ : left ≤ 1048576),
    Calls Tryz.prog 146 #[v, .int .i64 left] w fun e w' => e = .returned (.int .i64 (szr (szs TType.sz l) left)) ∧ Below w.heap.size w w'
set_option maxRecDepth 100000 in
set_option maxHeartbeats 1000000 in
theorem stepSzType (N : Nat) (_iSzType : SzType N) (iSzTypeS : SzTypeS N) : SzType (N + 1) := by
  intro x hN w K hK cs h left h0 h1
  obtain ⟨c2, rfl, hKind, hName, hArgs⟩ := TType.opn h
  clear h
  clear hKind
  unfold maxLen at hName
  have hW : Below w.heap.size w (w.alloc (.cells #[.int .i64 x.fKind, .string x.fName, c2] 150)) := (Below.refl _ _).alloc (Nat.le_refl _) _
  have hx : Below (w.heap.size + 1) (w.alloc (.cells #[.int .i64 x.fKind, .string x.fName, c2] 150)) (w.alloc (.cells #[.int .i64 x.fKind, .string x.fName, c2] 150)) := Below.refl _ _
  go_enter Tryz.func149, Tryz.ntmps149
  by_cases g0 : ((x.fName.size : Nat) : Int) ≤ left
  · skip
    go_wp2_with fail
    refine (iSzTypeS x.fArgs (by have := TType.lt_fArgs x; omega) _ K (fun b hb => Nat.lt_of_lt_of_le (hK b hb) hW.size) _ (Rep.ext hW hK hArgs) _ (by omega) (by omega)).mono ?_
    rintro e w1 ⟨rfl, hB1⟩
    have hx1 : Below (w.heap.size + 1) (w.alloc (.cells #[.int .i64 x.fKind, .string x.fName, c2] 150)) w1 := hx.trans (hB1.mono (by have := hx.size; simp at this ⊢ <;> omega))
    have hb1 : Below w.heap.size w w1 := hW.trans (hx1.mono (Nat.le_succ _))
    have hc1 := (bcell hx1).1
    by_cases g1 : ((szs TType.sz x.fArgs : Nat) : Int) ≤ left - ((x.fName.size : Nat) : Int)
    · rw [szr_le g1]
      go_wp2
      go_ret
      exact ⟨ret_int (by rw [TType.sz_eq]; unfold szr; (repeat' split) <;> omega), hb1⟩
    · rw [szr_gt g1]
      go_wp2
      go_ret
      exact ⟨ret_int (by rw [TType.sz_eq]; unfold szr; (repeat' split) <;> omega), hb1⟩
  · go_wp2
    go_ret
    exact ⟨ret_int (by rw [TType.sz_eq]; unfold szr; (repeat' split) <;> omega), hW⟩
set_option maxRecDepth 100000 in
set_option maxHeartbeats 1000000 in
theorem stepSzTypeS (N : Nat) (iSzType : SzType N) (_iSzTypeS : SzTypeS N) : SzTypeS (N + 1) := by
  intro l hN w K hK v h left h0 h1
  obtain ⟨a, cap, rfl, hc, hm, -, hE⟩ := open_sl TType.width h
  unfold maxLen at hm
  clear h
  by_cases h2 : (l.length : Int) ≤ left
  · have Hg : Hid (szr (szL TType.sz (l.drop 0)) (left - l.length) = szr (szs TType.sz l) left) := by
      simp only [Hid, szr, szs, List.drop_zero]; (repeat' split) <;> omega
    go_enter Tryz.func146, Tryz.ntmps146
    go_wp2
    go_loopw [1, 5] (fun t i wr => ∃ (k : Nat) (lf : Int), k ≤ l.length ∧ 0 ≤ lf ∧ lf ≤ 1048576 ∧ i = .int .i64 k ∧ t = .int .i64 lf ∧ Hid (szr (szL TType.sz (l.drop k)) lf = szr (szs TType.sz l) left) ∧ Below w.heap.size w wr) (fun _ i _ => l.length - (intOf i).toNat)
    case atStart => exact ⟨0, _, Nat.zero_le _, by omega, by omega, rfl, rfl, Hg, Below.refl _ _⟩
    case round =>
      clear Hg
      obtain ⟨k, lf, hk, hl0, hl1, rfl, rfl, Hs, hB⟩ := hrel
      by_cases hlt : k < l.length
      · obtain ⟨b, off, rfl, hKb, cs, hcs, hr⟩ := hE k hlt
        have hr' := Rep.ext hB hK hr
        have hcs' := hcs.ext hB (hK b hKb)
        have hK' : ∀ b, K b → b < wr.heap.size := fun b h => Nat.lt_of_lt_of_le (hK b h) hB.size
        have Hd : Hid (l.drop k = l[k] :: l.drop (k + 1)) := List.drop_eq_getElem_cons hlt
        clear hE hcs hr
        have hi : (Tryz.prog.info? 150).map (·.size) = some cs.length := by rw [Rep.length _ _ hr', TType.width]; exact infoS150
        have hmem : l[k] ∈ l := List.getElem_mem hlt
        generalize l[k] = x at *
        go_wp2_with (with_reducible refine ld rfl 150 _ rfl b _ rfl cs hcs' _ Tryz.underlying150 hi ?_)
        refine (iSzType x (by have := List.sizeOf_lt_of_mem hmem; omega) _ K hK' _ hr' lf hl0 hl1).mono ?_
        rintro e w1 ⟨rfl, hB1⟩
        have hB2 := hB.trans (hB1.mono hB.size)
        by_cases h3 : (x.sz : Int) ≤ lf
        · rw [szr_le h3]
          go_wp2
          go_roundw
          case rel =>
            refine ⟨k + 1, lf - (x.sz : Int), hlt, by omega, by omega, by go_num, rfl, ?_, hB2⟩
            have e := Hs.out
            rw [Hd.out] at e
            unfold Hid
            rw [← e]
            simp only [szr, szL]
            (repeat' split) <;> omega
          case measure => simp [intOf]; omega
        · rw [szr_gt h3]
          have e := Hs.out
          rw [Hd.out] at e
          have hf : szr (szs TType.sz l) left = -1 := by
            rw [← e]; simp only [szr, szL]; (repeat' split) <;> omega
          have Hf := Lib.hid hf
          clear hf e
          go_wp2
          go_ret
          exact ⟨by rw [Hf.out]; rfl, hB2⟩
      · obtain rfl : k = l.length := by omega
        go_wp2
        go_ret
        refine ⟨?_, hB⟩
        rw [← Hs.out]
        simp [szr, szL, hl0]
  · have Hf : Hid (szr (szs TType.sz l) left = -1) := by
      simp only [Hid, szr, szs]; (repeat' split) <;> omega
    go_enter Tryz.func146, Tryz.ntmps146
    go_wp2
    go_ret
    exact ⟨by rw [Hf.out]; rfl, Below.refl _ _⟩
theorem szType_all : ∀ N : Nat, SzType N ∧ SzTypeS N
  | 0 => ⟨fun _ h => absurd h (Nat.not_lt_zero _), fun _ h => absurd h (Nat.not_lt_zero _)⟩
  | N + 1 => by
    obtain ⟨i0, i1⟩ := szType_all N
    exact ⟨stepSzType N i0 i1, stepSzTypeS N i0 i1⟩
theorem szType_c (x : TType) : ∀ (w : World) (K : Nat → Prop) (_ : ∀ b, K b → b < w.heap.size) (cs : List Value) (_ : Rep w K x.enc cs) (left : Int) (_ : 0 ≤ left) (_ : left ≤ 1048576),
    Calls Tryz.prog 149 #[.agg cs.toArray, .int .i64 left] w fun e w' => e = .returned (.int .i64 (szr x.sz left)) ∧ Below w.heap.size w w' := (szType_all (SizeOf.sizeOf x + 1)).1 x (Nat.lt_succ_self _)
theorem szTypeS_c (l : List TType) : ∀ (w : World) (K : Nat → Prop) (_ : ∀ b, K b → b < w.heap.size) (v : Value) (_ : Rep w K (.sl (l.map TType.enc)) [v]) (left : Int) (_ : 0 ≤ left) (_ : left ≤ 1048576),
    Calls Tryz.prog 146 #[v, .int .i64 left] w fun e w' => e = .returned (.int .i64 (szr (szs TType.sz l) left)) ∧ Below w.heap.size w w' := (szType_all (SizeOf.sizeOf l + 1)).2 l (Nat.lt_succ_self _)
set_option maxRecDepth 100000 in
set_option maxHeartbeats 1000000 in
theorem szBinding_c (x : TBinding) : ∀ (w : World) (K : Nat → Prop) (_ : ∀ b, K b → b < w.heap.size) (cs : List Value) (_ : Rep w K x.enc cs) (left : Int) (_ : 0 ≤ left) (_ : left ≤ 1048576),
    Calls Tryz.prog 109 #[.agg cs.toArray, .int .i64 left] w fun e w' => e = .returned (.int .i64 (szr x.sz left)) ∧ Below w.heap.size w w' := by
  intro w K hK cs h left h0 h1
  obtain ⟨c1, c2, c3, rfl, hVar, hType⟩ := TBinding.opn h
  clear h
  unfold maxLen at hVar
  have hW : Below w.heap.size w (w.alloc (.cells #[.string x.fVar, c1, c2, c3] 189)) := (Below.refl _ _).alloc (Nat.le_refl _) _
  have hx : Below (w.heap.size + 1) (w.alloc (.cells #[.string x.fVar, c1, c2, c3] 189)) (w.alloc (.cells #[.string x.fVar, c1, c2, c3] 189)) := Below.refl _ _
  go_enter Tryz.func109, Tryz.ntmps109
  by_cases g0 : ((x.fVar.size : Nat) : Int) ≤ left
  · skip
    go_wp2_with fail
    refine (szType_c x.fType _ K (fun b hb => Nat.lt_of_lt_of_le (hK b hb) hW.size) _ (Rep.ext hW hK hType) _ (by omega) (by omega)).mono ?_
    rintro e w1 ⟨rfl, hB1⟩
    have hx1 : Below (w.heap.size + 1) (w.alloc (.cells #[.string x.fVar, c1, c2, c3] 189)) w1 := hx.trans (hB1.mono (by have := hx.size; simp at this ⊢ <;> omega))
    have hb1 : Below w.heap.size w w1 := hW.trans (hx1.mono (Nat.le_succ _))
    have hc1 := (bcell hx1).1
    by_cases g1 : ((TType.sz x.fType : Nat) : Int) ≤ left - ((x.fVar.size : Nat) : Int)
    · rw [szr_le g1]
      go_wp2
      go_ret
      exact ⟨ret_int (by rw [TBinding.sz_eq]; unfold szr; (repeat' split) <;> omega), hb1⟩
    · rw [szr_gt g1]
      go_wp2
      go_ret
      exact ⟨ret_int (by rw [TBinding.sz_eq]; unfold szr; (repeat' split) <;> omega), hb1⟩
  · go_wp2
    go_ret
    exact ⟨ret_int (by rw [TBinding.sz_eq]; unfold szr; (repeat' split) <;> omega), hW⟩
theorem infoS189 : (Tryz.prog.info? 189).map (·.size) = some 4 := by kernel_rfl
set_option maxRecDepth 100000 in
set_option maxHeartbeats 1000000 in
theorem szBindingS_c (l : List TBinding) : ∀ (w : World) (K : Nat → Prop) (_ : ∀ b, K b → b < w.heap.size) (v : Value) (_ : Rep w K (.sl (l.map TBinding.enc)) [v]) (left : Int) (_ : 0 ≤ left) (_ : left ≤ 1048576),
    Calls Tryz.prog 50 #[v, .int .i64 left] w fun e w' => e = .returned (.int .i64 (szr (szs TBinding.sz l) left)) ∧ Below w.heap.size w w' := by
  intro w K hK v h left h0 h1
  obtain ⟨a, cap, rfl, hc, hm, -, hE⟩ := open_sl TBinding.width h
  unfold maxLen at hm
  clear h
  by_cases h2 : (l.length : Int) ≤ left
  · have Hg : Hid (szr (szL TBinding.sz (l.drop 0)) (left - l.length) = szr (szs TBinding.sz l) left) := by
      simp only [Hid, szr, szs, List.drop_zero]; (repeat' split) <;> omega
    go_enter Tryz.func50, Tryz.ntmps50
    go_wp2
    go_loopw [1, 5] (fun t i wr => ∃ (k : Nat) (lf : Int), k ≤ l.length ∧ 0 ≤ lf ∧ lf ≤ 1048576 ∧ i = .int .i64 k ∧ t = .int .i64 lf ∧ Hid (szr (szL TBinding.sz (l.drop k)) lf = szr (szs TBinding.sz l) left) ∧ Below w.heap.size w wr) (fun _ i _ => l.length - (intOf i).toNat)
    case atStart => exact ⟨0, _, Nat.zero_le _, by omega, by omega, rfl, rfl, Hg, Below.refl _ _⟩
    case round =>
      clear Hg
      obtain ⟨k, lf, hk, hl0, hl1, rfl, rfl, Hs, hB⟩ := hrel
      by_cases hlt : k < l.length
      · obtain ⟨b, off, rfl, hKb, cs, hcs, hr⟩ := hE k hlt
        have hr' := Rep.ext hB hK hr
        have hcs' := hcs.ext hB (hK b hKb)
        have hK' : ∀ b, K b → b < wr.heap.size := fun b h => Nat.lt_of_lt_of_le (hK b h) hB.size
        have Hd : Hid (l.drop k = l[k] :: l.drop (k + 1)) := List.drop_eq_getElem_cons hlt
        clear hE hcs hr
        have hi : (Tryz.prog.info? 189).map (·.size) = some cs.length := by rw [Rep.length _ _ hr', TBinding.width]; exact infoS189
        have hmem : l[k] ∈ l := List.getElem_mem hlt
        generalize l[k] = x at *
        go_wp2_with (with_reducible refine ld rfl 189 _ rfl b _ rfl cs hcs' _ Tryz.underlying189 hi ?_)
        refine (szBinding_c x _ K hK' _ hr' lf hl0 hl1).mono ?_
        rintro e w1 ⟨rfl, hB1⟩
        have hB2 := hB.trans (hB1.mono hB.size)
        by_cases h3 : (x.sz : Int) ≤ lf
        · rw [szr_le h3]
          go_wp2
          go_roundw
          case rel =>
            refine ⟨k + 1, lf - (x.sz : Int), hlt, by omega, by omega, by go_num, rfl, ?_, hB2⟩
            have e := Hs.out
            rw [Hd.out] at e
            unfold Hid
            rw [← e]
            simp only [szr, szL]
            (repeat' split) <;> omega
          case measure => simp [intOf]; omega
        · rw [szr_gt h3]
          have e := Hs.out
          rw [Hd.out] at e
          have hf : szr (szs TBinding.sz l) left = -1 := by
            rw [← e]; simp only [szr, szL]; (repeat' split) <;> omega
          have Hf := Lib.hid hf
          clear hf e
          go_wp2
          go_ret
          exact ⟨by rw [Hf.out]; rfl, hB2⟩
      · obtain rfl : k = l.length := by omega
        go_wp2
        go_ret
        refine ⟨?_, hB⟩
        rw [← Hs.out]
        simp [szr, szL, hl0]
  · have Hf : Hid (szr (szs TBinding.sz l) left = -1) := by
      simp only [Hid, szr, szs]; (repeat' split) <;> omega
    go_enter Tryz.func50, Tryz.ntmps50
    go_wp2
    go_ret
    exact ⟨by rw [Hf.out]; rfl, Below.refl _ _⟩
set_option maxRecDepth 100000 in
set_option maxHeartbeats 1000000 in
theorem szBound_c (x : TBound) : ∀ (w : World) (K : Nat → Prop) (_ : ∀ b, K b → b < w.heap.size) (cs : List Value) (_ : Rep w K x.enc cs) (left : Int) (_ : 0 ≤ left) (_ : left ≤ 1048576),
    Calls Tryz.prog 170 #[.agg cs.toArray, .int .i64 left] w fun e w' => e = .returned (.int .i64 (szr x.sz left)) ∧ Below w.heap.size w w' := by
  intro w K hK cs h left h0 h1
  obtain ⟨c1, c2, c3, rfl, hTrait, hType⟩ := TBound.opn h
  clear h
  unfold maxLen at hTrait
  have hW : Below w.heap.size w (w.alloc (.cells #[.string x.fTrait, c1, c2, c3] 195)) := (Below.refl _ _).alloc (Nat.le_refl _) _
  have hx : Below (w.heap.size + 1) (w.alloc (.cells #[.string x.fTrait, c1, c2, c3] 195)) (w.alloc (.cells #[.string x.fTrait, c1, c2, c3] 195)) := Below.refl _ _
  go_enter Tryz.func170, Tryz.ntmps170
  by_cases g0 : ((x.fTrait.size : Nat) : Int) ≤ left
  · skip
    go_wp2_with fail
    refine (szType_c x.fType _ K (fun b hb => Nat.lt_of_lt_of_le (hK b hb) hW.size) _ (Rep.ext hW hK hType) _ (by omega) (by omega)).mono ?_
    rintro e w1 ⟨rfl, hB1⟩
    have hx1 : Below (w.heap.size + 1) (w.alloc (.cells #[.string x.fTrait, c1, c2, c3] 195)) w1 := hx.trans (hB1.mono (by have := hx.size; simp at this ⊢ <;> omega))
    have hb1 : Below w.heap.size w w1 := hW.trans (hx1.mono (Nat.le_succ _))
    have hc1 := (bcell hx1).1
    by_cases g1 : ((TType.sz x.fType : Nat) : Int) ≤ left - ((x.fTrait.size : Nat) : Int)
    · rw [szr_le g1]
      go_wp2
      go_ret
      exact ⟨ret_int (by rw [TBound.sz_eq]; unfold szr; (repeat' split) <;> omega), hb1⟩
    · rw [szr_gt g1]
      go_wp2
      go_ret
      exact ⟨ret_int (by rw [TBound.sz_eq]; unfold szr; (repeat' split) <;> omega), hb1⟩
  · go_wp2
    go_ret
    exact ⟨ret_int (by rw [TBound.sz_eq]; unfold szr; (repeat' split) <;> omega), hW⟩
theorem infoS195 : (Tryz.prog.info? 195).map (·.size) = some 4 := by kernel_rfl
set_option maxRecDepth 100000 in
set_option maxHeartbeats 1000000 in
theorem szBoundS_c (l : List TBound) : ∀ (w : World) (K : Nat → Prop) (_ : ∀ b, K b → b < w.heap.size) (v : Value) (_ : Rep w K (.sl (l.map TBound.enc)) [v]) (left : Int) (_ : 0 ≤ left) (_ : left ≤ 1048576),
    Calls Tryz.prog 251 #[v, .int .i64 left] w fun e w' => e = .returned (.int .i64 (szr (szs TBound.sz l) left)) ∧ Below w.heap.size w w' := by
  intro w K hK v h left h0 h1
  obtain ⟨a, cap, rfl, hc, hm, -, hE⟩ := open_sl TBound.width h
  unfold maxLen at hm
  clear h
  by_cases h2 : (l.length : Int) ≤ left
  · have Hg : Hid (szr (szL TBound.sz (l.drop 0)) (left - l.length) = szr (szs TBound.sz l) left) := by
      simp only [Hid, szr, szs, List.drop_zero]; (repeat' split) <;> omega
    go_enter Tryz.func251, Tryz.ntmps251
    go_wp2
    go_loopw [1, 5] (fun t i wr => ∃ (k : Nat) (lf : Int), k ≤ l.length ∧ 0 ≤ lf ∧ lf ≤ 1048576 ∧ i = .int .i64 k ∧ t = .int .i64 lf ∧ Hid (szr (szL TBound.sz (l.drop k)) lf = szr (szs TBound.sz l) left) ∧ Below w.heap.size w wr) (fun _ i _ => l.length - (intOf i).toNat)
    case atStart => exact ⟨0, _, Nat.zero_le _, by omega, by omega, rfl, rfl, Hg, Below.refl _ _⟩
    case round =>
      clear Hg
      obtain ⟨k, lf, hk, hl0, hl1, rfl, rfl, Hs, hB⟩ := hrel
      by_cases hlt : k < l.length
      · obtain ⟨b, off, rfl, hKb, cs, hcs, hr⟩ := hE k hlt
        have hr' := Rep.ext hB hK hr
        have hcs' := hcs.ext hB (hK b hKb)
        have hK' : ∀ b, K b → b < wr.heap.size := fun b h => Nat.lt_of_lt_of_le (hK b h) hB.size
        have Hd : Hid (l.drop k = l[k] :: l.drop (k + 1)) := List.drop_eq_getElem_cons hlt
        clear hE hcs hr
        have hi : (Tryz.prog.info? 195).map (·.size) = some cs.length := by rw [Rep.length _ _ hr', TBound.width]; exact infoS195
        have hmem : l[k] ∈ l := List.getElem_mem hlt
        generalize l[k] = x at *
        go_wp2_with (with_reducible refine ld rfl 195 _ rfl b _ rfl cs hcs' _ Tryz.underlying195 hi ?_)
        refine (szBound_c x _ K hK' _ hr' lf hl0 hl1).mono ?_
        rintro e w1 ⟨rfl, hB1⟩
        have hB2 := hB.trans (hB1.mono hB.size)
        by_cases h3 : (x.sz : Int) ≤ lf
        · rw [szr_le h3]
          go_wp2
          go_roundw
          case rel =>
            refine ⟨k + 1, lf - (x.sz : Int), hlt, by omega, by omega, by go_num, rfl, ?_, hB2⟩
            have e := Hs.out
            rw [Hd.out] at e
            unfold Hid
            rw [← e]
            simp only [szr, szL]
            (repeat' split) <;> omega
          case measure => simp [intOf]; omega
        · rw [szr_gt h3]
          have e := Hs.out
          rw [Hd.out] at e
          have hf : szr (szs TBound.sz l) left = -1 := by
            rw [← e]; simp only [szr, szL]; (repeat' split) <;> omega
          have Hf := Lib.hid hf
          clear hf e
          go_wp2
          go_ret
          exact ⟨by rw [Hf.out]; rfl, hB2⟩
      · obtain rfl : k = l.length := by omega
        go_wp2
        go_ret
        refine ⟨?_, hB⟩
        rw [← Hs.out]
        simp [szr, szL, hl0]
  · have Hf : Hid (szr (szs TBound.sz l) left = -1) := by
      simp only [Hid, szr, szs]; (repeat' split) <;> omega
    go_enter Tryz.func251, Tryz.ntmps251
    go_wp2
    go_ret
    exact ⟨by rw [Hf.out]; rfl, Below.refl _ _⟩
set_option maxRecDepth 100000 in
set_option maxHeartbeats 1000000 in
theorem szEquation_c (x : TEquation) : ∀ (w : World) (K : Nat → Prop) (_ : ∀ b, K b → b < w.heap.size) (cs : List Value) (_ : Rep w K x.enc cs) (left : Int) (_ : 0 ≤ left) (_ : left ≤ 1048576),
    Calls Tryz.prog 110 #[.agg cs.toArray, .int .i64 left] w fun e w' => e = .returned (.int .i64 (szr x.sz left)) ∧ Below w.heap.size w w' := by
  intro w K hK cs h left h0 h1
  obtain ⟨c0, c1, c2, c3, c4, c5, rfl, hA, hB, hNode⟩ := TEquation.opn h
  clear h
  clear hNode
  have hW : Below w.heap.size w (w.alloc (.cells #[c0, c1, c2, c3, c4, c5, .int .i64 x.fNode] 192)) := (Below.refl _ _).alloc (Nat.le_refl _) _
  have hx : Below (w.heap.size + 1) (w.alloc (.cells #[c0, c1, c2, c3, c4, c5, .int .i64 x.fNode] 192)) (w.alloc (.cells #[c0, c1, c2, c3, c4, c5, .int .i64 x.fNode] 192)) := Below.refl _ _
  go_enter Tryz.func110, Tryz.ntmps110
  go_wp2_with fail
  refine (szType_c x.fA _ K (fun b hb => Nat.lt_of_lt_of_le (hK b hb) hW.size) _ (Rep.ext hW hK hA) _ (by omega) (by omega)).mono ?_
  rintro e w0 ⟨rfl, hB0⟩
  have hx0 : Below (w.heap.size + 1) (w.alloc (.cells #[c0, c1, c2, c3, c4, c5, .int .i64 x.fNode] 192)) w0 := hx.trans (hB0.mono (by have := hx.size; simp at this ⊢ <;> omega))
  have hb0 : Below w.heap.size w w0 := hW.trans (hx0.mono (Nat.le_succ _))
  have hc0 := (bcell hx0).1
  by_cases g0 : ((TType.sz x.fA : Nat) : Int) ≤ left
  · rw [szr_le g0]
    go_wp2_with fail
    refine (szType_c x.fB _ K (fun b hb => Nat.lt_of_lt_of_le (hK b hb) hb0.size) _ (Rep.ext hb0 hK hB) _ (by omega) (by omega)).mono ?_
    rintro e w1 ⟨rfl, hB1⟩
    have hx1 : Below (w.heap.size + 1) (w.alloc (.cells #[c0, c1, c2, c3, c4, c5, .int .i64 x.fNode] 192)) w1 := hx0.trans (hB1.mono (by have := hx0.size; simp at this ⊢ <;> omega))
    have hb1 : Below w.heap.size w w1 := hW.trans (hx1.mono (Nat.le_succ _))
    have hc1 := (bcell hx1).1
    by_cases g1 : ((TType.sz x.fB : Nat) : Int) ≤ left - ((TType.sz x.fA : Nat) : Int)
    · rw [szr_le g1]
      go_wp2
      go_ret
      exact ⟨ret_int (by rw [TEquation.sz_eq]; unfold szr; (repeat' split) <;> omega), hb1⟩
    · rw [szr_gt g1]
      go_wp2
      go_ret
      exact ⟨ret_int (by rw [TEquation.sz_eq]; unfold szr; (repeat' split) <;> omega), hb1⟩
  · rw [szr_gt g0]
    go_wp2
    go_ret
    exact ⟨ret_int (by rw [TEquation.sz_eq]; unfold szr; (repeat' split) <;> omega), hb0⟩
theorem infoS192 : (Tryz.prog.info? 192).map (·.size) = some 7 := by kernel_rfl
set_option maxRecDepth 100000 in
set_option maxHeartbeats 1000000 in
theorem szEquationS_c (l : List TEquation) : ∀ (w : World) (K : Nat → Prop) (_ : ∀ b, K b → b < w.heap.size) (v : Value) (_ : Rep w K (.sl (l.map TEquation.enc)) [v]) (left : Int) (_ : 0 ≤ left) (_ : left ≤ 1048576),
    Calls Tryz.prog 51 #[v, .int .i64 left] w fun e w' => e = .returned (.int .i64 (szr (szs TEquation.sz l) left)) ∧ Below w.heap.size w w' := by
  intro w K hK v h left h0 h1
  obtain ⟨a, cap, rfl, hc, hm, -, hE⟩ := open_sl TEquation.width h
  unfold maxLen at hm
  clear h
  by_cases h2 : (l.length : Int) ≤ left
  · have Hg : Hid (szr (szL TEquation.sz (l.drop 0)) (left - l.length) = szr (szs TEquation.sz l) left) := by
      simp only [Hid, szr, szs, List.drop_zero]; (repeat' split) <;> omega
    go_enter Tryz.func51, Tryz.ntmps51
    go_wp2
    go_loopw [1, 5] (fun t i wr => ∃ (k : Nat) (lf : Int), k ≤ l.length ∧ 0 ≤ lf ∧ lf ≤ 1048576 ∧ i = .int .i64 k ∧ t = .int .i64 lf ∧ Hid (szr (szL TEquation.sz (l.drop k)) lf = szr (szs TEquation.sz l) left) ∧ Below w.heap.size w wr) (fun _ i _ => l.length - (intOf i).toNat)
    case atStart => exact ⟨0, _, Nat.zero_le _, by omega, by omega, rfl, rfl, Hg, Below.refl _ _⟩
    case round =>
      clear Hg
      obtain ⟨k, lf, hk, hl0, hl1, rfl, rfl, Hs, hB⟩ := hrel
      by_cases hlt : k < l.length
      · obtain ⟨b, off, rfl, hKb, cs, hcs, hr⟩ := hE k hlt
        have hr' := Rep.ext hB hK hr
        have hcs' := hcs.ext hB (hK b hKb)
        have hK' : ∀ b, K b → b < wr.heap.size := fun b h => Nat.lt_of_lt_of_le (hK b h) hB.size
        have Hd : Hid (l.drop k = l[k] :: l.drop (k + 1)) := List.drop_eq_getElem_cons hlt
        clear hE hcs hr
        have hi : (Tryz.prog.info? 192).map (·.size) = some cs.length := by rw [Rep.length _ _ hr', TEquation.width]; exact infoS192
        have hmem : l[k] ∈ l := List.getElem_mem hlt
        generalize l[k] = x at *
        go_wp2_with (with_reducible refine ld rfl 192 _ rfl b _ rfl cs hcs' _ Tryz.underlying192 hi ?_)
        refine (szEquation_c x _ K hK' _ hr' lf hl0 hl1).mono ?_
        rintro e w1 ⟨rfl, hB1⟩
        have hB2 := hB.trans (hB1.mono hB.size)
        by_cases h3 : (x.sz : Int) ≤ lf
        · rw [szr_le h3]
          go_wp2
          go_roundw
          case rel =>
            refine ⟨k + 1, lf - (x.sz : Int), hlt, by omega, by omega, by go_num, rfl, ?_, hB2⟩
            have e := Hs.out
            rw [Hd.out] at e
            unfold Hid
            rw [← e]
            simp only [szr, szL]
            (repeat' split) <;> omega
          case measure => simp [intOf]; omega
        · rw [szr_gt h3]
          have e := Hs.out
          rw [Hd.out] at e
          have hf : szr (szs TEquation.sz l) left = -1 := by
            rw [← e]; simp only [szr, szL]; (repeat' split) <;> omega
          have Hf := Lib.hid hf
          clear hf e
          go_wp2
          go_ret
          exact ⟨by rw [Hf.out]; rfl, hB2⟩
      · obtain rfl : k = l.length := by omega
        go_wp2
        go_ret
        refine ⟨?_, hB⟩
        rw [← Hs.out]
        simp [szr, szL, hl0]
  · have Hf : Hid (szr (szs TEquation.sz l) left = -1) := by
      simp only [Hid, szr, szs]; (repeat' split) <;> omega
    go_enter Tryz.func51, Tryz.ntmps51
    go_wp2
    go_ret
    exact ⟨by rw [Hf.out]; rfl, Below.refl _ _⟩
set_option maxRecDepth 100000 in
set_option maxHeartbeats 1000000 in
theorem szObligation_c (x : TObligation) : ∀ (w : World) (K : Nat → Prop) (_ : ∀ b, K b → b < w.heap.size) (cs : List Value) (_ : Rep w K x.enc cs) (left : Int) (_ : 0 ≤ left) (_ : left ≤ 1048576),
    Calls Tryz.prog 111 #[.agg cs.toArray, .int .i64 left] w fun e w' => e = .returned (.int .i64 (szr x.sz left)) ∧ Below w.heap.size w w' := by
  intro w K hK cs h left h0 h1
  obtain ⟨c0, c1, c2, c3, rfl, hGoal, hNode⟩ := TObligation.opn h
  clear h
  clear hNode
  have hW : Below w.heap.size w (w.alloc (.cells #[c0, c1, c2, c3, .int .i64 x.fNode] 197)) := (Below.refl _ _).alloc (Nat.le_refl _) _
  have hx : Below (w.heap.size + 1) (w.alloc (.cells #[c0, c1, c2, c3, .int .i64 x.fNode] 197)) (w.alloc (.cells #[c0, c1, c2, c3, .int .i64 x.fNode] 197)) := Below.refl _ _
  go_enter Tryz.func111, Tryz.ntmps111
  go_wp2_with fail
  refine (szBound_c x.fGoal _ K (fun b hb => Nat.lt_of_lt_of_le (hK b hb) hW.size) _ (Rep.ext hW hK hGoal) _ (by omega) (by omega)).mono ?_
  rintro e w0 ⟨rfl, hB0⟩
  have hx0 : Below (w.heap.size + 1) (w.alloc (.cells #[c0, c1, c2, c3, .int .i64 x.fNode] 197)) w0 := hx.trans (hB0.mono (by have := hx.size; simp at this ⊢ <;> omega))
  have hb0 : Below w.heap.size w w0 := hW.trans (hx0.mono (Nat.le_succ _))
  have hc0 := (bcell hx0).1
  by_cases g0 : ((TBound.sz x.fGoal : Nat) : Int) ≤ left
  · rw [szr_le g0]
    go_wp2
    go_ret
    exact ⟨ret_int (by rw [TObligation.sz_eq]; unfold szr; (repeat' split) <;> omega), hb0⟩
  · rw [szr_gt g0]
    go_wp2
    go_ret
    exact ⟨ret_int (by rw [TObligation.sz_eq]; unfold szr; (repeat' split) <;> omega), hb0⟩
theorem infoS197 : (Tryz.prog.info? 197).map (·.size) = some 5 := by kernel_rfl
set_option maxRecDepth 100000 in
set_option maxHeartbeats 1000000 in
theorem szObligationS_c (l : List TObligation) : ∀ (w : World) (K : Nat → Prop) (_ : ∀ b, K b → b < w.heap.size) (v : Value) (_ : Rep w K (.sl (l.map TObligation.enc)) [v]) (left : Int) (_ : 0 ≤ left) (_ : left ≤ 1048576),
    Calls Tryz.prog 52 #[v, .int .i64 left] w fun e w' => e = .returned (.int .i64 (szr (szs TObligation.sz l) left)) ∧ Below w.heap.size w w' := by
  intro w K hK v h left h0 h1
  obtain ⟨a, cap, rfl, hc, hm, -, hE⟩ := open_sl TObligation.width h
  unfold maxLen at hm
  clear h
  by_cases h2 : (l.length : Int) ≤ left
  · have Hg : Hid (szr (szL TObligation.sz (l.drop 0)) (left - l.length) = szr (szs TObligation.sz l) left) := by
      simp only [Hid, szr, szs, List.drop_zero]; (repeat' split) <;> omega
    go_enter Tryz.func52, Tryz.ntmps52
    go_wp2
    go_loopw [1, 5] (fun t i wr => ∃ (k : Nat) (lf : Int), k ≤ l.length ∧ 0 ≤ lf ∧ lf ≤ 1048576 ∧ i = .int .i64 k ∧ t = .int .i64 lf ∧ Hid (szr (szL TObligation.sz (l.drop k)) lf = szr (szs TObligation.sz l) left) ∧ Below w.heap.size w wr) (fun _ i _ => l.length - (intOf i).toNat)
    case atStart => exact ⟨0, _, Nat.zero_le _, by omega, by omega, rfl, rfl, Hg, Below.refl _ _⟩
    case round =>
      clear Hg
      obtain ⟨k, lf, hk, hl0, hl1, rfl, rfl, Hs, hB⟩ := hrel
      by_cases hlt : k < l.length
      · obtain ⟨b, off, rfl, hKb, cs, hcs, hr⟩ := hE k hlt
        have hr' := Rep.ext hB hK hr
        have hcs' := hcs.ext hB (hK b hKb)
        have hK' : ∀ b, K b → b < wr.heap.size := fun b h => Nat.lt_of_lt_of_le (hK b h) hB.size
        have Hd : Hid (l.drop k = l[k] :: l.drop (k + 1)) := List.drop_eq_getElem_cons hlt
        clear hE hcs hr
        have hi : (Tryz.prog.info? 197).map (·.size) = some cs.length := by rw [Rep.length _ _ hr', TObligation.width]; exact infoS197
        have hmem : l[k] ∈ l := List.getElem_mem hlt
        generalize l[k] = x at *
        go_wp2_with (with_reducible refine ld rfl 197 _ rfl b _ rfl cs hcs' _ Tryz.underlying197 hi ?_)
        refine (szObligation_c x _ K hK' _ hr' lf hl0 hl1).mono ?_
        rintro e w1 ⟨rfl, hB1⟩
        have hB2 := hB.trans (hB1.mono hB.size)
        by_cases h3 : (x.sz : Int) ≤ lf
        · rw [szr_le h3]
          go_wp2
          go_roundw
          case rel =>
            refine ⟨k + 1, lf - (x.sz : Int), hlt, by omega, by omega, by go_num, rfl, ?_, hB2⟩
            have e := Hs.out
            rw [Hd.out] at e
            unfold Hid
            rw [← e]
            simp only [szr, szL]
            (repeat' split) <;> omega
          case measure => simp [intOf]; omega
        · rw [szr_gt h3]
          have e := Hs.out
          rw [Hd.out] at e
          have hf : szr (szs TObligation.sz l) left = -1 := by
            rw [← e]; simp only [szr, szL]; (repeat' split) <;> omega
          have Hf := Lib.hid hf
          clear hf e
          go_wp2
          go_ret
          exact ⟨by rw [Hf.out]; rfl, hB2⟩
      · obtain rfl : k = l.length := by omega
        go_wp2
        go_ret
        refine ⟨?_, hB⟩
        rw [← Hs.out]
        simp [szr, szL, hl0]
  · have Hf : Hid (szr (szs TObligation.sz l) left = -1) := by
      simp only [Hid, szr, szs]; (repeat' split) <;> omega
    go_enter Tryz.func52, Tryz.ntmps52
    go_wp2
    go_ret
    exact ⟨by rw [Hf.out]; rfl, Below.refl _ _⟩
set_option maxRecDepth 100000 in
set_option maxHeartbeats 1000000 in
theorem szInferState_c (x : TInferState) : ∀ (w : World) (K : Nat → Prop) (_ : ∀ b, K b → b < w.heap.size) (cs : List Value) (_ : Rep w K x.enc cs) (left : Int) (_ : 0 ≤ left) (_ : left ≤ 1048576),
    Calls Tryz.prog 15 #[.agg cs.toArray, .int .i64 left] w fun e w' => e = .returned (.int .i64 (szr x.sz left)) ∧ Below w.heap.size w w' := by
  intro w K hK cs h left h0 h1
  obtain ⟨c3, c4, c5, rfl, hNext, hCount, hNode, hBindings, hEquations, hObligations, hCode, hAt⟩ := TInferState.opn h
  clear h
  clear hNext
  clear hCount
  clear hNode
  clear hCode
  clear hAt
  have hW : Below w.heap.size w (w.alloc (.cells #[.int .i64 x.fNext, .int .i64 x.fCount, .int .i64 x.fNode, c3, c4, c5, .int .i64 x.fCode, .int .i64 x.fAt] 46)) := (Below.refl _ _).alloc (Nat.le_refl _) _
  have hx : Below (w.heap.size + 1) (w.alloc (.cells #[.int .i64 x.fNext, .int .i64 x.fCount, .int .i64 x.fNode, c3, c4, c5, .int .i64 x.fCode, .int .i64 x.fAt] 46)) (w.alloc (.cells #[.int .i64 x.fNext, .int .i64 x.fCount, .int .i64 x.fNode, c3, c4, c5, .int .i64 x.fCode, .int .i64 x.fAt] 46)) := Below.refl _ _
  go_enter Tryz.func15, Tryz.ntmps15
  go_wp2_with fail
  refine (szBindingS_c x.fBindings _ K (fun b hb => Nat.lt_of_lt_of_le (hK b hb) hW.size) _ (Rep.ext hW hK hBindings) _ (by omega) (by omega)).mono ?_
  rintro e w0 ⟨rfl, hB0⟩
  have hx0 : Below (w.heap.size + 1) (w.alloc (.cells #[.int .i64 x.fNext, .int .i64 x.fCount, .int .i64 x.fNode, c3, c4, c5, .int .i64 x.fCode, .int .i64 x.fAt] 46)) w0 := hx.trans (hB0.mono (by have := hx.size; simp at this ⊢ <;> omega))
  have hb0 : Below w.heap.size w w0 := hW.trans (hx0.mono (Nat.le_succ _))
  have hc0 := (bcell hx0).1
  by_cases g0 : ((szs TBinding.sz x.fBindings : Nat) : Int) ≤ left
  · rw [szr_le g0]
    go_wp2_with fail
    refine (szEquationS_c x.fEquations _ K (fun b hb => Nat.lt_of_lt_of_le (hK b hb) hb0.size) _ (Rep.ext hb0 hK hEquations) _ (by omega) (by omega)).mono ?_
    rintro e w1 ⟨rfl, hB1⟩
    have hx1 : Below (w.heap.size + 1) (w.alloc (.cells #[.int .i64 x.fNext, .int .i64 x.fCount, .int .i64 x.fNode, c3, c4, c5, .int .i64 x.fCode, .int .i64 x.fAt] 46)) w1 := hx0.trans (hB1.mono (by have := hx0.size; simp at this ⊢ <;> omega))
    have hb1 : Below w.heap.size w w1 := hW.trans (hx1.mono (Nat.le_succ _))
    have hc1 := (bcell hx1).1
    by_cases g1 : ((szs TEquation.sz x.fEquations : Nat) : Int) ≤ left - ((szs TBinding.sz x.fBindings : Nat) : Int)
    · rw [szr_le g1]
      go_wp2_with fail
      refine (szObligationS_c x.fObligations _ K (fun b hb => Nat.lt_of_lt_of_le (hK b hb) hb1.size) _ (Rep.ext hb1 hK hObligations) _ (by omega) (by omega)).mono ?_
      rintro e w2 ⟨rfl, hB2⟩
      have hx2 : Below (w.heap.size + 1) (w.alloc (.cells #[.int .i64 x.fNext, .int .i64 x.fCount, .int .i64 x.fNode, c3, c4, c5, .int .i64 x.fCode, .int .i64 x.fAt] 46)) w2 := hx1.trans (hB2.mono (by have := hx1.size; simp at this ⊢ <;> omega))
      have hb2 : Below w.heap.size w w2 := hW.trans (hx2.mono (Nat.le_succ _))
      have hc2 := (bcell hx2).1
      by_cases g2 : ((szs TObligation.sz x.fObligations : Nat) : Int) ≤ left - ((szs TBinding.sz x.fBindings : Nat) : Int) - ((szs TEquation.sz x.fEquations : Nat) : Int)
      · rw [szr_le g2]
        go_wp2
        go_ret
        exact ⟨ret_int (by rw [TInferState.sz_eq]; unfold szr; (repeat' split) <;> omega), hb2⟩
      · rw [szr_gt g2]
        go_wp2
        go_ret
        exact ⟨ret_int (by rw [TInferState.sz_eq]; unfold szr; (repeat' split) <;> omega), hb2⟩
    · rw [szr_gt g1]
      go_wp2
      go_ret
      exact ⟨ret_int (by rw [TInferState.sz_eq]; unfold szr; (repeat' split) <;> omega), hb1⟩
  · rw [szr_gt g0]
    go_wp2
    go_ret
    exact ⟨ret_int (by rw [TInferState.sz_eq]; unfold szr; (repeat' split) <;> omega), hb0⟩
end Go.Proofs.YtkmiecgcibjkbaaGreat
