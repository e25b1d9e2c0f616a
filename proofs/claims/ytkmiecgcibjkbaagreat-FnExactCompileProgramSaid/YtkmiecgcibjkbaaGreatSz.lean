/- The functions sz.. of the laws: each takes a value's size from what is left of the bound. Conditions: what is left is from 0 to 1048576. -/
import Derived.Test.YtkmiecgcibjkbaaGreatTypes
namespace Go.Proofs.YtkmiecgcibjkbaaGreat
open Go.RowKit
set_option maxRecDepth 100000 in
set_option maxHeartbeats 1000000 in
theorem szStringS_c (l : List ByteArray) : ∀ (w : World) (K : Nat → Prop) (_ : ∀ b, K b → b < w.heap.size) (v : Value) (_ : Rep w K (.sl (l.map encS)) [v]) (left : Int) (_ : 0 ≤ left) (_ : left ≤ 1048576),
  Calls Tryz.prog 147 #[v, .int .i64 left] w fun e w' => e = .returned (.int .i64 (szr (szs ByteArray.size l) left)) ∧ Below w.heap.size w w' := by
 intro w K hK v h left h0 h1
 obtain ⟨a, cap, rfl, hc, hm, -, hE⟩ := open_sl encS_w h
 unfold maxLen at hm
 clear h
 by_cases h2 : (l.length : Int) ≤ left
 ·have Hg : Hid (szr (szL ByteArray.size (l.drop 0)) (left - l.length) = szr (szs ByteArray.size l) left) := by
   simp only [Hid, szr, szs, List.drop_zero]; (repeat' split) <;> omega
  go_enter Tryz.func147, Tryz.ntmps147
  go_wp2
  go_loopw [1, 5] (fun t i wr => ∃ (k : Nat) (lf : Int), k ≤ l.length ∧ 0 ≤ lf ∧ lf ≤ 1048576 ∧ i = .int .i64 k ∧ t = .int .i64 lf ∧ Hid (szr (szL ByteArray.size (l.drop k)) lf = szr (szs ByteArray.size l) left) ∧ Below w.heap.size w wr) (fun _ i _ => l.length - (intOf i).toNat)
  case atStart => exact ⟨0, _, Nat.zero_le _, by omega, by omega, rfl, rfl, Hg, Below.refl _ _⟩
  case round =>
   clear Hg
   obtain ⟨k, lf, hk, hl0, hl1, rfl, rfl, Hs, hB⟩ := hrel
   by_cases hlt : k < l.length
   ·obtain ⟨b, off, rfl, hKb, cs, hcs, hr⟩ := hE k hlt
    have hr' := Rep.ext hB hK hr
    have hcs' := hcs.ext hB (hK b hKb)
    have hK' : ∀ b, K b → b < wr.heap.size := fun b h => Nat.lt_of_lt_of_le (hK b h) hB.size
    have Hd : Hid (l.drop k = l[k] :: l.drop (k + 1)) := List.drop_eq_getElem_cons hlt
    clear hE hcs hr
    simp only [encS, Rep] at hr'
    obtain ⟨rfl, hz⟩ := hr'
    have g0 : wr.cell? ⟨b, off + k, none⟩ = some (.string l[k]) := by simpa using hcs' 0 _ rfl
    have hz' : l[k].size ≤ 9223372036854775807 := hz
    clear hcs' hz
    generalize l[k] = x at *
    by_cases h3 : (x.size : Int) ≤ lf
    ·go_wp2
     go_roundw
     case rel =>
      refine ⟨k + 1, lf - (x.size : Int), hlt, by omega, by omega, by go_num, rfl, ?_, hB⟩
      have e := Hs.out
      rw [Hd.out] at e
      unfold Hid
      rw [← e]
      simp only [szr, szL]
      (repeat' split) <;> omega
     case measure => simp [intOf]; omega
    ·skip
     have e := Hs.out
     rw [Hd.out] at e
     have hf : szr (szs ByteArray.size l) left = -1 := by
      rw [← e]; simp only [szr, szL]; (repeat' split) <;> omega
     have Hf := Lib.hid hf
     clear hf e
     go_wp2
     go_ret
     exact ⟨by rw [Hf.out]; rfl, hB⟩
   ·obtain rfl : k = l.length := by omega
    go_wp2
    go_ret
    refine ⟨?_, hB⟩
    rw [← Hs.out]
    simp [szr, szL, hl0]
 ·have Hf : Hid (szr (szs ByteArray.size l) left = -1) := by
   simp only [Hid, szr, szs]; (repeat' split) <;> omega
  go_enter Tryz.func147, Tryz.ntmps147
  go_wp2
  go_ret
  exact ⟨by rw [Hf.out]; rfl, Below.refl _ _⟩
theorem infoS325 : (Tryz.prog.info? 325).map (·.size) = some 5 := by kernel_rfl
def SzEvidence (N : Nat) : Prop := ∀ (x : TEvidence), SizeOf.sizeOf x < N → ∀ (w : World) (K : Nat → Prop) (_ : ∀ b, K b → b < w.heap.size) (cs : List Value) (_ : Rep w K x.enc cs) (left : Int) (_ : 0 ≤ left) (_ : left ≤ 1048576),
  Calls Tryz.prog 237 #[.agg cs.toArray, .int .i64 left] w fun e w' => e = .returned (.int .i64 (szr x.sz left)) ∧ Below w.heap.size w w'
def SzEvidenceS (N : Nat) : Prop := ∀ (l : List TEvidence), SizeOf.sizeOf l < N → ∀ (w : World) (K : Nat → Prop) (_ : ∀ b, K b → b < w.heap.size) (v : Value) (_ : Rep w K (.sl (l.map TEvidence.enc)) [v]) (left : Int) (_ : 0 ≤ left) (_ : left ≤ 1048576),
  Calls Tryz.prog 200 #[v, .int .i64 left] w fun e w' => e = .returned (.int .i64 (szr (szs TEvidence.sz l) left)) ∧ Below w.heap.size w w'
set_option maxRecDepth 100000 in
set_option maxHeartbeats 1000000 in
theorem stepSzEvidence (N : Nat) (_iSzEvidence : SzEvidence N) (iSzEvidenceS : SzEvidenceS N) : SzEvidence (N + 1) := by
 intro x hN w K hK cs h left h0 h1
 obtain ⟨c2, c3, c4, rfl, hKind, hN, hAt, hArgs⟩ := TEvidence.opn h
 clear h
 clear hKind
 clear hN
 clear hAt
 have hW : Below w.heap.size w (w.alloc (.cells #[.int .i64 x.fKind, .int .i64 x.fN, c2, c3, c4] 325)) := (Below.refl _ _).alloc (Nat.le_refl _) _
 have hx : Below (w.heap.size + 1) (w.alloc (.cells #[.int .i64 x.fKind, .int .i64 x.fN, c2, c3, c4] 325)) (w.alloc (.cells #[.int .i64 x.fKind, .int .i64 x.fN, c2, c3, c4] 325)) := Below.refl _ _
 go_enter Tryz.func237, Tryz.ntmps237
 go_wp2_with fail
 refine (iSzEvidenceS x.fArgs (by have := TEvidence.lt_fArgs x; omega) _ K (fun b hb => Nat.lt_of_lt_of_le (hK b hb) hW.size) _ (Rep.ext hW hK hArgs) _ (by omega) (by omega)).mono ?_
 rintro e w0 ⟨rfl, hB0⟩
 have hx0 : Below (w.heap.size + 1) (w.alloc (.cells #[.int .i64 x.fKind, .int .i64 x.fN, c2, c3, c4] 325)) w0 := hx.trans (hB0.mono (by have := hx.size; simp at this ⊢ <;> omega))
 have hb0 : Below w.heap.size w w0 := hW.trans (hx0.mono (Nat.le_succ _))
 have hc0 := (bcell hx0).1
 by_cases g0 : ((szs TEvidence.sz x.fArgs : Nat) : Int) ≤ left
 ·rw [szr_le g0]
  go_wp2
  go_ret
  exact ⟨ret_int (by rw [TEvidence.sz_eq]; unfold szr; (repeat' split) <;> omega), hb0⟩
 ·rw [szr_gt g0]
  go_wp2
  go_ret
  exact ⟨ret_int (by rw [TEvidence.sz_eq]; unfold szr; (repeat' split) <;> omega), hb0⟩
set_option maxRecDepth 100000 in
set_option maxHeartbeats 1000000 in
theorem stepSzEvidenceS (N : Nat) (iSzEvidence : SzEvidence N) (_iSzEvidenceS : SzEvidenceS N) : SzEvidenceS (N + 1) := by
 intro l hN w K hK v h left h0 h1
 obtain ⟨a, cap, rfl, hc, hm, -, hE⟩ := open_sl TEvidence.width h
 unfold maxLen at hm
 clear h
 by_cases h2 : (l.length : Int) ≤ left
 ·have Hg : Hid (szr (szL TEvidence.sz (l.drop 0)) (left - l.length) = szr (szs TEvidence.sz l) left) := by
   simp only [Hid, szr, szs, List.drop_zero]; (repeat' split) <;> omega
  go_enter Tryz.func200, Tryz.ntmps200
  go_wp2
  go_loopw [1, 5] (fun t i wr => ∃ (k : Nat) (lf : Int), k ≤ l.length ∧ 0 ≤ lf ∧ lf ≤ 1048576 ∧ i = .int .i64 k ∧ t = .int .i64 lf ∧ Hid (szr (szL TEvidence.sz (l.drop k)) lf = szr (szs TEvidence.sz l) left) ∧ Below w.heap.size w wr) (fun _ i _ => l.length - (intOf i).toNat)
  case atStart => exact ⟨0, _, Nat.zero_le _, by omega, by omega, rfl, rfl, Hg, Below.refl _ _⟩
  case round =>
   clear Hg
   obtain ⟨k, lf, hk, hl0, hl1, rfl, rfl, Hs, hB⟩ := hrel
   by_cases hlt : k < l.length
   ·obtain ⟨b, off, rfl, hKb, cs, hcs, hr⟩ := hE k hlt
    have hr' := Rep.ext hB hK hr
    have hcs' := hcs.ext hB (hK b hKb)
    have hK' : ∀ b, K b → b < wr.heap.size := fun b h => Nat.lt_of_lt_of_le (hK b h) hB.size
    have Hd : Hid (l.drop k = l[k] :: l.drop (k + 1)) := List.drop_eq_getElem_cons hlt
    clear hE hcs hr
    have hi : (Tryz.prog.info? 325).map (·.size) = some cs.length := by rw [Rep.length _ _ hr', TEvidence.width]; exact infoS325
    have hmem : l[k] ∈ l := List.getElem_mem hlt
    generalize l[k] = x at *
    go_wp2_with (with_reducible refine ld rfl 325 _ rfl b _ rfl cs hcs' _ Tryz.underlying325 hi ?_)
    refine (iSzEvidence x (by have := List.sizeOf_lt_of_mem hmem; omega) _ K hK' _ hr' lf hl0 hl1).mono ?_
    rintro e w1 ⟨rfl, hB1⟩
    have hB2 := hB.trans (hB1.mono hB.size)
    by_cases h3 : (x.sz : Int) ≤ lf
    ·rw [szr_le h3]
     go_wp2
     go_roundw
     case rel =>
      refine ⟨k + 1, lf - (x.sz : Int), hlt, by omega, by omega, by go_num, rfl, ?_, hB2⟩
      have e := Hs.out
      rw [Hd.out] at e
      unfold Hid
      rw [← e]
      simp only [szr, szL]
      (repeat' split) <;> omega
     case measure => simp [intOf]; omega
    ·rw [szr_gt h3]
     have e := Hs.out
     rw [Hd.out] at e
     have hf : szr (szs TEvidence.sz l) left = -1 := by
      rw [← e]; simp only [szr, szL]; (repeat' split) <;> omega
     have Hf := Lib.hid hf
     clear hf e
     go_wp2
     go_ret
     exact ⟨by rw [Hf.out]; rfl, hB2⟩
   ·obtain rfl : k = l.length := by omega
    go_wp2
    go_ret
    refine ⟨?_, hB⟩
    rw [← Hs.out]
    simp [szr, szL, hl0]
 ·have Hf : Hid (szr (szs TEvidence.sz l) left = -1) := by
   simp only [Hid, szr, szs]; (repeat' split) <;> omega
  go_enter Tryz.func200, Tryz.ntmps200
  go_wp2
  go_ret
  exact ⟨by rw [Hf.out]; rfl, Below.refl _ _⟩
theorem szEvidence_all : ∀ N : Nat, SzEvidence N ∧ SzEvidenceS N
 | 0 => ⟨fun _ h => absurd h (Nat.not_lt_zero _), fun _ h => absurd h (Nat.not_lt_zero _)⟩
 | N + 1 => by
  obtain ⟨i0, i1⟩ := szEvidence_all N
  exact ⟨stepSzEvidence N i0 i1, stepSzEvidenceS N i0 i1⟩
theorem szEvidence_c (x : TEvidence) : ∀ (w : World) (K : Nat → Prop) (_ : ∀ b, K b → b < w.heap.size) (cs : List Value) (_ : Rep w K x.enc cs) (left : Int) (_ : 0 ≤ left) (_ : left ≤ 1048576),
  Calls Tryz.prog 237 #[.agg cs.toArray, .int .i64 left] w fun e w' => e = .returned (.int .i64 (szr x.sz left)) ∧ Below w.heap.size w w' := (szEvidence_all (SizeOf.sizeOf x + 1)).1 x (Nat.lt_succ_self _)
theorem szEvidenceS_c (l : List TEvidence) : ∀ (w : World) (K : Nat → Prop) (_ : ∀ b, K b → b < w.heap.size) (v : Value) (_ : Rep w K (.sl (l.map TEvidence.enc)) [v]) (left : Int) (_ : 0 ≤ left) (_ : left ≤ 1048576),
  Calls Tryz.prog 200 #[v, .int .i64 left] w fun e w' => e = .returned (.int .i64 (szr (szs TEvidence.sz l) left)) ∧ Below w.heap.size w w' := (szEvidence_all (SizeOf.sizeOf l + 1)).2 l (Nat.lt_succ_self _)
set_option maxRecDepth 100000 in
set_option maxHeartbeats 1000000 in
theorem szMethodEntry_c (x : TMethodEntry) : ∀ (w : World) (K : Nat → Prop) (_ : ∀ b, K b → b < w.heap.size) (cs : List Value) (_ : Rep w K x.enc cs) (left : Int) (_ : 0 ≤ left) (_ : left ≤ 1048576),
  Calls Tryz.prog 203 #[.agg cs.toArray, .int .i64 left] w fun e w' => e = .returned (.int .i64 (szr x.sz left)) ∧ Below w.heap.size w w' := by
 intro w K hK cs h left h0 h1
 obtain ⟨rfl, hTrait, hName, hSpecialization⟩ := TMethodEntry.opn h
 clear h
 unfold maxLen at hTrait
 unfold maxLen at hName
 clear hSpecialization
 have hW : Below w.heap.size w (w.alloc (.cells #[.string x.fTrait, .string x.fName, .int .i64 x.fSpecialization] 289)) := (Below.refl _ _).alloc (Nat.le_refl _) _
 have hx : Below (w.heap.size + 1) (w.alloc (.cells #[.string x.fTrait, .string x.fName, .int .i64 x.fSpecialization] 289)) (w.alloc (.cells #[.string x.fTrait, .string x.fName, .int .i64 x.fSpecialization] 289)) := Below.refl _ _
 go_enter Tryz.func203, Tryz.ntmps203
 by_cases g0 : ((x.fTrait.size : Nat) : Int) ≤ left
 ·skip
  by_cases g1 : ((x.fName.size : Nat) : Int) ≤ left - ((x.fTrait.size : Nat) : Int)
  ·skip
   go_wp2
   go_ret
   exact ⟨ret_int (by rw [TMethodEntry.sz_eq]; unfold szr; (repeat' split) <;> omega), hW⟩
  ·go_wp2
   go_ret
   exact ⟨ret_int (by rw [TMethodEntry.sz_eq]; unfold szr; (repeat' split) <;> omega), hW⟩
 ·go_wp2
  go_ret
  exact ⟨ret_int (by rw [TMethodEntry.sz_eq]; unfold szr; (repeat' split) <;> omega), hW⟩
theorem infoS289 : (Tryz.prog.info? 289).map (·.size) = some 3 := by kernel_rfl
set_option maxRecDepth 100000 in
set_option maxHeartbeats 1000000 in
theorem szMethodEntryS_c (l : List TMethodEntry) : ∀ (w : World) (K : Nat → Prop) (_ : ∀ b, K b → b < w.heap.size) (v : Value) (_ : Rep w K (.sl (l.map TMethodEntry.enc)) [v]) (left : Int) (_ : 0 ≤ left) (_ : left ≤ 1048576),
  Calls Tryz.prog 150 #[v, .int .i64 left] w fun e w' => e = .returned (.int .i64 (szr (szs TMethodEntry.sz l) left)) ∧ Below w.heap.size w w' := by
 intro w K hK v h left h0 h1
 obtain ⟨a, cap, rfl, hc, hm, -, hE⟩ := open_sl TMethodEntry.width h
 unfold maxLen at hm
 clear h
 by_cases h2 : (l.length : Int) ≤ left
 ·have Hg : Hid (szr (szL TMethodEntry.sz (l.drop 0)) (left - l.length) = szr (szs TMethodEntry.sz l) left) := by
   simp only [Hid, szr, szs, List.drop_zero]; (repeat' split) <;> omega
  go_enter Tryz.func150, Tryz.ntmps150
  go_wp2
  go_loopw [1, 5] (fun t i wr => ∃ (k : Nat) (lf : Int), k ≤ l.length ∧ 0 ≤ lf ∧ lf ≤ 1048576 ∧ i = .int .i64 k ∧ t = .int .i64 lf ∧ Hid (szr (szL TMethodEntry.sz (l.drop k)) lf = szr (szs TMethodEntry.sz l) left) ∧ Below w.heap.size w wr) (fun _ i _ => l.length - (intOf i).toNat)
  case atStart => exact ⟨0, _, Nat.zero_le _, by omega, by omega, rfl, rfl, Hg, Below.refl _ _⟩
  case round =>
   clear Hg
   obtain ⟨k, lf, hk, hl0, hl1, rfl, rfl, Hs, hB⟩ := hrel
   by_cases hlt : k < l.length
   ·obtain ⟨b, off, rfl, hKb, cs, hcs, hr⟩ := hE k hlt
    have hr' := Rep.ext hB hK hr
    have hcs' := hcs.ext hB (hK b hKb)
    have hK' : ∀ b, K b → b < wr.heap.size := fun b h => Nat.lt_of_lt_of_le (hK b h) hB.size
    have Hd : Hid (l.drop k = l[k] :: l.drop (k + 1)) := List.drop_eq_getElem_cons hlt
    clear hE hcs hr
    have hi : (Tryz.prog.info? 289).map (·.size) = some cs.length := by rw [Rep.length _ _ hr', TMethodEntry.width]; exact infoS289
    have hmem : l[k] ∈ l := List.getElem_mem hlt
    generalize l[k] = x at *
    go_wp2_with (with_reducible refine ld rfl 289 _ rfl b _ rfl cs hcs' _ Tryz.underlying289 hi ?_)
    refine (szMethodEntry_c x _ K hK' _ hr' lf hl0 hl1).mono ?_
    rintro e w1 ⟨rfl, hB1⟩
    have hB2 := hB.trans (hB1.mono hB.size)
    by_cases h3 : (x.sz : Int) ≤ lf
    ·rw [szr_le h3]
     go_wp2
     go_roundw
     case rel =>
      refine ⟨k + 1, lf - (x.sz : Int), hlt, by omega, by omega, by go_num, rfl, ?_, hB2⟩
      have e := Hs.out
      rw [Hd.out] at e
      unfold Hid
      rw [← e]
      simp only [szr, szL]
      (repeat' split) <;> omega
     case measure => simp [intOf]; omega
    ·rw [szr_gt h3]
     have e := Hs.out
     rw [Hd.out] at e
     have hf : szr (szs TMethodEntry.sz l) left = -1 := by
      rw [← e]; simp only [szr, szL]; (repeat' split) <;> omega
     have Hf := Lib.hid hf
     clear hf e
     go_wp2
     go_ret
     exact ⟨by rw [Hf.out]; rfl, hB2⟩
   ·obtain rfl : k = l.length := by omega
    go_wp2
    go_ret
    refine ⟨?_, hB⟩
    rw [← Hs.out]
    simp [szr, szL, hl0]
 ·have Hf : Hid (szr (szs TMethodEntry.sz l) left = -1) := by
   simp only [Hid, szr, szs]; (repeat' split) <;> omega
  go_enter Tryz.func150, Tryz.ntmps150
  go_wp2
  go_ret
  exact ⟨by rw [Hf.out]; rfl, Below.refl _ _⟩
theorem infoS150 : (Tryz.prog.info? 150).map (·.size) = some 3 := by kernel_rfl
def SzType (N : Nat) : Prop := ∀ (x : TType), SizeOf.sizeOf x < N → ∀ (w : World) (K : Nat → Prop) (_ : ∀ b, K b → b < w.heap.size) (cs : List Value) (_ : Rep w K x.enc cs) (left : Int) (_ : 0 ≤ left) (_ : left ≤ 1048576),
  Calls Tryz.prog 149 #[.agg cs.toArray, .int .i64 left] w fun e w' => e = .returned (.int .i64 (szr x.sz left)) ∧ Below w.heap.size w w'
def SzTypeS (N : Nat) : Prop := ∀ (l : List TType), SizeOf.sizeOf l < N → ∀ (w : World) (K : Nat → Prop) (_ : ∀ b, K b → b < w.heap.size) (v : Value) (_ : Rep w K (.sl (l.map TType.enc)) [v]) (left : Int) (_ : 0 ≤ left) (_ : left ≤ 1048576),
  Calls Tryz.prog 146 #[v, .int .i64 left] w fun e w' => e = .returned (.int .i64 (szr (szs TType.sz l) left)) ∧ Below w.heap.size w w'
set_option maxRecDepth 100000 in
set_option maxHeartbeats 1000000 in
theorem stepSzType (N : Nat) (_iSzType : SzType N) (iSzTypeS : SzTypeS N) : SzType (N + 1) := by
 intro x hN w K hK cs h left h0 h1
 obtain ⟨c2, rfl, hKind, hName, hArgs⟩ := TType.opn h
 clear h
 clear hKind
 unfold maxLen at hName
 have hW : Below w.heap.size w (w.alloc (.cells #[.int .i64 x.fKind, .string x.fName, c2] 150)) := (Below.refl _ _).alloc (Nat.le_refl _) _
 have hx : Below (w.heap.size + 1) (w.alloc (.cells #[.int .i64 x.fKind, .string x.fName, c2] 150)) (w.alloc (.cells #[.int .i64 x.fKind, .string x.fName, c2] 150)) := Below.refl _ _
 go_enter Tryz.func149, Tryz.ntmps149
 by_cases g0 : ((x.fName.size : Nat) : Int) ≤ left
 ·skip
  go_wp2_with fail
  refine (iSzTypeS x.fArgs (by have := TType.lt_fArgs x; omega) _ K (fun b hb => Nat.lt_of_lt_of_le (hK b hb) hW.size) _ (Rep.ext hW hK hArgs) _ (by omega) (by omega)).mono ?_
  rintro e w1 ⟨rfl, hB1⟩
  have hx1 : Below (w.heap.size + 1) (w.alloc (.cells #[.int .i64 x.fKind, .string x.fName, c2] 150)) w1 := hx.trans (hB1.mono (by have := hx.size; simp at this ⊢ <;> omega))
  have hb1 : Below w.heap.size w w1 := hW.trans (hx1.mono (Nat.le_succ _))
  have hc1 := (bcell hx1).1
  by_cases g1 : ((szs TType.sz x.fArgs : Nat) : Int) ≤ left - ((x.fName.size : Nat) : Int)
  ·rw [szr_le g1]
   go_wp2
   go_ret
   exact ⟨ret_int (by rw [TType.sz_eq]; unfold szr; (repeat' split) <;> omega), hb1⟩
  ·rw [szr_gt g1]
   go_wp2
   go_ret
   exact ⟨ret_int (by rw [TType.sz_eq]; unfold szr; (repeat' split) <;> omega), hb1⟩
 ·go_wp2
  go_ret
  exact ⟨ret_int (by rw [TType.sz_eq]; unfold szr; (repeat' split) <;> omega), hW⟩
set_option maxRecDepth 100000 in
set_option maxHeartbeats 1000000 in
theorem stepSzTypeS (N : Nat) (iSzType : SzType N) (_iSzTypeS : SzTypeS N) : SzTypeS (N + 1) := by
 intro l hN w K hK v h left h0 h1
 obtain ⟨a, cap, rfl, hc, hm, -, hE⟩ := open_sl TType.width h
 unfold maxLen at hm
 clear h
 by_cases h2 : (l.length : Int) ≤ left
 ·have Hg : Hid (szr (szL TType.sz (l.drop 0)) (left - l.length) = szr (szs TType.sz l) left) := by
   simp only [Hid, szr, szs, List.drop_zero]; (repeat' split) <;> omega
  go_enter Tryz.func146, Tryz.ntmps146
  go_wp2
  go_loopw [1, 5] (fun t i wr => ∃ (k : Nat) (lf : Int), k ≤ l.length ∧ 0 ≤ lf ∧ lf ≤ 1048576 ∧ i = .int .i64 k ∧ t = .int .i64 lf ∧ Hid (szr (szL TType.sz (l.drop k)) lf = szr (szs TType.sz l) left) ∧ Below w.heap.size w wr) (fun _ i _ => l.length - (intOf i).toNat)
  case atStart => exact ⟨0, _, Nat.zero_le _, by omega, by omega, rfl, rfl, Hg, Below.refl _ _⟩
  case round =>
   clear Hg
   obtain ⟨k, lf, hk, hl0, hl1, rfl, rfl, Hs, hB⟩ := hrel
   by_cases hlt : k < l.length
   ·obtain ⟨b, off, rfl, hKb, cs, hcs, hr⟩ := hE k hlt
    have hr' := Rep.ext hB hK hr
    have hcs' := hcs.ext hB (hK b hKb)
    have hK' : ∀ b, K b → b < wr.heap.size := fun b h => Nat.lt_of_lt_of_le (hK b h) hB.size
    have Hd : Hid (l.drop k = l[k] :: l.drop (k + 1)) := List.drop_eq_getElem_cons hlt
    clear hE hcs hr
    have hi : (Tryz.prog.info? 150).map (·.size) = some cs.length := by rw [Rep.length _ _ hr', TType.width]; exact infoS150
    have hmem : l[k] ∈ l := List.getElem_mem hlt
    generalize l[k] = x at *
    go_wp2_with (with_reducible refine ld rfl 150 _ rfl b _ rfl cs hcs' _ Tryz.underlying150 hi ?_)
    refine (iSzType x (by have := List.sizeOf_lt_of_mem hmem; omega) _ K hK' _ hr' lf hl0 hl1).mono ?_
    rintro e w1 ⟨rfl, hB1⟩
    have hB2 := hB.trans (hB1.mono hB.size)
    by_cases h3 : (x.sz : Int) ≤ lf
    ·rw [szr_le h3]
     go_wp2
     go_roundw
     case rel =>
      refine ⟨k + 1, lf - (x.sz : Int), hlt, by omega, by omega, by go_num, rfl, ?_, hB2⟩
      have e := Hs.out
      rw [Hd.out] at e
      unfold Hid
      rw [← e]
      simp only [szr, szL]
      (repeat' split) <;> omega
     case measure => simp [intOf]; omega
    ·rw [szr_gt h3]
     have e := Hs.out
     rw [Hd.out] at e
     have hf : szr (szs TType.sz l) left = -1 := by
      rw [← e]; simp only [szr, szL]; (repeat' split) <;> omega
     have Hf := Lib.hid hf
     clear hf e
     go_wp2
     go_ret
     exact ⟨by rw [Hf.out]; rfl, hB2⟩
   ·obtain rfl : k = l.length := by omega
    go_wp2
    go_ret
    refine ⟨?_, hB⟩
    rw [← Hs.out]
    simp [szr, szL, hl0]
 ·have Hf : Hid (szr (szs TType.sz l) left = -1) := by
   simp only [Hid, szr, szs]; (repeat' split) <;> omega
  go_enter Tryz.func146, Tryz.ntmps146
  go_wp2
  go_ret
  exact ⟨by rw [Hf.out]; rfl, Below.refl _ _⟩
theorem szType_all : ∀ N : Nat, SzType N ∧ SzTypeS N
 | 0 => ⟨fun _ h => absurd h (Nat.not_lt_zero _), fun _ h => absurd h (Nat.not_lt_zero _)⟩
 | N + 1 => by
  obtain ⟨i0, i1⟩ := szType_all N
  exact ⟨stepSzType N i0 i1, stepSzTypeS N i0 i1⟩
theorem szType_c (x : TType) : ∀ (w : World) (K : Nat → Prop) (_ : ∀ b, K b → b < w.heap.size) (cs : List Value) (_ : Rep w K x.enc cs) (left : Int) (_ : 0 ≤ left) (_ : left ≤ 1048576),
  Calls Tryz.prog 149 #[.agg cs.toArray, .int .i64 left] w fun e w' => e = .returned (.int .i64 (szr x.sz left)) ∧ Below w.heap.size w w' := (szType_all (SizeOf.sizeOf x + 1)).1 x (Nat.lt_succ_self _)
theorem szTypeS_c (l : List TType) : ∀ (w : World) (K : Nat → Prop) (_ : ∀ b, K b → b < w.heap.size) (v : Value) (_ : Rep w K (.sl (l.map TType.enc)) [v]) (left : Int) (_ : 0 ≤ left) (_ : left ≤ 1048576),
  Calls Tryz.prog 146 #[v, .int .i64 left] w fun e w' => e = .returned (.int .i64 (szr (szs TType.sz l) left)) ∧ Below w.heap.size w w' := (szType_all (SizeOf.sizeOf l + 1)).2 l (Nat.lt_succ_self _)
theorem infoS328 : (Tryz.prog.info? 328).map (·.size) = some 13 := by kernel_rfl
theorem infoS155 : (Tryz.prog.info? 155).map (·.size) = some 11 := by kernel_rfl
def SzCoreArm (N : Nat) : Prop := ∀ (x : TCoreArm), SizeOf.sizeOf x < N → ∀ (w : World) (K : Nat → Prop) (_ : ∀ b, K b → b < w.heap.size) (cs : List Value) (_ : Rep w K x.enc cs) (left : Int) (_ : 0 ≤ left) (_ : left ≤ 1048576),
  Calls Tryz.prog 238 #[.agg cs.toArray, .int .i64 left] w fun e w' => e = .returned (.int .i64 (szr x.sz left)) ∧ Below w.heap.size w w'
def SzCoreArmS (N : Nat) : Prop := ∀ (l : List TCoreArm), SizeOf.sizeOf l < N → ∀ (w : World) (K : Nat → Prop) (_ : ∀ b, K b → b < w.heap.size) (v : Value) (_ : Rep w K (.sl (l.map TCoreArm.enc)) [v]) (left : Int) (_ : 0 ≤ left) (_ : left ≤ 1048576),
  Calls Tryz.prog 202 #[v, .int .i64 left] w fun e w' => e = .returned (.int .i64 (szr (szs TCoreArm.sz l) left)) ∧ Below w.heap.size w w'
def SzCore (N : Nat) : Prop := ∀ (x : TCore), SizeOf.sizeOf x < N → ∀ (w : World) (K : Nat → Prop) (_ : ∀ b, K b → b < w.heap.size) (cs : List Value) (_ : Rep w K x.enc cs) (left : Int) (_ : 0 ≤ left) (_ : left ≤ 1048576),
  Calls Tryz.prog 148 #[.agg cs.toArray, .int .i64 left] w fun e w' => e = .returned (.int .i64 (szr x.sz left)) ∧ Below w.heap.size w w'
def SzCoreS (N : Nat) : Prop := ∀ (l : List TCore), SizeOf.sizeOf l < N → ∀ (w : World) (K : Nat → Prop) (_ : ∀ b, K b → b < w.heap.size) (v : Value) (_ : Rep w K (.sl (l.map TCore.enc)) [v]) (left : Int) (_ : 0 ≤ left) (_ : left ≤ 1048576),
  Calls Tryz.prog 201 #[v, .int .i64 left] w fun e w' => e = .returned (.int .i64 (szr (szs TCore.sz l) left)) ∧ Below w.heap.size w w'
set_option maxRecDepth 100000 in
set_option maxHeartbeats 1000000 in
theorem stepSzCoreArm (N : Nat) (_iSzCoreArm : SzCoreArm N) (_iSzCoreArmS : SzCoreArmS N) (iSzCore : SzCore N) (_iSzCoreS : SzCoreS N) : SzCoreArm (N + 1) := by
 intro x hN w K hK cs h left h0 h1
 obtain ⟨c1, c2, c3, c4, c5, c6, c7, c8, c9, c10, c11, c12, rfl, hConstructor, hVars, hBody⟩ := TCoreArm.opn h
 clear h
 unfold maxLen at hConstructor
 have hW : Below w.heap.size w (w.alloc (.cells #[.string x.fConstructor, c1, c2, c3, c4, c5, c6, c7, c8, c9, c10, c11, c12] 328)) := (Below.refl _ _).alloc (Nat.le_refl _) _
 have hx : Below (w.heap.size + 1) (w.alloc (.cells #[.string x.fConstructor, c1, c2, c3, c4, c5, c6, c7, c8, c9, c10, c11, c12] 328)) (w.alloc (.cells #[.string x.fConstructor, c1, c2, c3, c4, c5, c6, c7, c8, c9, c10, c11, c12] 328)) := Below.refl _ _
 go_enter Tryz.func238, Tryz.ntmps238
 by_cases g0 : ((x.fConstructor.size : Nat) : Int) ≤ left
 ·skip
  go_wp2_with fail
  refine (szStringS_c x.fVars _ K (fun b hb => Nat.lt_of_lt_of_le (hK b hb) hW.size) _ (Rep.ext hW hK hVars) _ (by omega) (by omega)).mono ?_
  rintro e w1 ⟨rfl, hB1⟩
  have hx1 : Below (w.heap.size + 1) (w.alloc (.cells #[.string x.fConstructor, c1, c2, c3, c4, c5, c6, c7, c8, c9, c10, c11, c12] 328)) w1 := hx.trans (hB1.mono (by have := hx.size; simp at this ⊢ <;> omega))
  have hb1 : Below w.heap.size w w1 := hW.trans (hx1.mono (Nat.le_succ _))
  have hc1 := (bcell hx1).1
  by_cases g1 : ((szs ByteArray.size x.fVars : Nat) : Int) ≤ left - ((x.fConstructor.size : Nat) : Int)
  ·rw [szr_le g1]
   go_wp2_with fail
   refine (iSzCore x.fBody (by have := TCoreArm.lt_fBody x; omega) _ K (fun b hb => Nat.lt_of_lt_of_le (hK b hb) hb1.size) _ (Rep.ext hb1 hK hBody) _ (by omega) (by omega)).mono ?_
   rintro e w2 ⟨rfl, hB2⟩
   have hx2 : Below (w.heap.size + 1) (w.alloc (.cells #[.string x.fConstructor, c1, c2, c3, c4, c5, c6, c7, c8, c9, c10, c11, c12] 328)) w2 := hx1.trans (hB2.mono (by have := hx1.size; simp at this ⊢ <;> omega))
   have hb2 : Below w.heap.size w w2 := hW.trans (hx2.mono (Nat.le_succ _))
   have hc2 := (bcell hx2).1
   by_cases g2 : ((TCore.sz x.fBody : Nat) : Int) ≤ left - ((x.fConstructor.size : Nat) : Int) - ((szs ByteArray.size x.fVars : Nat) : Int)
   ·rw [szr_le g2]
    go_wp2
    go_ret
    exact ⟨ret_int (by rw [TCoreArm.sz_eq]; unfold szr; (repeat' split) <;> omega), hb2⟩
   ·rw [szr_gt g2]
    go_wp2
    go_ret
    exact ⟨ret_int (by rw [TCoreArm.sz_eq]; unfold szr; (repeat' split) <;> omega), hb2⟩
  ·rw [szr_gt g1]
   go_wp2
   go_ret
   exact ⟨ret_int (by rw [TCoreArm.sz_eq]; unfold szr; (repeat' split) <;> omega), hb1⟩
 ·go_wp2
  go_ret
  exact ⟨ret_int (by rw [TCoreArm.sz_eq]; unfold szr; (repeat' split) <;> omega), hW⟩
set_option maxRecDepth 100000 in
set_option maxHeartbeats 1000000 in
theorem stepSzCoreArmS (N : Nat) (iSzCoreArm : SzCoreArm N) (_iSzCoreArmS : SzCoreArmS N) (_iSzCore : SzCore N) (_iSzCoreS : SzCoreS N) : SzCoreArmS (N + 1) := by
 intro l hN w K hK v h left h0 h1
 obtain ⟨a, cap, rfl, hc, hm, -, hE⟩ := open_sl TCoreArm.width h
 unfold maxLen at hm
 clear h
 by_cases h2 : (l.length : Int) ≤ left
 ·have Hg : Hid (szr (szL TCoreArm.sz (l.drop 0)) (left - l.length) = szr (szs TCoreArm.sz l) left) := by
   simp only [Hid, szr, szs, List.drop_zero]; (repeat' split) <;> omega
  go_enter Tryz.func202, Tryz.ntmps202
  go_wp2
  go_loopw [1, 5] (fun t i wr => ∃ (k : Nat) (lf : Int), k ≤ l.length ∧ 0 ≤ lf ∧ lf ≤ 1048576 ∧ i = .int .i64 k ∧ t = .int .i64 lf ∧ Hid (szr (szL TCoreArm.sz (l.drop k)) lf = szr (szs TCoreArm.sz l) left) ∧ Below w.heap.size w wr) (fun _ i _ => l.length - (intOf i).toNat)
  case atStart => exact ⟨0, _, Nat.zero_le _, by omega, by omega, rfl, rfl, Hg, Below.refl _ _⟩
  case round =>
   clear Hg
   obtain ⟨k, lf, hk, hl0, hl1, rfl, rfl, Hs, hB⟩ := hrel
   by_cases hlt : k < l.length
   ·obtain ⟨b, off, rfl, hKb, cs, hcs, hr⟩ := hE k hlt
    have hr' := Rep.ext hB hK hr
    have hcs' := hcs.ext hB (hK b hKb)
    have hK' : ∀ b, K b → b < wr.heap.size := fun b h => Nat.lt_of_lt_of_le (hK b h) hB.size
    have Hd : Hid (l.drop k = l[k] :: l.drop (k + 1)) := List.drop_eq_getElem_cons hlt
    clear hE hcs hr
    have hi : (Tryz.prog.info? 328).map (·.size) = some cs.length := by rw [Rep.length _ _ hr', TCoreArm.width]; exact infoS328
    have hmem : l[k] ∈ l := List.getElem_mem hlt
    generalize l[k] = x at *
    go_wp2_with (with_reducible refine ld rfl 328 _ rfl b _ rfl cs hcs' _ Tryz.underlying328 hi ?_)
    refine (iSzCoreArm x (by have := List.sizeOf_lt_of_mem hmem; omega) _ K hK' _ hr' lf hl0 hl1).mono ?_
    rintro e w1 ⟨rfl, hB1⟩
    have hB2 := hB.trans (hB1.mono hB.size)
    by_cases h3 : (x.sz : Int) ≤ lf
    ·rw [szr_le h3]
     go_wp2
     go_roundw
     case rel =>
      refine ⟨k + 1, lf - (x.sz : Int), hlt, by omega, by omega, by go_num, rfl, ?_, hB2⟩
      have e := Hs.out
      rw [Hd.out] at e
      unfold Hid
      rw [← e]
      simp only [szr, szL]
      (repeat' split) <;> omega
     case measure => simp [intOf]; omega
    ·rw [szr_gt h3]
     have e := Hs.out
     rw [Hd.out] at e
     have hf : szr (szs TCoreArm.sz l) left = -1 := by
      rw [← e]; simp only [szr, szL]; (repeat' split) <;> omega
     have Hf := Lib.hid hf
     clear hf e
     go_wp2
     go_ret
     exact ⟨by rw [Hf.out]; rfl, hB2⟩
   ·obtain rfl : k = l.length := by omega
    go_wp2
    go_ret
    refine ⟨?_, hB⟩
    rw [← Hs.out]
    simp [szr, szL, hl0]
 ·have Hf : Hid (szr (szs TCoreArm.sz l) left = -1) := by
   simp only [Hid, szr, szs]; (repeat' split) <;> omega
  go_enter Tryz.func202, Tryz.ntmps202
  go_wp2
  go_ret
  exact ⟨by rw [Hf.out]; rfl, Below.refl _ _⟩
set_option maxRecDepth 100000 in
set_option maxHeartbeats 1000000 in
theorem stepSzCore (N : Nat) (_iSzCoreArm : SzCoreArm N) (iSzCoreArmS : SzCoreArmS N) (_iSzCore : SzCore N) (iSzCoreS : SzCoreS N) : SzCore (N + 1) := by
 intro x hN w K hK cs h left h0 h1
 obtain ⟨c4, c5, c6, c7, c8, c9, c10, rfl, hKind, hTrait, hName, hN, hType, hTypeArgs, hEvidence, hArgs, hArms⟩ := TCore.opn h
 clear h
 clear hKind
 unfold maxLen at hTrait
 unfold maxLen at hName
 clear hN
 have hW : Below w.heap.size w (w.alloc (.cells #[.int .i64 x.fKind, .string x.fTrait, .string x.fName, .int .i64 x.fN, c4, c5, c6, c7, c8, c9, c10] 155)) := (Below.refl _ _).alloc (Nat.le_refl _) _
 have hx : Below (w.heap.size + 1) (w.alloc (.cells #[.int .i64 x.fKind, .string x.fTrait, .string x.fName, .int .i64 x.fN, c4, c5, c6, c7, c8, c9, c10] 155)) (w.alloc (.cells #[.int .i64 x.fKind, .string x.fTrait, .string x.fName, .int .i64 x.fN, c4, c5, c6, c7, c8, c9, c10] 155)) := Below.refl _ _
 go_enter Tryz.func148, Tryz.ntmps148
 by_cases g0 : ((x.fTrait.size : Nat) : Int) ≤ left
 ·skip
  by_cases g1 : ((x.fName.size : Nat) : Int) ≤ left - ((x.fTrait.size : Nat) : Int)
  ·skip
   go_wp2_with fail
   refine (szType_c x.fType _ K (fun b hb => Nat.lt_of_lt_of_le (hK b hb) hW.size) _ (Rep.ext hW hK hType) _ (by omega) (by omega)).mono ?_
   rintro e w2 ⟨rfl, hB2⟩
   have hx2 : Below (w.heap.size + 1) (w.alloc (.cells #[.int .i64 x.fKind, .string x.fTrait, .string x.fName, .int .i64 x.fN, c4, c5, c6, c7, c8, c9, c10] 155)) w2 := hx.trans (hB2.mono (by have := hx.size; simp at this ⊢ <;> omega))
   have hb2 : Below w.heap.size w w2 := hW.trans (hx2.mono (Nat.le_succ _))
   have hc2 := (bcell hx2).1
   by_cases g2 : ((TType.sz x.fType : Nat) : Int) ≤ left - ((x.fTrait.size : Nat) : Int) - ((x.fName.size : Nat) : Int)
   ·rw [szr_le g2]
    go_wp2_with fail
    refine (szTypeS_c x.fTypeArgs _ K (fun b hb => Nat.lt_of_lt_of_le (hK b hb) hb2.size) _ (Rep.ext hb2 hK hTypeArgs) _ (by omega) (by omega)).mono ?_
    rintro e w3 ⟨rfl, hB3⟩
    have hx3 : Below (w.heap.size + 1) (w.alloc (.cells #[.int .i64 x.fKind, .string x.fTrait, .string x.fName, .int .i64 x.fN, c4, c5, c6, c7, c8, c9, c10] 155)) w3 := hx2.trans (hB3.mono (by have := hx2.size; simp at this ⊢ <;> omega))
    have hb3 : Below w.heap.size w w3 := hW.trans (hx3.mono (Nat.le_succ _))
    have hc3 := (bcell hx3).1
    by_cases g3 : ((szs TType.sz x.fTypeArgs : Nat) : Int) ≤ left - ((x.fTrait.size : Nat) : Int) - ((x.fName.size : Nat) : Int) - ((TType.sz x.fType : Nat) : Int)
    ·rw [szr_le g3]
     go_wp2_with fail
     refine (szEvidenceS_c x.fEvidence _ K (fun b hb => Nat.lt_of_lt_of_le (hK b hb) hb3.size) _ (Rep.ext hb3 hK hEvidence) _ (by omega) (by omega)).mono ?_
     rintro e w4 ⟨rfl, hB4⟩
     have hx4 : Below (w.heap.size + 1) (w.alloc (.cells #[.int .i64 x.fKind, .string x.fTrait, .string x.fName, .int .i64 x.fN, c4, c5, c6, c7, c8, c9, c10] 155)) w4 := hx3.trans (hB4.mono (by have := hx3.size; simp at this ⊢ <;> omega))
     have hb4 : Below w.heap.size w w4 := hW.trans (hx4.mono (Nat.le_succ _))
     have hc4 := (bcell hx4).1
     by_cases g4 : ((szs TEvidence.sz x.fEvidence : Nat) : Int) ≤ left - ((x.fTrait.size : Nat) : Int) - ((x.fName.size : Nat) : Int) - ((TType.sz x.fType : Nat) : Int) - ((szs TType.sz x.fTypeArgs : Nat) : Int)
     ·rw [szr_le g4]
      go_wp2_with fail
      refine (iSzCoreS x.fArgs (by have := TCore.lt_fArgs x; omega) _ K (fun b hb => Nat.lt_of_lt_of_le (hK b hb) hb4.size) _ (Rep.ext hb4 hK hArgs) _ (by omega) (by omega)).mono ?_
      rintro e w5 ⟨rfl, hB5⟩
      have hx5 : Below (w.heap.size + 1) (w.alloc (.cells #[.int .i64 x.fKind, .string x.fTrait, .string x.fName, .int .i64 x.fN, c4, c5, c6, c7, c8, c9, c10] 155)) w5 := hx4.trans (hB5.mono (by have := hx4.size; simp at this ⊢ <;> omega))
      have hb5 : Below w.heap.size w w5 := hW.trans (hx5.mono (Nat.le_succ _))
      have hc5 := (bcell hx5).1
      by_cases g5 : ((szs TCore.sz x.fArgs : Nat) : Int) ≤ left - ((x.fTrait.size : Nat) : Int) - ((x.fName.size : Nat) : Int) - ((TType.sz x.fType : Nat) : Int) - ((szs TType.sz x.fTypeArgs : Nat) : Int) - ((szs TEvidence.sz x.fEvidence : Nat) : Int)
      ·rw [szr_le g5]
       go_wp2_with fail
       refine (iSzCoreArmS x.fArms (by have := TCore.lt_fArms x; omega) _ K (fun b hb => Nat.lt_of_lt_of_le (hK b hb) hb5.size) _ (Rep.ext hb5 hK hArms) _ (by omega) (by omega)).mono ?_
       rintro e w6 ⟨rfl, hB6⟩
       have hx6 : Below (w.heap.size + 1) (w.alloc (.cells #[.int .i64 x.fKind, .string x.fTrait, .string x.fName, .int .i64 x.fN, c4, c5, c6, c7, c8, c9, c10] 155)) w6 := hx5.trans (hB6.mono (by have := hx5.size; simp at this ⊢ <;> omega))
       have hb6 : Below w.heap.size w w6 := hW.trans (hx6.mono (Nat.le_succ _))
       have hc6 := (bcell hx6).1
       by_cases g6 : ((szs TCoreArm.sz x.fArms : Nat) : Int) ≤ left - ((x.fTrait.size : Nat) : Int) - ((x.fName.size : Nat) : Int) - ((TType.sz x.fType : Nat) : Int) - ((szs TType.sz x.fTypeArgs : Nat) : Int) - ((szs TEvidence.sz x.fEvidence : Nat) : Int) - ((szs TCore.sz x.fArgs : Nat) : Int)
       ·rw [szr_le g6]
        go_wp2
        go_ret
        exact ⟨ret_int (by rw [TCore.sz_eq]; unfold szr; (repeat' split) <;> omega), hb6⟩
       ·rw [szr_gt g6]
        go_wp2
        go_ret
        exact ⟨ret_int (by rw [TCore.sz_eq]; unfold szr; (repeat' split) <;> omega), hb6⟩
      ·rw [szr_gt g5]
       go_wp2
       go_ret
       exact ⟨ret_int (by rw [TCore.sz_eq]; unfold szr; (repeat' split) <;> omega), hb5⟩
     ·rw [szr_gt g4]
      go_wp2
      go_ret
      exact ⟨ret_int (by rw [TCore.sz_eq]; unfold szr; (repeat' split) <;> omega), hb4⟩
    ·rw [szr_gt g3]
     go_wp2
     go_ret
     exact ⟨ret_int (by rw [TCore.sz_eq]; unfold szr; (repeat' split) <;> omega), hb3⟩
   ·rw [szr_gt g2]
    go_wp2
    go_ret
    exact ⟨ret_int (by rw [TCore.sz_eq]; unfold szr; (repeat' split) <;> omega), hb2⟩
  ·go_wp2
   go_ret
   exact ⟨ret_int (by rw [TCore.sz_eq]; unfold szr; (repeat' split) <;> omega), hW⟩
 ·go_wp2
  go_ret
  exact ⟨ret_int (by rw [TCore.sz_eq]; unfold szr; (repeat' split) <;> omega), hW⟩
set_option maxRecDepth 100000 in
set_option maxHeartbeats 1000000 in
theorem stepSzCoreS (N : Nat) (_iSzCoreArm : SzCoreArm N) (_iSzCoreArmS : SzCoreArmS N) (iSzCore : SzCore N) (_iSzCoreS : SzCoreS N) : SzCoreS (N + 1) := by
 intro l hN w K hK v h left h0 h1
 obtain ⟨a, cap, rfl, hc, hm, -, hE⟩ := open_sl TCore.width h
 unfold maxLen at hm
 clear h
 by_cases h2 : (l.length : Int) ≤ left
 ·have Hg : Hid (szr (szL TCore.sz (l.drop 0)) (left - l.length) = szr (szs TCore.sz l) left) := by
   simp only [Hid, szr, szs, List.drop_zero]; (repeat' split) <;> omega
  go_enter Tryz.func201, Tryz.ntmps201
  go_wp2
  go_loopw [1, 5] (fun t i wr => ∃ (k : Nat) (lf : Int), k ≤ l.length ∧ 0 ≤ lf ∧ lf ≤ 1048576 ∧ i = .int .i64 k ∧ t = .int .i64 lf ∧ Hid (szr (szL TCore.sz (l.drop k)) lf = szr (szs TCore.sz l) left) ∧ Below w.heap.size w wr) (fun _ i _ => l.length - (intOf i).toNat)
  case atStart => exact ⟨0, _, Nat.zero_le _, by omega, by omega, rfl, rfl, Hg, Below.refl _ _⟩
  case round =>
   clear Hg
   obtain ⟨k, lf, hk, hl0, hl1, rfl, rfl, Hs, hB⟩ := hrel
   by_cases hlt : k < l.length
   ·obtain ⟨b, off, rfl, hKb, cs, hcs, hr⟩ := hE k hlt
    have hr' := Rep.ext hB hK hr
    have hcs' := hcs.ext hB (hK b hKb)
    have hK' : ∀ b, K b → b < wr.heap.size := fun b h => Nat.lt_of_lt_of_le (hK b h) hB.size
    have Hd : Hid (l.drop k = l[k] :: l.drop (k + 1)) := List.drop_eq_getElem_cons hlt
    clear hE hcs hr
    have hi : (Tryz.prog.info? 155).map (·.size) = some cs.length := by rw [Rep.length _ _ hr', TCore.width]; exact infoS155
    have hmem : l[k] ∈ l := List.getElem_mem hlt
    generalize l[k] = x at *
    go_wp2_with (with_reducible refine ld rfl 155 _ rfl b _ rfl cs hcs' _ Tryz.underlying155 hi ?_)
    refine (iSzCore x (by have := List.sizeOf_lt_of_mem hmem; omega) _ K hK' _ hr' lf hl0 hl1).mono ?_
    rintro e w1 ⟨rfl, hB1⟩
    have hB2 := hB.trans (hB1.mono hB.size)
    by_cases h3 : (x.sz : Int) ≤ lf
    ·rw [szr_le h3]
     go_wp2
     go_roundw
     case rel =>
      refine ⟨k + 1, lf - (x.sz : Int), hlt, by omega, by omega, by go_num, rfl, ?_, hB2⟩
      have e := Hs.out
      rw [Hd.out] at e
      unfold Hid
      rw [← e]
      simp only [szr, szL]
      (repeat' split) <;> omega
     case measure => simp [intOf]; omega
    ·rw [szr_gt h3]
     have e := Hs.out
     rw [Hd.out] at e
     have hf : szr (szs TCore.sz l) left = -1 := by
      rw [← e]; simp only [szr, szL]; (repeat' split) <;> omega
     have Hf := Lib.hid hf
     clear hf e
     go_wp2
     go_ret
     exact ⟨by rw [Hf.out]; rfl, hB2⟩
   ·obtain rfl : k = l.length := by omega
    go_wp2
    go_ret
    refine ⟨?_, hB⟩
    rw [← Hs.out]
    simp [szr, szL, hl0]
 ·have Hf : Hid (szr (szs TCore.sz l) left = -1) := by
   simp only [Hid, szr, szs]; (repeat' split) <;> omega
  go_enter Tryz.func201, Tryz.ntmps201
  go_wp2
  go_ret
  exact ⟨by rw [Hf.out]; rfl, Below.refl _ _⟩
theorem szCoreArmCore_all : ∀ N : Nat, SzCoreArm N ∧ SzCoreArmS N ∧ SzCore N ∧ SzCoreS N
 | 0 => ⟨fun _ h => absurd h (Nat.not_lt_zero _), fun _ h => absurd h (Nat.not_lt_zero _), fun _ h => absurd h (Nat.not_lt_zero _), fun _ h => absurd h (Nat.not_lt_zero _)⟩
 | N + 1 => by
  obtain ⟨i0, i1, i2, i3⟩ := szCoreArmCore_all N
  exact ⟨stepSzCoreArm N i0 i1 i2 i3, stepSzCoreArmS N i0 i1 i2 i3, stepSzCore N i0 i1 i2 i3, stepSzCoreS N i0 i1 i2 i3⟩
theorem szCoreArm_c (x : TCoreArm) : ∀ (w : World) (K : Nat → Prop) (_ : ∀ b, K b → b < w.heap.size) (cs : List Value) (_ : Rep w K x.enc cs) (left : Int) (_ : 0 ≤ left) (_ : left ≤ 1048576),
  Calls Tryz.prog 238 #[.agg cs.toArray, .int .i64 left] w fun e w' => e = .returned (.int .i64 (szr x.sz left)) ∧ Below w.heap.size w w' := (szCoreArmCore_all (SizeOf.sizeOf x + 1)).1 x (Nat.lt_succ_self _)
theorem szCoreArmS_c (l : List TCoreArm) : ∀ (w : World) (K : Nat → Prop) (_ : ∀ b, K b → b < w.heap.size) (v : Value) (_ : Rep w K (.sl (l.map TCoreArm.enc)) [v]) (left : Int) (_ : 0 ≤ left) (_ : left ≤ 1048576),
  Calls Tryz.prog 202 #[v, .int .i64 left] w fun e w' => e = .returned (.int .i64 (szr (szs TCoreArm.sz l) left)) ∧ Below w.heap.size w w' := (szCoreArmCore_all (SizeOf.sizeOf l + 1)).2.1 l (Nat.lt_succ_self _)
theorem szCore_c (x : TCore) : ∀ (w : World) (K : Nat → Prop) (_ : ∀ b, K b → b < w.heap.size) (cs : List Value) (_ : Rep w K x.enc cs) (left : Int) (_ : 0 ≤ left) (_ : left ≤ 1048576),
  Calls Tryz.prog 148 #[.agg cs.toArray, .int .i64 left] w fun e w' => e = .returned (.int .i64 (szr x.sz left)) ∧ Below w.heap.size w w' := (szCoreArmCore_all (SizeOf.sizeOf x + 1)).2.2.1 x (Nat.lt_succ_self _)
theorem szCoreS_c (l : List TCore) : ∀ (w : World) (K : Nat → Prop) (_ : ∀ b, K b → b < w.heap.size) (v : Value) (_ : Rep w K (.sl (l.map TCore.enc)) [v]) (left : Int) (_ : 0 ≤ left) (_ : left ≤ 1048576),
  Calls Tryz.prog 201 #[v, .int .i64 left] w fun e w' => e = .returned (.int .i64 (szr (szs TCore.sz l) left)) ∧ Below w.heap.size w w' := (szCoreArmCore_all (SizeOf.sizeOf l + 1)).2.2.2 l (Nat.lt_succ_self _)
set_option maxRecDepth 100000 in
set_option maxHeartbeats 1000000 in
theorem szMethodTable_c (x : TMethodTable) : ∀ (w : World) (K : Nat → Prop) (_ : ∀ b, K b → b < w.heap.size) (cs : List Value) (_ : Rep w K x.enc cs) (left : Int) (_ : 0 ≤ left) (_ : left ≤ 1048576),
  Calls Tryz.prog 89 #[.agg cs.toArray, .int .i64 left] w fun e w' => e = .returned (.int .i64 (szr x.sz left)) ∧ Below w.heap.size w w' := by
 intro w K hK cs h left h0 h1
 obtain ⟨c1, c2, c3, c4, rfl, hTrait, hType, hEntries⟩ := TMethodTable.opn h
 clear h
 unfold maxLen at hTrait
 have hW : Below w.heap.size w (w.alloc (.cells #[.string x.fTrait, c1, c2, c3, c4] 161)) := (Below.refl _ _).alloc (Nat.le_refl _) _
 have hx : Below (w.heap.size + 1) (w.alloc (.cells #[.string x.fTrait, c1, c2, c3, c4] 161)) (w.alloc (.cells #[.string x.fTrait, c1, c2, c3, c4] 161)) := Below.refl _ _
 go_enter Tryz.func89, Tryz.ntmps89
 by_cases g0 : ((x.fTrait.size : Nat) : Int) ≤ left
 ·skip
  go_wp2_with fail
  refine (szType_c x.fType _ K (fun b hb => Nat.lt_of_lt_of_le (hK b hb) hW.size) _ (Rep.ext hW hK hType) _ (by omega) (by omega)).mono ?_
  rintro e w1 ⟨rfl, hB1⟩
  have hx1 : Below (w.heap.size + 1) (w.alloc (.cells #[.string x.fTrait, c1, c2, c3, c4] 161)) w1 := hx.trans (hB1.mono (by have := hx.size; simp at this ⊢ <;> omega))
  have hb1 : Below w.heap.size w w1 := hW.trans (hx1.mono (Nat.le_succ _))
  have hc1 := (bcell hx1).1
  by_cases g1 : ((TType.sz x.fType : Nat) : Int) ≤ left - ((x.fTrait.size : Nat) : Int)
  ·rw [szr_le g1]
   go_wp2_with fail
   refine (szMethodEntryS_c x.fEntries _ K (fun b hb => Nat.lt_of_lt_of_le (hK b hb) hb1.size) _ (Rep.ext hb1 hK hEntries) _ (by omega) (by omega)).mono ?_
   rintro e w2 ⟨rfl, hB2⟩
   have hx2 : Below (w.heap.size + 1) (w.alloc (.cells #[.string x.fTrait, c1, c2, c3, c4] 161)) w2 := hx1.trans (hB2.mono (by have := hx1.size; simp at this ⊢ <;> omega))
   have hb2 : Below w.heap.size w w2 := hW.trans (hx2.mono (Nat.le_succ _))
   have hc2 := (bcell hx2).1
   by_cases g2 : ((szs TMethodEntry.sz x.fEntries : Nat) : Int) ≤ left - ((x.fTrait.size : Nat) : Int) - ((TType.sz x.fType : Nat) : Int)
   ·rw [szr_le g2]
    go_wp2
    go_ret
    exact ⟨ret_int (by rw [TMethodTable.sz_eq]; unfold szr; (repeat' split) <;> omega), hb2⟩
   ·rw [szr_gt g2]
    go_wp2
    go_ret
    exact ⟨ret_int (by rw [TMethodTable.sz_eq]; unfold szr; (repeat' split) <;> omega), hb2⟩
  ·rw [szr_gt g1]
   go_wp2
   go_ret
   exact ⟨ret_int (by rw [TMethodTable.sz_eq]; unfold szr; (repeat' split) <;> omega), hb1⟩
 ·go_wp2
  go_ret
  exact ⟨ret_int (by rw [TMethodTable.sz_eq]; unfold szr; (repeat' split) <;> omega), hW⟩
theorem infoS161 : (Tryz.prog.info? 161).map (·.size) = some 5 := by kernel_rfl
set_option maxRecDepth 100000 in
set_option maxHeartbeats 1000000 in
theorem szMethodTableS_c (l : List TMethodTable) : ∀ (w : World) (K : Nat → Prop) (_ : ∀ b, K b → b < w.heap.size) (v : Value) (_ : Rep w K (.sl (l.map TMethodTable.enc)) [v]) (left : Int) (_ : 0 ≤ left) (_ : left ≤ 1048576),
  Calls Tryz.prog 34 #[v, .int .i64 left] w fun e w' => e = .returned (.int .i64 (szr (szs TMethodTable.sz l) left)) ∧ Below w.heap.size w w' := by
 intro w K hK v h left h0 h1
 obtain ⟨a, cap, rfl, hc, hm, -, hE⟩ := open_sl TMethodTable.width h
 unfold maxLen at hm
 clear h
 by_cases h2 : (l.length : Int) ≤ left
 ·have Hg : Hid (szr (szL TMethodTable.sz (l.drop 0)) (left - l.length) = szr (szs TMethodTable.sz l) left) := by
   simp only [Hid, szr, szs, List.drop_zero]; (repeat' split) <;> omega
  go_enter Tryz.func34, Tryz.ntmps34
  go_wp2
  go_loopw [1, 5] (fun t i wr => ∃ (k : Nat) (lf : Int), k ≤ l.length ∧ 0 ≤ lf ∧ lf ≤ 1048576 ∧ i = .int .i64 k ∧ t = .int .i64 lf ∧ Hid (szr (szL TMethodTable.sz (l.drop k)) lf = szr (szs TMethodTable.sz l) left) ∧ Below w.heap.size w wr) (fun _ i _ => l.length - (intOf i).toNat)
  case atStart => exact ⟨0, _, Nat.zero_le _, by omega, by omega, rfl, rfl, Hg, Below.refl _ _⟩
  case round =>
   clear Hg
   obtain ⟨k, lf, hk, hl0, hl1, rfl, rfl, Hs, hB⟩ := hrel
   by_cases hlt : k < l.length
   ·obtain ⟨b, off, rfl, hKb, cs, hcs, hr⟩ := hE k hlt
    have hr' := Rep.ext hB hK hr
    have hcs' := hcs.ext hB (hK b hKb)
    have hK' : ∀ b, K b → b < wr.heap.size := fun b h => Nat.lt_of_lt_of_le (hK b h) hB.size
    have Hd : Hid (l.drop k = l[k] :: l.drop (k + 1)) := List.drop_eq_getElem_cons hlt
    clear hE hcs hr
    have hi : (Tryz.prog.info? 161).map (·.size) = some cs.length := by rw [Rep.length _ _ hr', TMethodTable.width]; exact infoS161
    have hmem : l[k] ∈ l := List.getElem_mem hlt
    generalize l[k] = x at *
    go_wp2_with (with_reducible refine ld rfl 161 _ rfl b _ rfl cs hcs' _ Tryz.underlying161 hi ?_)
    refine (szMethodTable_c x _ K hK' _ hr' lf hl0 hl1).mono ?_
    rintro e w1 ⟨rfl, hB1⟩
    have hB2 := hB.trans (hB1.mono hB.size)
    by_cases h3 : (x.sz : Int) ≤ lf
    ·rw [szr_le h3]
     go_wp2
     go_roundw
     case rel =>
      refine ⟨k + 1, lf - (x.sz : Int), hlt, by omega, by omega, by go_num, rfl, ?_, hB2⟩
      have e := Hs.out
      rw [Hd.out] at e
      unfold Hid
      rw [← e]
      simp only [szr, szL]
      (repeat' split) <;> omega
     case measure => simp [intOf]; omega
    ·rw [szr_gt h3]
     have e := Hs.out
     rw [Hd.out] at e
     have hf : szr (szs TMethodTable.sz l) left = -1 := by
      rw [← e]; simp only [szr, szL]; (repeat' split) <;> omega
     have Hf := Lib.hid hf
     clear hf e
     go_wp2
     go_ret
     exact ⟨by rw [Hf.out]; rfl, hB2⟩
   ·obtain rfl : k = l.length := by omega
    go_wp2
    go_ret
    refine ⟨?_, hB⟩
    rw [← Hs.out]
    simp [szr, szL, hl0]
 ·have Hf : Hid (szr (szs TMethodTable.sz l) left = -1) := by
   simp only [Hid, szr, szs]; (repeat' split) <;> omega
  go_enter Tryz.func34, Tryz.ntmps34
  go_wp2
  go_ret
  exact ⟨by rw [Hf.out]; rfl, Below.refl _ _⟩
set_option maxRecDepth 100000 in
set_option maxHeartbeats 1000000 in
theorem szSpecialization_c (x : TSpecialization) : ∀ (w : World) (K : Nat → Prop) (_ : ∀ b, K b → b < w.heap.size) (cs : List Value) (_ : Rep w K x.enc cs) (left : Int) (_ : 0 ≤ left) (_ : left ≤ 1048576),
  Calls Tryz.prog 88 #[.agg cs.toArray, .int .i64 left] w fun e w' => e = .returned (.int .i64 (szr x.sz left)) ∧ Below w.heap.size w w' := by
 intro w K hK cs h left h0 h1
 obtain ⟨c1, c2, c3, c4, c5, c6, c7, c8, c9, c10, c11, c12, c13, rfl, hUnit, hTypeArgs, hParams, hBody⟩ := TSpecialization.opn h
 clear h
 clear hUnit
 have hW : Below w.heap.size w (w.alloc (.cells #[.int .i64 x.fUnit, c1, c2, c3, c4, c5, c6, c7, c8, c9, c10, c11, c12, c13] 157)) := (Below.refl _ _).alloc (Nat.le_refl _) _
 have hx : Below (w.heap.size + 1) (w.alloc (.cells #[.int .i64 x.fUnit, c1, c2, c3, c4, c5, c6, c7, c8, c9, c10, c11, c12, c13] 157)) (w.alloc (.cells #[.int .i64 x.fUnit, c1, c2, c3, c4, c5, c6, c7, c8, c9, c10, c11, c12, c13] 157)) := Below.refl _ _
 go_enter Tryz.func88, Tryz.ntmps88
 go_wp2_with fail
 refine (szTypeS_c x.fTypeArgs _ K (fun b hb => Nat.lt_of_lt_of_le (hK b hb) hW.size) _ (Rep.ext hW hK hTypeArgs) _ (by omega) (by omega)).mono ?_
 rintro e w0 ⟨rfl, hB0⟩
 have hx0 : Below (w.heap.size + 1) (w.alloc (.cells #[.int .i64 x.fUnit, c1, c2, c3, c4, c5, c6, c7, c8, c9, c10, c11, c12, c13] 157)) w0 := hx.trans (hB0.mono (by have := hx.size; simp at this ⊢ <;> omega))
 have hb0 : Below w.heap.size w w0 := hW.trans (hx0.mono (Nat.le_succ _))
 have hc0 := (bcell hx0).1
 by_cases g0 : ((szs TType.sz x.fTypeArgs : Nat) : Int) ≤ left
 ·rw [szr_le g0]
  go_wp2_with fail
  refine (szStringS_c x.fParams _ K (fun b hb => Nat.lt_of_lt_of_le (hK b hb) hb0.size) _ (Rep.ext hb0 hK hParams) _ (by omega) (by omega)).mono ?_
  rintro e w1 ⟨rfl, hB1⟩
  have hx1 : Below (w.heap.size + 1) (w.alloc (.cells #[.int .i64 x.fUnit, c1, c2, c3, c4, c5, c6, c7, c8, c9, c10, c11, c12, c13] 157)) w1 := hx0.trans (hB1.mono (by have := hx0.size; simp at this ⊢ <;> omega))
  have hb1 : Below w.heap.size w w1 := hW.trans (hx1.mono (Nat.le_succ _))
  have hc1 := (bcell hx1).1
  by_cases g1 : ((szs ByteArray.size x.fParams : Nat) : Int) ≤ left - ((szs TType.sz x.fTypeArgs : Nat) : Int)
  ·rw [szr_le g1]
   go_wp2_with fail
   refine (szCore_c x.fBody _ K (fun b hb => Nat.lt_of_lt_of_le (hK b hb) hb1.size) _ (Rep.ext hb1 hK hBody) _ (by omega) (by omega)).mono ?_
   rintro e w2 ⟨rfl, hB2⟩
   have hx2 : Below (w.heap.size + 1) (w.alloc (.cells #[.int .i64 x.fUnit, c1, c2, c3, c4, c5, c6, c7, c8, c9, c10, c11, c12, c13] 157)) w2 := hx1.trans (hB2.mono (by have := hx1.size; simp at this ⊢ <;> omega))
   have hb2 : Below w.heap.size w w2 := hW.trans (hx2.mono (Nat.le_succ _))
   have hc2 := (bcell hx2).1
   by_cases g2 : ((TCore.sz x.fBody : Nat) : Int) ≤ left - ((szs TType.sz x.fTypeArgs : Nat) : Int) - ((szs ByteArray.size x.fParams : Nat) : Int)
   ·rw [szr_le g2]
    go_wp2
    go_ret
    exact ⟨ret_int (by rw [TSpecialization.sz_eq]; unfold szr; (repeat' split) <;> omega), hb2⟩
   ·rw [szr_gt g2]
    go_wp2
    go_ret
    exact ⟨ret_int (by rw [TSpecialization.sz_eq]; unfold szr; (repeat' split) <;> omega), hb2⟩
  ·rw [szr_gt g1]
   go_wp2
   go_ret
   exact ⟨ret_int (by rw [TSpecialization.sz_eq]; unfold szr; (repeat' split) <;> omega), hb1⟩
 ·rw [szr_gt g0]
  go_wp2
  go_ret
  exact ⟨ret_int (by rw [TSpecialization.sz_eq]; unfold szr; (repeat' split) <;> omega), hb0⟩
theorem infoS157 : (Tryz.prog.info? 157).map (·.size) = some 14 := by kernel_rfl
set_option maxRecDepth 100000 in
set_option maxHeartbeats 1000000 in
theorem szSpecializationS_c (l : List TSpecialization) : ∀ (w : World) (K : Nat → Prop) (_ : ∀ b, K b → b < w.heap.size) (v : Value) (_ : Rep w K (.sl (l.map TSpecialization.enc)) [v]) (left : Int) (_ : 0 ≤ left) (_ : left ≤ 1048576),
  Calls Tryz.prog 33 #[v, .int .i64 left] w fun e w' => e = .returned (.int .i64 (szr (szs TSpecialization.sz l) left)) ∧ Below w.heap.size w w' := by
 intro w K hK v h left h0 h1
 obtain ⟨a, cap, rfl, hc, hm, -, hE⟩ := open_sl TSpecialization.width h
 unfold maxLen at hm
 clear h
 by_cases h2 : (l.length : Int) ≤ left
 ·have Hg : Hid (szr (szL TSpecialization.sz (l.drop 0)) (left - l.length) = szr (szs TSpecialization.sz l) left) := by
   simp only [Hid, szr, szs, List.drop_zero]; (repeat' split) <;> omega
  go_enter Tryz.func33, Tryz.ntmps33
  go_wp2
  go_loopw [1, 5] (fun t i wr => ∃ (k : Nat) (lf : Int), k ≤ l.length ∧ 0 ≤ lf ∧ lf ≤ 1048576 ∧ i = .int .i64 k ∧ t = .int .i64 lf ∧ Hid (szr (szL TSpecialization.sz (l.drop k)) lf = szr (szs TSpecialization.sz l) left) ∧ Below w.heap.size w wr) (fun _ i _ => l.length - (intOf i).toNat)
  case atStart => exact ⟨0, _, Nat.zero_le _, by omega, by omega, rfl, rfl, Hg, Below.refl _ _⟩
  case round =>
   clear Hg
   obtain ⟨k, lf, hk, hl0, hl1, rfl, rfl, Hs, hB⟩ := hrel
   by_cases hlt : k < l.length
   ·obtain ⟨b, off, rfl, hKb, cs, hcs, hr⟩ := hE k hlt
    have hr' := Rep.ext hB hK hr
    have hcs' := hcs.ext hB (hK b hKb)
    have hK' : ∀ b, K b → b < wr.heap.size := fun b h => Nat.lt_of_lt_of_le (hK b h) hB.size
    have Hd : Hid (l.drop k = l[k] :: l.drop (k + 1)) := List.drop_eq_getElem_cons hlt
    clear hE hcs hr
    have hi : (Tryz.prog.info? 157).map (·.size) = some cs.length := by rw [Rep.length _ _ hr', TSpecialization.width]; exact infoS157
    have hmem : l[k] ∈ l := List.getElem_mem hlt
    generalize l[k] = x at *
    go_wp2_with (with_reducible refine ld rfl 157 _ rfl b _ rfl cs hcs' _ Tryz.underlying157 hi ?_)
    refine (szSpecialization_c x _ K hK' _ hr' lf hl0 hl1).mono ?_
    rintro e w1 ⟨rfl, hB1⟩
    have hB2 := hB.trans (hB1.mono hB.size)
    by_cases h3 : (x.sz : Int) ≤ lf
    ·rw [szr_le h3]
     go_wp2
     go_roundw
     case rel =>
      refine ⟨k + 1, lf - (x.sz : Int), hlt, by omega, by omega, by go_num, rfl, ?_, hB2⟩
      have e := Hs.out
      rw [Hd.out] at e
      unfold Hid
      rw [← e]
      simp only [szr, szL]
      (repeat' split) <;> omega
     case measure => simp [intOf]; omega
    ·rw [szr_gt h3]
     have e := Hs.out
     rw [Hd.out] at e
     have hf : szr (szs TSpecialization.sz l) left = -1 := by
      rw [← e]; simp only [szr, szL]; (repeat' split) <;> omega
     have Hf := Lib.hid hf
     clear hf e
     go_wp2
     go_ret
     exact ⟨by rw [Hf.out]; rfl, hB2⟩
   ·obtain rfl : k = l.length := by omega
    go_wp2
    go_ret
    refine ⟨?_, hB⟩
    rw [← Hs.out]
    simp [szr, szL, hl0]
 ·have Hf : Hid (szr (szs TSpecialization.sz l) left = -1) := by
   simp only [Hid, szr, szs]; (repeat' split) <;> omega
  go_enter Tryz.func33, Tryz.ntmps33
  go_wp2
  go_ret
  exact ⟨by rw [Hf.out]; rfl, Below.refl _ _⟩
set_option maxRecDepth 100000 in
set_option maxHeartbeats 1000000 in
theorem szMonoProgram_c (x : TMonoProgram) : ∀ (w : World) (K : Nat → Prop) (_ : ∀ b, K b → b < w.heap.size) (cs : List Value) (_ : Rep w K x.enc cs) (left : Int) (_ : 0 ≤ left) (_ : left ≤ 1048576),
  Calls Tryz.prog 6 #[.agg cs.toArray, .int .i64 left] w fun e w' => e = .returned (.int .i64 (szr x.sz left)) ∧ Below w.heap.size w w' := by
 intro w K hK cs h left h0 h1
 obtain ⟨c0, c1, rfl, hSpecializations, hTables⟩ := TMonoProgram.opn h
 clear h
 have hW : Below w.heap.size w (w.alloc (.cells #[c0, c1] 25)) := (Below.refl _ _).alloc (Nat.le_refl _) _
 have hx : Below (w.heap.size + 1) (w.alloc (.cells #[c0, c1] 25)) (w.alloc (.cells #[c0, c1] 25)) := Below.refl _ _
 go_enter Tryz.func6, Tryz.ntmps6
 go_wp2_with fail
 refine (szSpecializationS_c x.fSpecializations _ K (fun b hb => Nat.lt_of_lt_of_le (hK b hb) hW.size) _ (Rep.ext hW hK hSpecializations) _ (by omega) (by omega)).mono ?_
 rintro e w0 ⟨rfl, hB0⟩
 have hx0 : Below (w.heap.size + 1) (w.alloc (.cells #[c0, c1] 25)) w0 := hx.trans (hB0.mono (by have := hx.size; simp at this ⊢ <;> omega))
 have hb0 : Below w.heap.size w w0 := hW.trans (hx0.mono (Nat.le_succ _))
 have hc0 := (bcell hx0).1
 by_cases g0 : ((szs TSpecialization.sz x.fSpecializations : Nat) : Int) ≤ left
 ·rw [szr_le g0]
  go_wp2_with fail
  refine (szMethodTableS_c x.fTables _ K (fun b hb => Nat.lt_of_lt_of_le (hK b hb) hb0.size) _ (Rep.ext hb0 hK hTables) _ (by omega) (by omega)).mono ?_
  rintro e w1 ⟨rfl, hB1⟩
  have hx1 : Below (w.heap.size + 1) (w.alloc (.cells #[c0, c1] 25)) w1 := hx0.trans (hB1.mono (by have := hx0.size; simp at this ⊢ <;> omega))
  have hb1 : Below w.heap.size w w1 := hW.trans (hx1.mono (Nat.le_succ _))
  have hc1 := (bcell hx1).1
  by_cases g1 : ((szs TMethodTable.sz x.fTables : Nat) : Int) ≤ left - ((szs TSpecialization.sz x.fSpecializations : Nat) : Int)
  ·rw [szr_le g1]
   go_wp2
   go_ret
   exact ⟨ret_int (by rw [TMonoProgram.sz_eq]; unfold szr; (repeat' split) <;> omega), hb1⟩
  ·rw [szr_gt g1]
   go_wp2
   go_ret
   exact ⟨ret_int (by rw [TMonoProgram.sz_eq]; unfold szr; (repeat' split) <;> omega), hb1⟩
 ·rw [szr_gt g0]
  go_wp2
  go_ret
  exact ⟨ret_int (by rw [TMonoProgram.sz_eq]; unfold szr; (repeat' split) <;> omega), hb0⟩
end Go.Proofs.YtkmiecgcibjkbaaGreat
