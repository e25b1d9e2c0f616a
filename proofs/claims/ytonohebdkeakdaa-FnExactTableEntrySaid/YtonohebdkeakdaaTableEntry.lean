/- The two functions TableEntry, each walked once. No condition. -/
import Derived.Test.YtonohebdkeakdaaSz
import Derived.Test.YtonohebdkeakdaaEq
import Derived.Test.YtonohebdkeakdaaTo
import Derived.Test.YtonohebdkeakdaaReg
namespace Go.Proofs.Ytonohebdkeakdaa
open Go.RowKit
theorem infoM121 : (Try.prog.info? 121).map (·.size) = some 3 := by kernel_rfl
/-- the first row of that trait and name -/
def tabFind (tr nm : ByteArray) : List TMethodEntry → Int
  | [] => -1
  | e :: l => if e.fTrait = tr ∧ e.fName = nm then e.fSpecialization else tabFind tr nm l
def tabEnt (ts : List TMethodTable) (n : Int) (tr nm : ByteArray) : Int :=
  if h : 0 ≤ n ∧ n.toNat < ts.length then tabFind tr nm (ts[n.toNat]'h.2).fEntries else -1
theorem tabEnt_in {ts : List TMethodTable} {k : Nat} (h : k < ts.length) (tr nm : ByteArray) : tabEnt ts (k : Int) tr nm = tabFind tr nm ts[k].fEntries := by
  unfold tabEnt
  rw [dif_pos ⟨by omega, by simpa using h⟩]
  rfl
theorem tabEnt_out {ts : List TMethodTable} {n : Int} (h : n < 0 ∨ (ts.length : Int) ≤ n) (tr nm : ByteArray) : tabEnt ts n tr nm = -1 := by
  unfold tabEnt
  rw [dif_neg (by omega)]
set_option maxHeartbeats 1000000 in
theorem specl1In_c (x lo hi : Int) (w : World) :
    Calls Try.prog 60 #[.int .i64 x, .int .i64 lo, .int .i64 hi] w fun e w' => e = .returned (.bool (decide (lo ≤ x ∧ x ≤ hi))) ∧ w' = w := by
  by_cases h1 : lo ≤ x
  · by_cases h2 : x ≤ hi
    · go_enter Try.func60, Try.ntmps60
      go_wp2
      go_ret
      exact ⟨ret_bool (by simp [h1, h2]), rfl⟩
    · go_enter Try.func60, Try.ntmps60
      go_wp2
      go_ret
      exact ⟨ret_bool (by simp [h2]), rfl⟩
  · go_enter Try.func60, Try.ntmps60
    go_wp2
    go_ret
    exact ⟨ret_bool (by simp; omega), rfl⟩
set_option maxRecDepth 100000 in
set_option maxHeartbeats 1000000 in
theorem specTableEntry_c (x : TMonoProgram) (n : Int) (tr nm : ByteArray) : ∀ (w : World) (K : Nat → Prop) (_ : ∀ b, K b → b < w.heap.size) (cs : List Value) (_ : Rep w K x.enc cs) (_ : InR n),
    Calls Try.prog 20 #[.agg cs.toArray, .int .i64 n, .string tr, .string nm] w fun e w' => e = .returned (.int .i64 (tabEnt x.fTables n tr nm)) ∧ Below w.heap.size w w' := by
  intro w K hK cs h hn
  obtain ⟨c0, c1, rfl, -, hT⟩ := TMonoProgram.opn h
  clear h
  obtain ⟨a, cap, rfl, hc, hm, -, hE⟩ := open_sl TMethodTable.width hT
  unfold maxLen at hm
  clear hT
  have hn1 := hn.lo
  have hn2 := hn.hi
  have hB0 : Below w.heap.size w (w.alloc (.cells #[c0, .slice a x.fTables.length cap] 53)) := (Below.refl _ _).alloc (Nat.le_refl _) _
  by_cases hin : 0 ≤ n ∧ n < x.fTables.length
  · obtain ⟨k, rfl⟩ := Int.eq_ofNat_of_zero_le hin.1
    have hk : k < x.fTables.length := by omega
    obtain ⟨b, off, rfl, hKb, cs, hcs, hr⟩ := hE k hk
    rw [tabEnt_in hk]
    generalize x.fTables[k] = t at *
    obtain ⟨t1, t2, t3, t4, rfl, -, -, hR⟩ := TMethodTable.opn hr
    obtain ⟨a', cap', rfl, hc', hm', -, hE'⟩ := open_sl TMethodEntry.width hR
    unfold maxLen at hm'
    clear hE hr hR
    have hd : decide ((0 : Int) ≤ (k : Int) ∧ (k : Int) ≤ (x.fTables.length : Int) - 1) = true := by simp; omega
    have hl0 : b < w.heap.size := hK b hKb
    have g4 : w.cell? ⟨b, off + k * 5 + 4, none⟩ = some (.slice a' t.fEntries.length cap') := hcs 4 _ rfl
    clear hcs
    go_enter Try.func20, Try.ntmps20
    go_wp2_with fail
    refine (specl1In_c _ _ _ _).mono ?_
    rintro e w1 ⟨rfl, rfl⟩
    rw [hd]
    go_wp2
    have Hg : Hid (tabFind tr nm (t.fEntries.drop 0) = tabFind tr nm t.fEntries) := rfl
    go_loopw [10] (fun i wr => ∃ (n : Nat), n ≤ t.fEntries.length ∧ i = .int .i64 n ∧ Hid (tabFind tr nm (t.fEntries.drop n) = tabFind tr nm t.fEntries) ∧ Below w.heap.size w wr) (fun i _ => t.fEntries.length - (intOf i).toNat)
    case atStart => exact ⟨0, Nat.zero_le _, rfl, Hg, hB0⟩
    case round =>
      clear Hg g4
      obtain ⟨n, hn, rfl, Hs, hB⟩ := hrel
      by_cases hlt : n < t.fEntries.length
      · obtain ⟨b2, off2, rfl, hKb2, cs2, hcs2, hr2⟩ := hE' n hlt
        have gcs := hcs2.ext hB (hK b2 hKb2)
        have Hd : Hid (t.fEntries.drop n = t.fEntries[n] :: t.fEntries.drop (n + 1)) := List.drop_eq_getElem_cons hlt
        clear hE' hcs2
        generalize t.fEntries[n] = u at *
        obtain ⟨rfl, -⟩ := TMethodEntry.opn hr2
        clear hr2
        have f0 : wr.cell? ⟨b2, off2 + n * 3, none⟩ = some (.string u.fTrait) := by simpa using gcs 0 _ rfl
        have f1 : wr.cell? ⟨b2, off2 + n * 3 + 1, none⟩ = some (.string u.fName) := gcs 1 _ rfl
        have f2 : wr.cell? ⟨b2, off2 + n * 3 + 2, none⟩ = some (.int .i64 u.fSpecialization) := gcs 2 _ rfl
        clear gcs
        by_cases e1 : u.fTrait = tr
        · have q1 : (u.fTrait.toList == tr.toList) = true := by simp [e1]
          by_cases e2 : u.fName = nm
          · have q2 : (u.fName.toList == nm.toList) = true := by simp [e2]
            have e := Hs.out
            rw [Hd.out, tabFind, if_pos ⟨e1, e2⟩] at e
            have Hf := Lib.hid e
            clear e e1 e2
            go_wp2
            go_ret
            exact ⟨ret_int Hf.out, hB⟩
          · have q2 : (u.fName.toList == nm.toList) = false := by simpa using fun q => e2 (ba_ext q)
            have e := Hs.out
            rw [Hd.out, tabFind, if_neg (fun q => e2 q.2)] at e
            have Hf := Lib.hid e
            clear e e1 e2
            go_wp2
            go_roundw
            case rel => exact ⟨n + 1, hlt, by go_num, Hf, hB⟩
            case measure => simp [intOf]; omega
        · have q1 : (u.fTrait.toList == tr.toList) = false := by simpa using fun q => e1 (ba_ext q)
          have e := Hs.out
          rw [Hd.out, tabFind, if_neg (fun q => e1 q.1)] at e
          have Hf := Lib.hid e
          clear e e1
          go_wp2
          go_roundw
          case rel => exact ⟨n + 1, hlt, by go_num, Hf, hB⟩
          case measure => simp [intOf]; omega
      · obtain rfl : n = t.fEntries.length := by omega
        go_wp2
        go_ret
        refine ⟨ret_int ?_, hB⟩
        rw [← Hs.out, List.drop_length]
        rfl
  · have hd : decide ((0 : Int) ≤ n ∧ n ≤ (x.fTables.length : Int) - 1) = false := by simp; omega
    go_enter Try.func20, Try.ntmps20
    go_wp2_with fail
    refine (specl1In_c _ _ _ _).mono ?_
    rintro e w1 ⟨rfl, rfl⟩
    rw [hd]
    go_wp2
    go_ret
    exact ⟨ret_int (tabEnt_out (by omega) _ _).symm, hB0⟩
set_option maxRecDepth 100000 in
set_option maxHeartbeats 1000000 in
theorem impltableEntry_c (l : List TMethodTable) (n : Int) (tr nm : ByteArray) : ∀ (w : World) (K : Nat → Prop) (_ : ∀ b, K b → b < w.heap.size) (v : Value) (_ : Rep w K (.sl (l.map TMethodTable.enc)) [v]) (_ : InR n),
    Calls Try.prog 63 #[v, .int .i64 n, .string tr, .string nm] w fun e w' => e = .returned (.int .i64 (tabEnt l n tr nm)) ∧ Below w.heap.size w w' := by
  intro w K hK v hT hn
  obtain ⟨a, cap, rfl, hc, hm, -, hE⟩ := open_sl TMethodTable.width hT
  unfold maxLen at hm
  clear hT
  have hn1 := hn.lo
  have hn2 := hn.hi
  by_cases hin : 0 ≤ n ∧ n < l.length
  · obtain ⟨k, rfl⟩ := Int.eq_ofNat_of_zero_le hin.1
    have hk : k < l.length := by omega
    obtain ⟨b, off, rfl, hKb, cs, hcs, hr⟩ := hE k hk
    rw [tabEnt_in hk]
    generalize l[k] = t at *
    obtain ⟨t1, t2, t3, t4, rfl, -, -, hR⟩ := TMethodTable.opn hr
    obtain ⟨a', cap', rfl, hc', hm', -, hE'⟩ := open_sl TMethodEntry.width hR
    unfold maxLen at hm'
    clear hE hr hR
    have g4 : w.cell? ⟨b, off + k * 5 + 4, none⟩ = some (.slice a' t.fEntries.length cap') := hcs 4 _ rfl
    clear hcs
    have d1 : ¬ ((k : Int) < 0) := by omega
    have d2 : ¬ (l.length ≤ k) := by omega
    have d3 : ¬ ((l.length : Int) ≤ (k : Int)) := by omega
    go_enter Try.func63, Try.ntmps63
    go_wp2
    have Hg : Hid (tabFind tr nm (t.fEntries.drop 0) = tabFind tr nm t.fEntries) := rfl
    go_loopw [25] (fun i wr => ∃ (n : Nat), n ≤ t.fEntries.length ∧ i = .int .i64 n ∧ Hid (tabFind tr nm (t.fEntries.drop n) = tabFind tr nm t.fEntries) ∧ Below w.heap.size w wr) (fun i _ => t.fEntries.length - (intOf i).toNat)
    case atStart => exact ⟨0, Nat.zero_le _, rfl, Hg, Below.refl _ _⟩
    case round =>
      clear Hg g4
      obtain ⟨n, hn, rfl, Hs, hB⟩ := hrel
      by_cases hlt : n < t.fEntries.length
      · obtain ⟨b2, off2, rfl, hKb2, cs2, hcs2, hr2⟩ := hE' n hlt
        have gcs := hcs2.ext hB (hK b2 hKb2)
        have Hd : Hid (t.fEntries.drop n = t.fEntries[n] :: t.fEntries.drop (n + 1)) := List.drop_eq_getElem_cons hlt
        clear hE' hcs2
        generalize t.fEntries[n] = u at *
        obtain ⟨rfl, -⟩ := TMethodEntry.opn hr2
        clear hr2
        have hi : (Try.prog.info? 121).map (·.size) = some [Value.string u.fTrait, .string u.fName, .int .i64 u.fSpecialization].length := infoM121
        have hB2 := hB.alloc hB.size (.cells #[.string u.fTrait, .string u.fName, .int .i64 u.fSpecialization] 121)
        by_cases e1 : u.fTrait = tr
        · have q1 : (u.fTrait.toList == tr.toList) = true := by simp [e1]
          by_cases e2 : u.fName = nm
          · have q2 : (u.fName.toList == nm.toList) = true := by simp [e2]
            have e := Hs.out
            rw [Hd.out, tabFind, if_pos ⟨e1, e2⟩] at e
            have Hf := Lib.hid e
            clear e e1 e2
            go_wp2_with (with_reducible refine ld rfl 121 _ rfl b2 _ rfl _ gcs _ Try.underlying121 hi ?_)
            go_ret
            exact ⟨ret_int Hf.out, hB2⟩
          · have q2 : (u.fName.toList == nm.toList) = false := by simpa using fun q => e2 (ba_ext q)
            have e := Hs.out
            rw [Hd.out, tabFind, if_neg (fun q => e2 q.2)] at e
            have Hf := Lib.hid e
            clear e e1 e2
            go_wp2_with (with_reducible refine ld rfl 121 _ rfl b2 _ rfl _ gcs _ Try.underlying121 hi ?_)
            go_roundw
            case rel => exact ⟨n + 1, hlt, by go_num, Hf, hB2⟩
            case measure => simp [intOf]; omega
        · have q1 : (u.fTrait.toList == tr.toList) = false := by simpa using fun q => e1 (ba_ext q)
          have e := Hs.out
          rw [Hd.out, tabFind, if_neg (fun q => e1 q.1)] at e
          have Hf := Lib.hid e
          clear e e1
          go_wp2_with (with_reducible refine ld rfl 121 _ rfl b2 _ rfl _ gcs _ Try.underlying121 hi ?_)
          go_roundw
          case rel => exact ⟨n + 1, hlt, by go_num, Hf, hB2⟩
          case measure => simp [intOf]; omega
      · obtain rfl : n = t.fEntries.length := by omega
        go_wp2
        go_ret
        refine ⟨ret_int ?_, hB⟩
        rw [← Hs.out, List.drop_length]
        rfl
  · rcases (show n < 0 ∨ (l.length : Int) ≤ n by omega) with h0 | h0
    · go_enter Try.func63, Try.ntmps63
      go_wp2
      go_ret
      exact ⟨ret_int (tabEnt_out (by omega) _ _).symm, Below.refl _ _⟩
    · go_enter Try.func63, Try.ntmps63
      go_wp2
      go_ret
      exact ⟨ret_int (tabEnt_out (by omega) _ _).symm, Below.refl _ _⟩
set_option maxRecDepth 100000 in
set_option maxHeartbeats 1000000 in
theorem implTableEntry_c (x : TMonoProgram) (n : Int) (tr nm : ByteArray) : ∀ (w : World) (K : Nat → Prop) (_ : ∀ b, K b → b < w.heap.size) (cs : List Value) (_ : Rep w K x.enc cs) (_ : InR n),
    Calls Try.prog 22 #[.agg cs.toArray, .int .i64 n, .string tr, .string nm] w fun e w' => e = .returned (.int .i64 (tabEnt x.fTables n tr nm)) ∧ Below w.heap.size w w' := by
  intro w K hK cs h hn
  obtain ⟨c0, c1, rfl, -, hT⟩ := TMonoProgram.opn h
  clear h
  have hB0 : Below w.heap.size w (w.alloc (.cells #[c0, c1] 53)) := (Below.refl _ _).alloc (Nat.le_refl _) _
  go_enter Try.func22, Try.ntmps22
  go_wp2_with fail
  refine (impltableEntry_c x.fTables n tr nm _ K (fun b hb => Nat.lt_of_lt_of_le (hK b hb) hB0.size) _ (Rep.ext hB0 hK hT) hn).mono ?_
  rintro e w1 ⟨rfl, hB1⟩
  go_wp2
  go_ret
  exact ⟨rfl, hB0.trans (hB1.mono hB0.size)⟩
end Go.Proofs.Ytonohebdkeakdaa
