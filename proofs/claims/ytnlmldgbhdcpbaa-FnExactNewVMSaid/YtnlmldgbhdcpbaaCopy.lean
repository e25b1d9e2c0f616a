/- Functions that copy a value into memory of their own, each walked once. Condition: the value's size is at most 1048576. -/
import Derived.Test.YtnlmldgbhdcpbaaGrow
import Derived.Test.YtnlmldgbhdcpbaaTo
namespace Go.Proofs.Ytnlmldgbhdcpbaa
open Go.RowKit
theorem TInstanceRef.flatD (x : TInstanceRef) : flatD x.enc = true := by
  rw [TInstanceRef.enc_eq]
  rfl
theorem zinfoC3 : (Try.prog.info? 3).map (fun i => (i.zero, i.size, i.bytes)) = some (some (.int .i64 0), 1, 8) := by kernel_rfl
theorem zsizeC3 : (.int .i64 0 : Value).cells.size = 1 := rfl
theorem infoC88 : (Try.prog.info? 88).map (·.size) = some 1 := by kernel_rfl
theorem zinfoC91 : (Try.prog.info? 91).map (fun i => (i.zero, i.size, i.bytes)) = some (some (.agg #[.int .i64 0, .int .i64 0, .int .i64 0, .slice none 0 0, .slice none 0 0]), 5, 72) := by kernel_rfl
theorem zsizeC91 : (.agg #[.int .i64 0, .int .i64 0, .int .i64 0, .slice none 0 0, .slice none 0 0] : Value).cells.size = 5 := rfl
theorem infoC91 : (Try.prog.info? 91).map (·.size) = some 5 := by kernel_rfl
theorem infoC89 : (Try.prog.info? 89).map (·.size) = some 1 := by kernel_rfl
theorem zinfoC93 : (Try.prog.info? 93).map (fun i => (i.zero, i.size, i.bytes)) = some (some (.agg #[.int .i64 0, .int .i64 0, .string ⟨#[]⟩, .int .i64 0, .int .i64 0, .int .i64 0, .slice none 0 0, .slice none 0 0, .slice none 0 0]), 9, 128) := by kernel_rfl
theorem zsizeC93 : (.agg #[.int .i64 0, .int .i64 0, .string ⟨#[]⟩, .int .i64 0, .int .i64 0, .int .i64 0, .slice none 0 0, .slice none 0 0, .slice none 0 0] : Value).cells.size = 9 := rfl
theorem infoC93 : (Try.prog.info? 93).map (·.size) = some 9 := by kernel_rfl
theorem infoC28 : (Try.prog.info? 28).map (·.size) = some 1 := by kernel_rfl
set_option maxRecDepth 100000 in
set_option maxHeartbeats 1000000 in
theorem slicesClone_int_int_c (l : List Int) : ∀ (_ : szs (fun _ => 0) l ≤ 1048576) (w : World) (K : Nat → Prop) (_ : ∀ b, K b → b < w.heap.size) (v : Value) (_ : Rep w K (.sl (l.map encI)) [v]),
    Calls Try.prog 196 #[v] w fun e w' => ∃ a cap bs, e = .returned (.slice a l.length cap) ∧ Own w' (.sl (l.map encI)) [.slice a l.length cap] bs ∧ bs.Nodup ∧ (∀ b ∈ bs, w.heap.size ≤ b ∧ b < w'.heap.size) ∧ Below w.heap.size w w' := by
  intro hz w K hK v h
  have hlen : l.length ≤ 1048576 := by unfold szs at hz; omega
  clear hz
  have hB0 : Below w.heap.size w (w.alloc (.cells #[] 3)) := (Below.refl _ _).alloc (Nat.le_refl _) _
  have G := Lib.hid (Gr.made (w := (w.alloc (.cells #[] 3))) (lo := w.heap.size) (e := 3) (size := 1) (g := w.heap.size) (alloc_at rfl) (Nat.le_refl _))
  obtain ⟨a0, cap0, rfl, hc, hm, hn, -⟩ := open_sl encI_w h
  cases a0 with
  | none =>
    have hc0 := hn rfl
    have hl0 : l.length = 0 := by omega
    have H0 := Lib.hid hl0
    subst hc0
    clear G hl0 hc hm
    have kn : ∀ W, (binOp .eql 88 (.slice none l.length 0) (.slice none 0 0)).run Try.prog W = .ok (.bool true) W := fun W => run_eql_slice_nil W 88 3 none _ _ Try.underlying88
    go_enter Try.func196, Try.ntmps196
    go_wp2
    go_ret
    exact ⟨none, 0, by rw [H0.out]; rfl, [], own_nil (List.length_eq_zero_iff.1 H0.out) (by simp [maxLen]) (by simp), List.nodup_nil, by simp, Below.refl _ _⟩
  | some ad =>
    have kn : ∀ W, (binOp .eql 88 (.slice (some ad) l.length cap0) (.slice none 0 0)).run Try.prog W = .ok (.bool false) W := fun W => run_eql_slice_nil W 88 3 (some ad) _ _ Try.underlying88
    go_enter Try.func196, Try.ntmps196
    go_wp2_with (with_reducible refine apf rfl _ _ 88 rfl (.int .i64 0) 8 Try.underlying88 zinfoC3 zsizeC3 (by decide) rfl G.out rfl (Rep.ext hB0 hK h) encI_w flatI (by unfold maxLen; simp; omega) (by simp; omega) (by simp) ?_)
    intro v' w' hG hB hk
    have H := Lib.hid hG
    clear hG hk
    go_wp2
    go_ret
    have hG := H.out
    (try simp only [List.nil_append] at hG)
    obtain ⟨a, cap, bs, rfl, o1, n1, r1⟩ := hG.ownT
    exact ⟨_, _, bs, rfl, o1, n1, r1, hB0.trans hB⟩
def CPspecl37Copy_c (N : Nat) : Prop := ∀ (x : TDictionary), SizeOf.sizeOf x < N → ∀ (_ : x.sz ≤ 1048576) (w : World) (K : Nat → Prop) (_ : ∀ b, K b → b < w.heap.size) (cs : List Value) (_ : Rep w K x.enc cs),
    Calls Try.prog 157 #[.agg cs.toArray] w fun e w' => ∃ cs' bs, e = .returned (.agg cs'.toArray) ∧ Own w' x.enc cs' bs ∧ bs.Nodup ∧ (∀ b ∈ bs, w.heap.size ≤ b ∧ b < w'.heap.size) ∧ Below w.heap.size w w'
set_option maxRecDepth 100000 in
set_option maxHeartbeats 1000000 in
theorem stepspecl37Copy_c (N : Nat) (ispecl37Copy_c : CPspecl37Copy_c N) : CPspecl37Copy_c (N + 1) := by
  intro x hN hz w K hK cs h
  obtain ⟨c1, c2, c3, c4, rfl, hKind, hAt, hSteps, hArgs⟩ := TDictionary.opn h
  clear h
  have HKind := Lib.hid hKind; clear hKind
  have Hz := Lib.hid hz; clear hz
  obtain ⟨aArgs, capArgs, rfl, hcArgs, hmArgs, -, hEArgs⟩ := open_sl TDictionary.width hArgs
  unfold maxLen at hmArgs
  have hV : Below w.heap.size w ((w.alloc (.cells #[.int .i64 x.fKind, c1, c2, c3, .slice aArgs x.fArgs.length capArgs] 91)).alloc (.cells #[.int .i64 0, .int .i64 0, .int .i64 0, .slice none 0 0, .slice none 0 0] 91)) := ((Below.refl _ _).alloc (Nat.le_refl _) _).alloc (by simp) _
  have hs : w.heap.size + 1 < ((w.alloc (.cells #[.int .i64 x.fKind, c1, c2, c3, .slice aArgs x.fArgs.length capArgs] 91)).alloc (.cells #[.int .i64 0, .int .i64 0, .int .i64 0, .slice none 0 0, .slice none 0 0] 91)).heap.size := by simp
  have HA := Lib.hid (show ((w.alloc (.cells #[.int .i64 x.fKind, c1, c2, c3, .slice aArgs x.fArgs.length capArgs] 91)).alloc (.cells #[.int .i64 0, .int .i64 0, .int .i64 0, .slice none 0 0, .slice none 0 0] 91)).heap[w.heap.size]? = some (.cells #[.int .i64 x.fKind, c1, c2, c3, .slice aArgs x.fArgs.length capArgs] 91 (0, 0)) from alloc_lt (by simp) (alloc_at rfl))
  have HR := Lib.hid (show ((w.alloc (.cells #[.int .i64 x.fKind, c1, c2, c3, .slice aArgs x.fArgs.length capArgs] 91)).alloc (.cells #[.int .i64 0, .int .i64 0, .int .i64 0, .slice none 0 0, .slice none 0 0] 91)).heap[w.heap.size + 1]? = some (.cells #[.int .i64 0, .int .i64 0, .int .i64 0, .slice none 0 0, .slice none 0 0] 91 (0, 0)) from alloc_at (by simp))
  go_enter Try.func157, Try.ntmps157
  have hlen1 : x.fSteps.length ≤ 1048576 := by have := Hz.out; rw [TDictionary.sz_eq] at this; unfold szs at this; omega
  have hBa : Below ((w.alloc (.cells #[.int .i64 x.fKind, c1, c2, c3, .slice aArgs x.fArgs.length capArgs] 91)).alloc (.cells #[.int .i64 0, .int .i64 0, .int .i64 0, .slice none 0 0, .slice none 0 0] 91)).heap.size ((w.alloc (.cells #[.int .i64 x.fKind, c1, c2, c3, .slice aArgs x.fArgs.length capArgs] 91)).alloc (.cells #[.int .i64 0, .int .i64 0, .int .i64 0, .slice none 0 0, .slice none 0 0] 91)) (((w.alloc (.cells #[.int .i64 x.fKind, c1, c2, c3, .slice aArgs x.fArgs.length capArgs] 91)).alloc (.cells #[.int .i64 0, .int .i64 0, .int .i64 0, .slice none 0 0, .slice none 0 0] 91)).alloc (.cells #[] 3)) := (Below.refl _ _).alloc (Nat.le_refl _) _
  replace HA := Lib.hid (row_below HA.out hBa (by (try simp); omega))
  replace HR := Lib.hid (row_below HR.out hBa hs)
  replace hs := Nat.lt_of_lt_of_le hs hBa.size
  replace hV := hV.trans (hBa.mono hV.size)
  clear hBa
  have hlo1 : w.heap.size ≤ w.heap.size + 1 + 1 := by omega
  have hlq1 : w.heap.size + 1 < w.heap.size + 1 + 1 := by omega
  have hle1 : w.heap.size + 1 + 1 ≤ (((w.alloc (.cells #[.int .i64 x.fKind, c1, c2, c3, .slice aArgs x.fArgs.length capArgs] 91)).alloc (.cells #[.int .i64 0, .int .i64 0, .int .i64 0, .slice none 0 0, .slice none 0 0] 91)).alloc (.cells #[] 3)).heap.size := by simp
  have G := Lib.hid (Gr.made (w := (((w.alloc (.cells #[.int .i64 x.fKind, c1, c2, c3, .slice aArgs x.fArgs.length capArgs] 91)).alloc (.cells #[.int .i64 0, .int .i64 0, .int .i64 0, .slice none 0 0, .slice none 0 0] 91)).alloc (.cells #[] 3))) (lo := w.heap.size + 1 + 1) (e := 3) (size := 1) (g := w.heap.size + 1 + 1) (alloc_at (by simp)) (Nat.le_refl _))
  go_wp2_with (with_reducible refine apf rfl _ _ 88 rfl (.int .i64 0) 8 Try.underlying88 zinfoC3 zsizeC3 (by decide) rfl G.out rfl (Rep.ext hV hK hSteps) encI_w flatI (by unfold maxLen; simp; omega) (by simp; omega) hle1 ?_)
  intro u1 w1 hG hB hk
  (try simp only [List.nil_append] at hG)
  obtain ⟨a1, p1, b1, rfl, o1, n1, s1⟩ := hG.ownT
  have O1 := Lib.hid o1
  clear o1 hG hk G
  replace HA := Lib.hid (row_below HA.out hB (by omega))
  replace HR := Lib.hid (row_below HR.out hB (by omega))
  replace hs := Nat.lt_of_lt_of_le hs hB.size
  replace hV := hV.trans (hB.mono hlo1)
  have y1 : w.heap.size + 1 + 1 ≤ w1.heap.size := Nat.le_trans hle1 hB.size
  clear hB
  have ha := Lib.hid (show ((#[.int .i64 x.fKind, c1, c2, c3, .slice aArgs x.fArgs.length capArgs] : Array Value).toList.take 3 ++ ([.slice a1 x.fSteps.length p1] : List Value) ++ (#[.int .i64 x.fKind, c1, c2, c3, .slice aArgs x.fArgs.length capArgs] : Array Value).toList.drop (3 + ([.slice a1 x.fSteps.length p1] : List Value).length)).toArray = #[.int .i64 x.fKind, c1, c2, .slice a1 x.fSteps.length p1, .slice aArgs x.fArgs.length capArgs] from rfl)
  have hf := Lib.hid (show 3 < (#[.int .i64 x.fKind, c1, c2, c3, .slice aArgs x.fArgs.length capArgs] : Array Value).size from (by decide : 3 < 5))
  go_wp2_with (with_reducible refine stR1 rfl 88 _ _ rfl (w.heap.size) 3 rfl (.slice a1 x.fSteps.length p1) rfl infoC88 rfl (#[.int .i64 x.fKind, c1, c2, c3, .slice aArgs x.fArgs.length capArgs] : Array Value) #[.int .i64 x.fKind, c1, c2, .slice a1 x.fSteps.length p1, .slice aArgs x.fArgs.length capArgs] 91 HA.out hf.out ha.out ?_)
  intro v1 hp1
  clear ha hf
  replace HA := Lib.hid hp1.row
  replace HR := Lib.hid (row_put HR.out hp1 (by omega))
  replace hs : w.heap.size + 1 < v1.heap.size := by rw [hp1.size]; exact hs
  replace hV := hp1.below hV (by omega)
  replace O1 := Lib.hid (O1.out.put hp1 (fun x hx => by have := s1 x hx; omega))
  have x1 : w1.heap.size ≤ v1.heap.size := by rw [hp1.size]; exact Nat.le_refl _
  have x1' : v1.heap.size ≤ w1.heap.size := by rw [hp1.size]; exact Nat.le_refl _
  clear hp1
  have hlen2 : x.fArgs.length ≤ 1048576 := by have := Hz.out; rw [TDictionary.sz_eq] at this; unfold szs at this; omega
  have g2 : v1.cell? ⟨w.heap.size, 4, none⟩ = some (.slice aArgs x.fArgs.length capArgs) := row_cell HA.out 4
  have hBa : Below v1.heap.size v1 (v1.alloc (.cells #[] 91)) := (Below.refl _ _).alloc (Nat.le_refl _) _
  replace HA := Lib.hid (row_below HA.out hBa (by (try simp); omega))
  replace HR := Lib.hid (row_below HR.out hBa hs)
  replace O1 := Lib.hid (O1.out.below hBa)
  replace hs := Nat.lt_of_lt_of_le hs hBa.size
  replace hV := hV.trans (hBa.mono hV.size)
  clear hBa
  have hlo2 : w.heap.size ≤ v1.heap.size := by omega
  have hlq2 : w.heap.size + 1 < v1.heap.size := by omega
  have hle2 : v1.heap.size ≤ (v1.alloc (.cells #[] 91)).heap.size := by simp
  have G0 : Hid (Gr (v1.alloc (.cells #[] 91)) (v1.heap.size) 91 5 ((x.fArgs.map TDictionary.enc).take 0) (.slice (some ⟨v1.heap.size, 0, none⟩) 0 0) []) := Lib.hid (Gr.made (alloc_at (by simp)) (Nat.le_refl _))
  go_wp2
  go_loopw [3, 4] (fun o i wr => ∃ (n : Nat) (r : List Nat) (v' : Value), n ≤ x.fArgs.length ∧ v' = o ∧ i = .int .i64 n ∧ Hid (Gr wr (v1.heap.size) 91 5 ((x.fArgs.map TDictionary.enc).take n) v' r) ∧ Below w.heap.size w wr ∧ v1.heap.size ≤ wr.heap.size ∧ Hid (wr.heap[w.heap.size]? = some (.cells #[.int .i64 x.fKind, c1, c2, .slice a1 x.fSteps.length p1, .slice aArgs x.fArgs.length capArgs] 91 (0, 0))) ∧ Hid (wr.heap[w.heap.size + 1]? = some (.cells #[.int .i64 0, .int .i64 0, .int .i64 0, .slice none 0 0, .slice none 0 0] 91 (0, 0))) ∧ Hid (Own wr (.sl (x.fSteps.map encI)) [.slice a1 x.fSteps.length p1] b1)) (fun _ i _ => x.fArgs.length - (intOf i).toNat)
  case atStart => exact ⟨0, [], _, Nat.zero_le _, rfl, rfl, G0, hV, hle2, HA, HR, O1⟩
  case round =>
    clear G0 hV HA HR hs hle2 O1 g2
    obtain ⟨n, r, v', hn, rfl, rfl, G, hV, hle, HA, HR, O1⟩ := hrel
    have gA : wr.cell? ⟨w.heap.size, 4, none⟩ = some (.slice aArgs x.fArgs.length capArgs) := row_cell HA.out 4
    by_cases hlt : n < x.fArgs.length
    · obtain ⟨b, off, rfl, hKb, cs, hcs, hr⟩ := hEArgs n hlt
      have gr := Rep.ext hV hK hr
      have gcs := hcs.ext hV (hK b hKb)
      have hK' : ∀ b, K b → b < wr.heap.size := fun b h => Nat.lt_of_lt_of_le (hK b h) hV.size
      have hi : (Try.prog.info? 91).map (·.size) = some cs.length := by rw [Rep.length _ _ gr, TDictionary.width]; exact infoC91
      have hmem : x.fArgs[n] ∈ x.fArgs := List.getElem_mem hlt
      have hlt' : ((x.fArgs.map TDictionary.enc).take n).length = n := by rw [List.length_take, List.length_map, Nat.min_eq_left (Nat.le_of_lt hlt)]
      have Ht : Hid ((x.fArgs.map TDictionary.enc).take n ++ [TDictionary.enc x.fArgs[n]] = (x.fArgs.map TDictionary.enc).take (n + 1)) := Lib.hid (by rw [List.take_succ_eq_append_getElem (by simpa using hlt), List.getElem_map])
      clear hEArgs hcs hr hKb
      have Hs := Lib.hid (show SizeOf.sizeOf x.fArgs[n] < SizeOf.sizeOf x.fArgs from List.sizeOf_lt_of_mem hmem)
      have Hb := Lib.hid (show TDictionary.sz x.fArgs[n] ≤ 1048576 from (by have := szL_le TDictionary.sz hmem; have := Hz.out; rw [TDictionary.sz_eq] at this; unfold szs at this; omega))
      clear hmem
      have Hl := Lib.hid hlt'; clear hlt'
      generalize x.fArgs[n] = y at *
      go_wp2_with (with_reducible refine ld rfl 91 _ rfl b _ rfl cs gcs _ Try.underlying91 hi ?_)
      refine (ispecl37Copy_c y (by have := Hs.out; have := TDictionary.lt_fArgs x; omega) Hb.out _ K hK' _ gr).mono ?_
      rintro e q1 ⟨cs', bs, rfl, o1, n1, r1, hB1⟩
      have hl1 := (Rep.length (K := fun _ => True) _ _ (Own.rep _ _ _ o1 (fun _ _ => trivial))).trans (TDictionary.width _)
      have Hl1 := Lib.hid hl1; clear hl1
      have hBw := hV.trans (hB1.mono hV.size)
      have G1 := Lib.hid (G.out.below hB1)
      have H1 := Lib.hid (show ∀ x ∈ r, x < wr.heap.size from G.out.lt)
      have H2 := Lib.hid (show ∀ q, v'.ownBlock = some q → q < wr.heap.size from fun q hq => (G.out.block q hq).2)
      have U1 := Lib.hid o1; have R1 := Lib.hid r1
      replace HA := Lib.hid (row_below HA.out hB1 (by omega))
      replace HR := Lib.hid (row_below HR.out hB1 (by omega))
      replace O1 := Lib.hid (O1.out.below hB1)
      have hle1 := Nat.le_trans hle hB1.size
      clear G o1 r1 gA
      go_wp2_with (with_reducible refine bs1 rfl 89 _ rfl Try.underlying89 zinfoC91 (by decide) (by decide) _ rfl cs' rfl Hl1.out ?_)
      intro wb hBa hrow
      have HC := Lib.hid (row_cells hrow)
      clear hrow
      have G2 := Lib.hid (G1.out.below hBa)
      have U2 := Lib.hid (U1.out.below hBa)
      have hBw2 := hBw.trans (hBa.mono hBw.size)
      replace HA := Lib.hid (row_below HA.out hBa (by omega))
      replace HR := Lib.hid (row_below HR.out hBa (by omega))
      replace O1 := Lib.hid (O1.out.below hBa)
      have hle2 : v1.heap.size ≤ wb.heap.size := Nat.le_trans hle1 hBa.size
      clear G1 U1 hBa
      go_wp2_with (with_reducible refine apg (v := v') rfl _ _ 89 rfl (.agg #[.int .i64 0, .int .i64 0, .int .i64 0, .slice none 0 0, .slice none 0 0]) 72 Try.underlying89 zinfoC91 zsizeC91 (by decide) rfl G2.out q1.heap.size 0 1 1 rfl (es := [TDictionary.enc y]) (by simp) (by intro d hd; rw [List.mem_singleton.1 hd]; exact TDictionary.width _) HC.out (ownS1 U2.out) n1 (fun q hq hm => by have := R1.out q hm; have := H1.out q hq; omega) (fun q hq hm => by have := R1.out q hm; have := H2.out q hq; omega) (fun q hq => by have := R1.out q hq; omega) (by rw [Hl.out]; unfold maxLen; omega) (by rw [Hl.out]; omega) hle2 ?_)
      intro v2 q2 hG hB2 hk2
      rw [Ht.out] at hG
      have G3 := Lib.hid hG
      have hBf := Lib.hid (hBw2.trans (hB2.mono (by omega)))
      have HA2 := Lib.hid (row_below HA.out hB2 (by omega))
      have HR2 := Lib.hid (row_below HR.out hB2 (by omega))
      have Q1 := Lib.hid (O1.out.belowLo hB2 (fun x hx => by have := s1 x hx; omega))
      have Hle := Lib.hid (Nat.le_trans hle2 hB2.size)
      clear hG hk2 hB2 hBw2 G2 U2 HC H1 H2 R1 hBw Hl1 n1 hle1 hle2 HA HR O1
      go_wp2
      go_roundw
      case rel => exact ⟨n + 1, _, _, hlt, rfl, by go_num, G3, hBf.out, Hle.out, HA2, HR2, Q1⟩
      case measure => simp [intOf]; omega
    · obtain rfl : n = x.fArgs.length := by omega
      have hG := G.out
      rw [List.take_of_length_le (by simp)] at hG
      obtain ⟨a2, p2, b2, rfl, o2, n2, s2⟩ := hG.ownT
      have O2 := Lib.hid o2
      have hs : w.heap.size + 1 < wr.heap.size := by omega
      clear o2 hG G
      have ha := Lib.hid (show ((#[.int .i64 x.fKind, c1, c2, .slice a1 x.fSteps.length p1, .slice aArgs x.fArgs.length capArgs] : Array Value).toList.take 4 ++ ([.slice a2 x.fArgs.length p2] : List Value) ++ (#[.int .i64 x.fKind, c1, c2, .slice a1 x.fSteps.length p1, .slice aArgs x.fArgs.length capArgs] : Array Value).toList.drop (4 + ([.slice a2 x.fArgs.length p2] : List Value).length)).toArray = #[.int .i64 x.fKind, c1, c2, .slice a1 x.fSteps.length p1, .slice a2 x.fArgs.length p2] from rfl)
      have hf := Lib.hid (show 4 < (#[.int .i64 x.fKind, c1, c2, .slice a1 x.fSteps.length p1, .slice aArgs x.fArgs.length capArgs] : Array Value).size from (by decide : 4 < 5))
      go_wp2_with (with_reducible refine stR1 rfl 89 _ _ rfl (w.heap.size) 4 rfl (.slice a2 x.fArgs.length p2) rfl infoC89 rfl (#[.int .i64 x.fKind, c1, c2, .slice a1 x.fSteps.length p1, .slice aArgs x.fArgs.length capArgs] : Array Value) #[.int .i64 x.fKind, c1, c2, .slice a1 x.fSteps.length p1, .slice a2 x.fArgs.length p2] 91 HA.out hf.out ha.out ?_)
      intro v2 hp2
      clear gA
      clear ha hf
      replace HA := Lib.hid hp2.row
      replace HR := Lib.hid (row_put HR.out hp2 (by omega))
      replace hs : w.heap.size + 1 < v2.heap.size := by rw [hp2.size]; exact hs
      replace hV := hp2.below hV (by omega)
      replace O1 := Lib.hid (O1.out.put hp2 (fun x hx => by have := s1 x hx; omega))
      replace O2 := Lib.hid (O2.out.put hp2 (fun x hx => by have := s2 x hx; omega))
      have x2 : wr.heap.size ≤ v2.heap.size := by rw [hp2.size]; exact Nat.le_refl _
      have x2' : v2.heap.size ≤ wr.heap.size := by rw [hp2.size]; exact Nat.le_refl _
      clear hp2
      have OO := TDictionary.mk_own HKind.out (Own.keep _ _ _ (Rep.own_flat _ _ (TInstanceRef.flatD _) hAt) (by simp)) O1.out O2.out
      have hone := Rep.one (K := fun _ => True) _ _ (Own.rep _ _ _ OO (fun _ _ => trivial))
      have C0 := row_cells (cs := [.int .i64 x.fKind, c1, c2, .slice a1 x.fSteps.length p1, .slice a2 x.fArgs.length p2]) HA.out
      have haf := Lib.hid (show ((#[.int .i64 0, .int .i64 0, .int .i64 0, .slice none 0 0, .slice none 0 0] : Array Value).toList.take 0 ++ ([.int .i64 x.fKind, c1, c2, .slice a1 x.fSteps.length p1, .slice a2 x.fArgs.length p2] : List Value) ++ (#[.int .i64 0, .int .i64 0, .int .i64 0, .slice none 0 0, .slice none 0 0] : Array Value).toList.drop (0 + ([.int .i64 x.fKind, c1, c2, .slice a1 x.fSteps.length p1, .slice a2 x.fArgs.length p2] : List Value).length)).toArray = #[.int .i64 x.fKind, c1, c2, .slice a1 x.fSteps.length p1, .slice a2 x.fArgs.length p2] from rfl)
      have hff := Lib.hid (show 0 + ([.int .i64 x.fKind, c1, c2, .slice a1 x.fSteps.length p1, .slice a2 x.fArgs.length p2] : List Value).length ≤ (#[.int .i64 0, .int .i64 0, .int .i64 0, .slice none 0 0, .slice none 0 0] : Array Value).size from (by decide : 0 + 5 ≤ 5))
      have hif := Lib.hid (show (Try.prog.info? 91).map (·.size) = some ([.int .i64 x.fKind, c1, c2, .slice a1 x.fSteps.length p1, .slice a2 x.fArgs.length p2] : List Value).length from infoC91)
      go_wp2_with (first | (with_reducible refine ld rfl 91 _ rfl (w.heap.size) _ rfl [.int .i64 x.fKind, c1, c2, .slice a1 x.fSteps.length p1, .slice a2 x.fArgs.length p2] C0 _ Try.underlying91 hif.out ?_) | (with_reducible refine stR rfl 91 _ _ rfl (w.heap.size + 1) 0 rfl [.int .i64 x.fKind, c1, c2, .slice a1 x.fSteps.length p1, .slice a2 x.fArgs.length p2] rfl hif.out hone (#[.int .i64 0, .int .i64 0, .int .i64 0, .slice none 0 0, .slice none 0 0] : Array Value) #[.int .i64 x.fKind, c1, c2, .slice a1 x.fSteps.length p1, .slice a2 x.fArgs.length p2] 91 HR.out hff.out haf.out ?_))
      intro vf hpf
      have hVf := hpf.below hV (by omega)
      have cR := row_cells (cs := [.int .i64 x.fKind, c1, c2, .slice a1 x.fSteps.length p1, .slice a2 x.fArgs.length p2]) hpf.row
      have yf := hpf.size
      have OF := OO.put hpf (by
        intro x hx
        simp only [List.mem_append, List.not_mem_nil, or_false, false_or] at hx
        rcases hx with hx | hx
        · have := s1 x hx; omega
        · have := s2 x hx; omega)
      have nd0 : ([] : List Nat).Nodup := List.nodup_nil
      have nd1 : (b2 ++ (([] : List Nat))).Nodup := by simpa using n2
      have nd2 : (b1 ++ (b2 ++ (([] : List Nat)))).Nodup := List.nodup_append.2 ⟨n1, nd1, fun a ha c hc e => by
        subst e
        have q0 := s1 a ha
        simp only [List.mem_append, List.not_mem_nil, or_false] at hc
        have := s2 a hc; omega⟩
      have nd3 : (([] : List Nat) ++ (b1 ++ (b2 ++ (([] : List Nat))))).Nodup := by simpa using nd2
      go_wp2
      refine bodyPost_ret (v := .agg #[.int .i64 x.fKind, c1, c2, .slice a1 x.fSteps.length p1, .slice a2 x.fArgs.length p2]) (run_res Try.results157 (w.heap.size + 1) rfl [.int .i64 x.fKind, c1, c2, .slice a1 x.fSteps.length p1, .slice a2 x.fArgs.length p2] cR _ Try.underlying91 hif.out) rfl ⟨[.int .i64 x.fKind, c1, c2, .slice a1 x.fSteps.length p1, .slice a2 x.fArgs.length p2], _, rfl, OF, nd3, ?_, hVf⟩
      intro b hb
      simp only [List.mem_append, List.not_mem_nil, or_false, false_or] at hb
      rcases hb with hb | hb
      · have := s1 b hb; omega
      · have := s2 b hb; omega
theorem specl37Copy_c_all : ∀ N : Nat, CPspecl37Copy_c N
  | 0 => fun _ h => absurd h (Nat.not_lt_zero _)
  | N + 1 => by
    have i0 := specl37Copy_c_all N
    exact stepspecl37Copy_c N i0
theorem specl37Copy_c (x : TDictionary) : ∀ (_ : x.sz ≤ 1048576) (w : World) (K : Nat → Prop) (_ : ∀ b, K b → b < w.heap.size) (cs : List Value) (_ : Rep w K x.enc cs),
    Calls Try.prog 157 #[.agg cs.toArray] w fun e w' => ∃ cs' bs, e = .returned (.agg cs'.toArray) ∧ Own w' x.enc cs' bs ∧ bs.Nodup ∧ (∀ b ∈ bs, w.heap.size ≤ b ∧ b < w'.heap.size) ∧ Below w.heap.size w w' := (specl37Copy_c_all (SizeOf.sizeOf x + 1)) x (Nat.lt_succ_self _)
def CPspecl37Val_c (N : Nat) : Prop := ∀ (x : TValue), SizeOf.sizeOf x < N → ∀ (_ : x.sz ≤ 1048576) (w : World) (K : Nat → Prop) (_ : ∀ b, K b → b < w.heap.size) (cs : List Value) (_ : Rep w K x.enc cs),
    Calls Try.prog 105 #[.agg cs.toArray] w fun e w' => ∃ cs' bs, e = .returned (.agg cs'.toArray) ∧ Own w' x.enc cs' bs ∧ bs.Nodup ∧ (∀ b ∈ bs, w.heap.size ≤ b ∧ b < w'.heap.size) ∧ Below w.heap.size w w'
set_option maxRecDepth 100000 in
set_option maxHeartbeats 1000000 in
theorem stepspecl37Val_c (N : Nat) (ispecl37Val_c : CPspecl37Val_c N) : CPspecl37Val_c (N + 1) := by
  intro x hN hz w K hK cs h
  obtain ⟨c3, c4, c5, c6, c7, c8, rfl, hKind, hN, hName, hDict, hArgs⟩ := TValue.opn h
  clear h
  have HKind := Lib.hid hKind; clear hKind
  have HN := Lib.hid hN; clear hN
  have HName := Lib.hid hName; clear hName
  have Hz := Lib.hid hz; clear hz
  obtain ⟨aArgs, capArgs, rfl, hcArgs, hmArgs, -, hEArgs⟩ := open_sl TValue.width hArgs
  unfold maxLen at hmArgs
  have hV : Below w.heap.size w ((w.alloc (.cells #[.int .i64 x.fKind, .int .i64 x.fN, .string x.fName, c3, c4, c5, c6, c7, .slice aArgs x.fArgs.length capArgs] 93)).alloc (.cells #[.int .i64 0, .int .i64 0, .string ⟨#[]⟩, .int .i64 0, .int .i64 0, .int .i64 0, .slice none 0 0, .slice none 0 0, .slice none 0 0] 93)) := ((Below.refl _ _).alloc (Nat.le_refl _) _).alloc (by simp) _
  have hs : w.heap.size + 1 < ((w.alloc (.cells #[.int .i64 x.fKind, .int .i64 x.fN, .string x.fName, c3, c4, c5, c6, c7, .slice aArgs x.fArgs.length capArgs] 93)).alloc (.cells #[.int .i64 0, .int .i64 0, .string ⟨#[]⟩, .int .i64 0, .int .i64 0, .int .i64 0, .slice none 0 0, .slice none 0 0, .slice none 0 0] 93)).heap.size := by simp
  have HA := Lib.hid (show ((w.alloc (.cells #[.int .i64 x.fKind, .int .i64 x.fN, .string x.fName, c3, c4, c5, c6, c7, .slice aArgs x.fArgs.length capArgs] 93)).alloc (.cells #[.int .i64 0, .int .i64 0, .string ⟨#[]⟩, .int .i64 0, .int .i64 0, .int .i64 0, .slice none 0 0, .slice none 0 0, .slice none 0 0] 93)).heap[w.heap.size]? = some (.cells #[.int .i64 x.fKind, .int .i64 x.fN, .string x.fName, c3, c4, c5, c6, c7, .slice aArgs x.fArgs.length capArgs] 93 (0, 0)) from alloc_lt (by simp) (alloc_at rfl))
  have HR := Lib.hid (show ((w.alloc (.cells #[.int .i64 x.fKind, .int .i64 x.fN, .string x.fName, c3, c4, c5, c6, c7, .slice aArgs x.fArgs.length capArgs] 93)).alloc (.cells #[.int .i64 0, .int .i64 0, .string ⟨#[]⟩, .int .i64 0, .int .i64 0, .int .i64 0, .slice none 0 0, .slice none 0 0, .slice none 0 0] 93)).heap[w.heap.size + 1]? = some (.cells #[.int .i64 0, .int .i64 0, .string ⟨#[]⟩, .int .i64 0, .int .i64 0, .int .i64 0, .slice none 0 0, .slice none 0 0, .slice none 0 0] 93 (0, 0)) from alloc_at (by simp))
  go_enter Try.func105, Try.ntmps105
  have hlen1 : x.fArgs.length ≤ 1048576 := by have := Hz.out; rw [TValue.sz_eq] at this; unfold szs at this; omega
  have hBa : Below ((w.alloc (.cells #[.int .i64 x.fKind, .int .i64 x.fN, .string x.fName, c3, c4, c5, c6, c7, .slice aArgs x.fArgs.length capArgs] 93)).alloc (.cells #[.int .i64 0, .int .i64 0, .string ⟨#[]⟩, .int .i64 0, .int .i64 0, .int .i64 0, .slice none 0 0, .slice none 0 0, .slice none 0 0] 93)).heap.size ((w.alloc (.cells #[.int .i64 x.fKind, .int .i64 x.fN, .string x.fName, c3, c4, c5, c6, c7, .slice aArgs x.fArgs.length capArgs] 93)).alloc (.cells #[.int .i64 0, .int .i64 0, .string ⟨#[]⟩, .int .i64 0, .int .i64 0, .int .i64 0, .slice none 0 0, .slice none 0 0, .slice none 0 0] 93)) (((w.alloc (.cells #[.int .i64 x.fKind, .int .i64 x.fN, .string x.fName, c3, c4, c5, c6, c7, .slice aArgs x.fArgs.length capArgs] 93)).alloc (.cells #[.int .i64 0, .int .i64 0, .string ⟨#[]⟩, .int .i64 0, .int .i64 0, .int .i64 0, .slice none 0 0, .slice none 0 0, .slice none 0 0] 93)).alloc (.cells #[] 93)) := (Below.refl _ _).alloc (Nat.le_refl _) _
  replace HA := Lib.hid (row_below HA.out hBa (by (try simp); omega))
  replace HR := Lib.hid (row_below HR.out hBa hs)
  replace hs := Nat.lt_of_lt_of_le hs hBa.size
  replace hV := hV.trans (hBa.mono hV.size)
  clear hBa
  have hlo1 : w.heap.size ≤ w.heap.size + 1 + 1 := by omega
  have hlq1 : w.heap.size + 1 < w.heap.size + 1 + 1 := by omega
  have hle1 : w.heap.size + 1 + 1 ≤ (((w.alloc (.cells #[.int .i64 x.fKind, .int .i64 x.fN, .string x.fName, c3, c4, c5, c6, c7, .slice aArgs x.fArgs.length capArgs] 93)).alloc (.cells #[.int .i64 0, .int .i64 0, .string ⟨#[]⟩, .int .i64 0, .int .i64 0, .int .i64 0, .slice none 0 0, .slice none 0 0, .slice none 0 0] 93)).alloc (.cells #[] 93)).heap.size := by simp
  have G0 : Hid (Gr (((w.alloc (.cells #[.int .i64 x.fKind, .int .i64 x.fN, .string x.fName, c3, c4, c5, c6, c7, .slice aArgs x.fArgs.length capArgs] 93)).alloc (.cells #[.int .i64 0, .int .i64 0, .string ⟨#[]⟩, .int .i64 0, .int .i64 0, .int .i64 0, .slice none 0 0, .slice none 0 0, .slice none 0 0] 93)).alloc (.cells #[] 93)) (w.heap.size + 1 + 1) 93 9 ((x.fArgs.map TValue.enc).take 0) (.slice (some ⟨w.heap.size + 1 + 1, 0, none⟩) 0 0) []) := Lib.hid (Gr.made (alloc_at (by simp)) (Nat.le_refl _))
  go_wp2
  go_loopw [3, 4] (fun o i wr => ∃ (n : Nat) (r : List Nat) (v' : Value), n ≤ x.fArgs.length ∧ v' = o ∧ i = .int .i64 n ∧ Hid (Gr wr (w.heap.size + 1 + 1) 93 9 ((x.fArgs.map TValue.enc).take n) v' r) ∧ Below w.heap.size w wr ∧ w.heap.size + 1 + 1 ≤ wr.heap.size ∧ Hid (wr.heap[w.heap.size]? = some (.cells #[.int .i64 x.fKind, .int .i64 x.fN, .string x.fName, c3, c4, c5, c6, c7, .slice aArgs x.fArgs.length capArgs] 93 (0, 0))) ∧ Hid (wr.heap[w.heap.size + 1]? = some (.cells #[.int .i64 0, .int .i64 0, .string ⟨#[]⟩, .int .i64 0, .int .i64 0, .int .i64 0, .slice none 0 0, .slice none 0 0, .slice none 0 0] 93 (0, 0)))) (fun _ i _ => x.fArgs.length - (intOf i).toNat)
  case atStart => exact ⟨0, [], _, Nat.zero_le _, rfl, rfl, G0, hV, hle1, HA, HR⟩
  case round =>
    clear G0 hV HA HR hs hle1
    obtain ⟨n, r, v', hn, rfl, rfl, G, hV, hle, HA, HR⟩ := hrel
    have gA : wr.cell? ⟨w.heap.size, 8, none⟩ = some (.slice aArgs x.fArgs.length capArgs) := row_cell HA.out 8
    by_cases hlt : n < x.fArgs.length
    · obtain ⟨b, off, rfl, hKb, cs, hcs, hr⟩ := hEArgs n hlt
      have gr := Rep.ext hV hK hr
      have gcs := hcs.ext hV (hK b hKb)
      have hK' : ∀ b, K b → b < wr.heap.size := fun b h => Nat.lt_of_lt_of_le (hK b h) hV.size
      have hi : (Try.prog.info? 93).map (·.size) = some cs.length := by rw [Rep.length _ _ gr, TValue.width]; exact infoC93
      have hmem : x.fArgs[n] ∈ x.fArgs := List.getElem_mem hlt
      have hlt' : ((x.fArgs.map TValue.enc).take n).length = n := by rw [List.length_take, List.length_map, Nat.min_eq_left (Nat.le_of_lt hlt)]
      have Ht : Hid ((x.fArgs.map TValue.enc).take n ++ [TValue.enc x.fArgs[n]] = (x.fArgs.map TValue.enc).take (n + 1)) := Lib.hid (by rw [List.take_succ_eq_append_getElem (by simpa using hlt), List.getElem_map])
      clear hEArgs hcs hr hKb
      have Hs := Lib.hid (show SizeOf.sizeOf x.fArgs[n] < SizeOf.sizeOf x.fArgs from List.sizeOf_lt_of_mem hmem)
      have Hb := Lib.hid (show TValue.sz x.fArgs[n] ≤ 1048576 from (by have := szL_le TValue.sz hmem; have := Hz.out; rw [TValue.sz_eq] at this; unfold szs at this; omega))
      clear hmem
      have Hl := Lib.hid hlt'; clear hlt'
      generalize x.fArgs[n] = y at *
      go_wp2_with (with_reducible refine ld rfl 93 _ rfl b _ rfl cs gcs _ Try.underlying93 hi ?_)
      refine (ispecl37Val_c y (by have := Hs.out; have := TValue.lt_fArgs x; omega) Hb.out _ K hK' _ gr).mono ?_
      rintro e q1 ⟨cs', bs, rfl, o1, n1, r1, hB1⟩
      have hl1 := (Rep.length (K := fun _ => True) _ _ (Own.rep _ _ _ o1 (fun _ _ => trivial))).trans (TValue.width _)
      have Hl1 := Lib.hid hl1; clear hl1
      have hBw := hV.trans (hB1.mono hV.size)
      have G1 := Lib.hid (G.out.below hB1)
      have H1 := Lib.hid (show ∀ x ∈ r, x < wr.heap.size from G.out.lt)
      have H2 := Lib.hid (show ∀ q, v'.ownBlock = some q → q < wr.heap.size from fun q hq => (G.out.block q hq).2)
      have U1 := Lib.hid o1; have R1 := Lib.hid r1
      replace HA := Lib.hid (row_below HA.out hB1 (by omega))
      replace HR := Lib.hid (row_below HR.out hB1 (by omega))
      have hle1 := Nat.le_trans hle hB1.size
      clear G o1 r1 gA
      go_wp2_with (with_reducible refine bs1 rfl 28 _ rfl Try.underlying28 zinfoC93 (by decide) (by decide) _ rfl cs' rfl Hl1.out ?_)
      intro wb hBa hrow
      have HC := Lib.hid (row_cells hrow)
      clear hrow
      have G2 := Lib.hid (G1.out.below hBa)
      have U2 := Lib.hid (U1.out.below hBa)
      have hBw2 := hBw.trans (hBa.mono hBw.size)
      replace HA := Lib.hid (row_below HA.out hBa (by omega))
      replace HR := Lib.hid (row_below HR.out hBa (by omega))
      have hle2 : w.heap.size + 1 + 1 ≤ wb.heap.size := Nat.le_trans hle1 hBa.size
      clear G1 U1 hBa
      go_wp2_with (with_reducible refine apg (v := v') rfl _ _ 28 rfl (.agg #[.int .i64 0, .int .i64 0, .string ⟨#[]⟩, .int .i64 0, .int .i64 0, .int .i64 0, .slice none 0 0, .slice none 0 0, .slice none 0 0]) 128 Try.underlying28 zinfoC93 zsizeC93 (by decide) rfl G2.out q1.heap.size 0 1 1 rfl (es := [TValue.enc y]) (by simp) (by intro d hd; rw [List.mem_singleton.1 hd]; exact TValue.width _) HC.out (ownS1 U2.out) n1 (fun q hq hm => by have := R1.out q hm; have := H1.out q hq; omega) (fun q hq hm => by have := R1.out q hm; have := H2.out q hq; omega) (fun q hq => by have := R1.out q hq; omega) (by rw [Hl.out]; unfold maxLen; omega) (by rw [Hl.out]; omega) hle2 ?_)
      intro v2 q2 hG hB2 hk2
      rw [Ht.out] at hG
      have G3 := Lib.hid hG
      have hBf := Lib.hid (hBw2.trans (hB2.mono (by omega)))
      have HA2 := Lib.hid (row_below HA.out hB2 (by omega))
      have HR2 := Lib.hid (row_below HR.out hB2 (by omega))
      have Hle := Lib.hid (Nat.le_trans hle2 hB2.size)
      clear hG hk2 hB2 hBw2 G2 U2 HC H1 H2 R1 hBw Hl1 n1 hle1 hle2 HA HR
      go_wp2
      go_roundw
      case rel => exact ⟨n + 1, _, _, hlt, rfl, by go_num, G3, hBf.out, Hle.out, HA2, HR2⟩
      case measure => simp [intOf]; omega
    · obtain rfl : n = x.fArgs.length := by omega
      have hG := G.out
      rw [List.take_of_length_le (by simp)] at hG
      obtain ⟨a1, p1, b1, rfl, o1, n1, s1⟩ := hG.ownT
      have O1 := Lib.hid o1
      have hs : w.heap.size + 1 < wr.heap.size := by omega
      clear o1 hG G
      have ha := Lib.hid (show ((#[.int .i64 x.fKind, .int .i64 x.fN, .string x.fName, c3, c4, c5, c6, c7, .slice aArgs x.fArgs.length capArgs] : Array Value).toList.take 8 ++ ([.slice a1 x.fArgs.length p1] : List Value) ++ (#[.int .i64 x.fKind, .int .i64 x.fN, .string x.fName, c3, c4, c5, c6, c7, .slice aArgs x.fArgs.length capArgs] : Array Value).toList.drop (8 + ([.slice a1 x.fArgs.length p1] : List Value).length)).toArray = #[.int .i64 x.fKind, .int .i64 x.fN, .string x.fName, c3, c4, c5, c6, c7, .slice a1 x.fArgs.length p1] from rfl)
      have hf := Lib.hid (show 8 < (#[.int .i64 x.fKind, .int .i64 x.fN, .string x.fName, c3, c4, c5, c6, c7, .slice aArgs x.fArgs.length capArgs] : Array Value).size from (by decide : 8 < 9))
      go_wp2_with (with_reducible refine stR1 rfl 28 _ _ rfl (w.heap.size) 8 rfl (.slice a1 x.fArgs.length p1) rfl infoC28 rfl (#[.int .i64 x.fKind, .int .i64 x.fN, .string x.fName, c3, c4, c5, c6, c7, .slice aArgs x.fArgs.length capArgs] : Array Value) #[.int .i64 x.fKind, .int .i64 x.fN, .string x.fName, c3, c4, c5, c6, c7, .slice a1 x.fArgs.length p1] 93 HA.out hf.out ha.out ?_)
      intro v1 hp1
      clear gA
      clear ha hf
      replace HA := Lib.hid hp1.row
      replace HR := Lib.hid (row_put HR.out hp1 (by omega))
      replace hs : w.heap.size + 1 < v1.heap.size := by rw [hp1.size]; exact hs
      replace hV := hp1.below hV (by omega)
      replace O1 := Lib.hid (O1.out.put hp1 (fun x hx => by have := s1 x hx; omega))
      have x1 : wr.heap.size ≤ v1.heap.size := by rw [hp1.size]; exact Nat.le_refl _
      have x1' : v1.heap.size ≤ wr.heap.size := by rw [hp1.size]; exact Nat.le_refl _
      clear hp1
      have C2 := Lib.hid (cells_of HA.out 3 [c3, c4, c5, c6, c7] rfl)
      have I2 := Lib.hid (show (Try.prog.info? 91).map (·.size) = some ([c3, c4, c5, c6, c7] : List Value).length from infoC91)
      go_wp2_with (with_reducible refine ld rfl 91 _ rfl (w.heap.size) 3 rfl [c3, c4, c5, c6, c7] C2.out _ Try.underlying91 I2.out ?_)
      refine (specl37Copy_c x.fDict (by have := Hz.out; rw [TValue.sz_eq] at this; omega) _ K (fun b hb => Nat.lt_of_lt_of_le (hK b hb) hV.size) _ (Rep.ext hV hK hDict)).mono ?_
      rintro e w2 ⟨cs2, b2, rfl, o2, n2, r2, hB2⟩
      obtain ⟨d2_0, d2_1, d2_2, d2_3, d2_4, rfl⟩ := len5 ((Rep.length (K := fun _ => True) _ _ (Own.rep _ _ _ o2 (fun _ _ => trivial))).trans (TDictionary.width _))
      have one2 := Rep.one (K := fun _ => True) _ _ (Own.rep _ _ _ o2 (fun _ _ => trivial))
      have O2 := Lib.hid o2; clear o2
      have s2 : ∀ b ∈ b2, v1.heap.size ≤ b ∧ b < w2.heap.size := by intro b hb; have := r2 b hb; (try simp at this); omega
      have y2 : v1.heap.size ≤ w2.heap.size := by have := hB2.size; (try simp at this); omega
      clear r2
      replace O1 := Lib.hid (O1.out.below hB2)
      replace HA := Lib.hid (row_below HA.out hB2 (by omega))
      replace HR := Lib.hid (row_below HR.out hB2 hs)
      replace hs := Nat.lt_of_lt_of_le hs hB2.size
      replace hV := hV.trans (hB2.mono hV.size)
      clear C2 I2
      clear hB2
      have ha := Lib.hid (show ((#[.int .i64 x.fKind, .int .i64 x.fN, .string x.fName, c3, c4, c5, c6, c7, .slice a1 x.fArgs.length p1] : Array Value).toList.take 3 ++ ([d2_0, d2_1, d2_2, d2_3, d2_4] : List Value) ++ (#[.int .i64 x.fKind, .int .i64 x.fN, .string x.fName, c3, c4, c5, c6, c7, .slice a1 x.fArgs.length p1] : Array Value).toList.drop (3 + ([d2_0, d2_1, d2_2, d2_3, d2_4] : List Value).length)).toArray = #[.int .i64 x.fKind, .int .i64 x.fN, .string x.fName, d2_0, d2_1, d2_2, d2_3, d2_4, .slice a1 x.fArgs.length p1] from rfl)
      have hf := Lib.hid (show 3 + ([d2_0, d2_1, d2_2, d2_3, d2_4] : List Value).length ≤ (#[.int .i64 x.fKind, .int .i64 x.fN, .string x.fName, c3, c4, c5, c6, c7, .slice a1 x.fArgs.length p1] : Array Value).size from (by decide : 3 + 5 ≤ 9))
      have hi := Lib.hid (show (Try.prog.info? 91).map (·.size) = some ([d2_0, d2_1, d2_2, d2_3, d2_4] : List Value).length from infoC91)
      go_wp2_with (with_reducible refine stR rfl 91 _ _ rfl (w.heap.size) 3 rfl ([d2_0, d2_1, d2_2, d2_3, d2_4] : List Value) rfl hi.out one2 (#[.int .i64 x.fKind, .int .i64 x.fN, .string x.fName, c3, c4, c5, c6, c7, .slice a1 x.fArgs.length p1] : Array Value) #[.int .i64 x.fKind, .int .i64 x.fN, .string x.fName, d2_0, d2_1, d2_2, d2_3, d2_4, .slice a1 x.fArgs.length p1] 93 HA.out hf.out ha.out ?_)
      intro v2 hp2
      clear ha hf hi
      replace HA := Lib.hid hp2.row
      replace HR := Lib.hid (row_put HR.out hp2 (by omega))
      replace hs : w.heap.size + 1 < v2.heap.size := by rw [hp2.size]; exact hs
      replace hV := hp2.below hV (by omega)
      replace O1 := Lib.hid (O1.out.put hp2 (fun x hx => by have := s1 x hx; omega))
      replace O2 := Lib.hid (O2.out.put hp2 (fun x hx => by have := s2 x hx; omega))
      have x2 : w2.heap.size ≤ v2.heap.size := by rw [hp2.size]; exact Nat.le_refl _
      have x2' : v2.heap.size ≤ w2.heap.size := by rw [hp2.size]; exact Nat.le_refl _
      clear hp2
      have OO := TValue.mk_own HKind.out HN.out HName.out O2.out O1.out
      have hone := Rep.one (K := fun _ => True) _ _ (Own.rep _ _ _ OO (fun _ _ => trivial))
      have C0 := row_cells (cs := [.int .i64 x.fKind, .int .i64 x.fN, .string x.fName, d2_0, d2_1, d2_2, d2_3, d2_4, .slice a1 x.fArgs.length p1]) HA.out
      have haf := Lib.hid (show ((#[.int .i64 0, .int .i64 0, .string ⟨#[]⟩, .int .i64 0, .int .i64 0, .int .i64 0, .slice none 0 0, .slice none 0 0, .slice none 0 0] : Array Value).toList.take 0 ++ ([.int .i64 x.fKind, .int .i64 x.fN, .string x.fName, d2_0, d2_1, d2_2, d2_3, d2_4, .slice a1 x.fArgs.length p1] : List Value) ++ (#[.int .i64 0, .int .i64 0, .string ⟨#[]⟩, .int .i64 0, .int .i64 0, .int .i64 0, .slice none 0 0, .slice none 0 0, .slice none 0 0] : Array Value).toList.drop (0 + ([.int .i64 x.fKind, .int .i64 x.fN, .string x.fName, d2_0, d2_1, d2_2, d2_3, d2_4, .slice a1 x.fArgs.length p1] : List Value).length)).toArray = #[.int .i64 x.fKind, .int .i64 x.fN, .string x.fName, d2_0, d2_1, d2_2, d2_3, d2_4, .slice a1 x.fArgs.length p1] from rfl)
      have hff := Lib.hid (show 0 + ([.int .i64 x.fKind, .int .i64 x.fN, .string x.fName, d2_0, d2_1, d2_2, d2_3, d2_4, .slice a1 x.fArgs.length p1] : List Value).length ≤ (#[.int .i64 0, .int .i64 0, .string ⟨#[]⟩, .int .i64 0, .int .i64 0, .int .i64 0, .slice none 0 0, .slice none 0 0, .slice none 0 0] : Array Value).size from (by decide : 0 + 9 ≤ 9))
      have hif := Lib.hid (show (Try.prog.info? 93).map (·.size) = some ([.int .i64 x.fKind, .int .i64 x.fN, .string x.fName, d2_0, d2_1, d2_2, d2_3, d2_4, .slice a1 x.fArgs.length p1] : List Value).length from infoC93)
      go_wp2_with (first | (with_reducible refine ld rfl 93 _ rfl (w.heap.size) _ rfl [.int .i64 x.fKind, .int .i64 x.fN, .string x.fName, d2_0, d2_1, d2_2, d2_3, d2_4, .slice a1 x.fArgs.length p1] C0 _ Try.underlying93 hif.out ?_) | (with_reducible refine stR rfl 93 _ _ rfl (w.heap.size + 1) 0 rfl [.int .i64 x.fKind, .int .i64 x.fN, .string x.fName, d2_0, d2_1, d2_2, d2_3, d2_4, .slice a1 x.fArgs.length p1] rfl hif.out hone (#[.int .i64 0, .int .i64 0, .string ⟨#[]⟩, .int .i64 0, .int .i64 0, .int .i64 0, .slice none 0 0, .slice none 0 0, .slice none 0 0] : Array Value) #[.int .i64 x.fKind, .int .i64 x.fN, .string x.fName, d2_0, d2_1, d2_2, d2_3, d2_4, .slice a1 x.fArgs.length p1] 93 HR.out hff.out haf.out ?_))
      intro vf hpf
      have hVf := hpf.below hV (by omega)
      have cR := row_cells (cs := [.int .i64 x.fKind, .int .i64 x.fN, .string x.fName, d2_0, d2_1, d2_2, d2_3, d2_4, .slice a1 x.fArgs.length p1]) hpf.row
      have yf := hpf.size
      have OF := OO.put hpf (by
        intro x hx
        simp only [List.mem_append, List.not_mem_nil, or_false] at hx
        rcases hx with hx | hx
        · have := s2 x hx; omega
        · have := s1 x hx; omega)
      have nd0 : ([] : List Nat).Nodup := List.nodup_nil
      have nd1 : (b1 ++ (([] : List Nat))).Nodup := by simpa using n1
      have nd2 : (b2 ++ (b1 ++ (([] : List Nat)))).Nodup := List.nodup_append.2 ⟨n2, nd1, fun a ha c hc e => by
        subst e
        have q0 := s2 a ha
        simp only [List.mem_append, List.not_mem_nil, or_false] at hc
        have := s1 a hc; omega⟩
      go_wp2
      refine bodyPost_ret (v := .agg #[.int .i64 x.fKind, .int .i64 x.fN, .string x.fName, d2_0, d2_1, d2_2, d2_3, d2_4, .slice a1 x.fArgs.length p1]) (run_res Try.results105 (w.heap.size + 1) rfl [.int .i64 x.fKind, .int .i64 x.fN, .string x.fName, d2_0, d2_1, d2_2, d2_3, d2_4, .slice a1 x.fArgs.length p1] cR _ Try.underlying93 hif.out) rfl ⟨[.int .i64 x.fKind, .int .i64 x.fN, .string x.fName, d2_0, d2_1, d2_2, d2_3, d2_4, .slice a1 x.fArgs.length p1], _, rfl, OF, nd2, ?_, hVf⟩
      intro b hb
      simp only [List.mem_append, List.not_mem_nil, or_false] at hb
      rcases hb with hb | hb
      · have := s2 b hb; omega
      · have := s1 b hb; omega
theorem specl37Val_c_all : ∀ N : Nat, CPspecl37Val_c N
  | 0 => fun _ h => absurd h (Nat.not_lt_zero _)
  | N + 1 => by
    have i0 := specl37Val_c_all N
    exact stepspecl37Val_c N i0
theorem specl37Val_c (x : TValue) : ∀ (_ : x.sz ≤ 1048576) (w : World) (K : Nat → Prop) (_ : ∀ b, K b → b < w.heap.size) (cs : List Value) (_ : Rep w K x.enc cs),
    Calls Try.prog 105 #[.agg cs.toArray] w fun e w' => ∃ cs' bs, e = .returned (.agg cs'.toArray) ∧ Own w' x.enc cs' bs ∧ bs.Nodup ∧ (∀ b ∈ bs, w.heap.size ≤ b ∧ b < w'.heap.size) ∧ Below w.heap.size w w' := (specl37Val_c_all (SizeOf.sizeOf x + 1)) x (Nat.lt_succ_self _)
set_option maxRecDepth 100000 in
set_option maxHeartbeats 1000000 in
theorem specl42Vals_c (l : List TValue) : ∀ (_ : szs TValue.sz l ≤ 1048576) (w : World) (K : Nat → Prop) (_ : ∀ b, K b → b < w.heap.size) (v : Value) (_ : Rep w K (.sl (l.map TValue.enc)) [v]),
    Calls Try.prog 59 #[v] w fun e w' => ∃ a cap bs, e = .returned (.slice a l.length cap) ∧ Own w' (.sl (l.map TValue.enc)) [.slice a l.length cap] bs ∧ bs.Nodup ∧ (∀ b ∈ bs, w.heap.size ≤ b ∧ b < w'.heap.size) ∧ Below w.heap.size w w' := by
  intro hz w K hK v h
  have hlen : l.length ≤ 1048576 := by unfold szs at hz; omega
  have Hz := Lib.hid hz; clear hz
  obtain ⟨a, cap, rfl, hc, hm, -, hE⟩ := open_sl TValue.width h
  unfold maxLen at hm
  clear h
  have hB0 : Below w.heap.size w (w.alloc (.cells #[] 93)) := (Below.refl _ _).alloc (Nat.le_refl _) _
  have G0 : Hid (Gr (w.alloc (.cells #[] 93)) w.heap.size 93 9 ((l.map TValue.enc).take 0) (.slice (some ⟨w.heap.size, 0, none⟩) 0 0) []) := Lib.hid (Gr.made (alloc_at rfl) (Nat.le_refl _))
  go_enter Try.func59, Try.ntmps59
  go_wp2
  go_loopw [3, 4] (fun o i wr => ∃ (n : Nat) (r : List Nat) (v' : Value), n ≤ l.length ∧ v' = o ∧ i = .int .i64 n ∧ Hid (Gr wr w.heap.size 93 9 ((l.map TValue.enc).take n) v' r) ∧ Below w.heap.size w wr) (fun _ i _ => l.length - (intOf i).toNat)
  case atStart => exact ⟨0, [], _, Nat.zero_le _, rfl, rfl, G0, hB0⟩
  case round =>
    clear G0 hB0
    obtain ⟨n, r, v', hn, rfl, rfl, G, hB⟩ := hrel
    by_cases hlt : n < l.length
    · obtain ⟨b, off, rfl, hKb, cs, hcs, hr⟩ := hE n hlt
      have gr := Rep.ext hB hK hr
      have gcs := hcs.ext hB (hK b hKb)
      have hK' : ∀ b, K b → b < wr.heap.size := fun b h => Nat.lt_of_lt_of_le (hK b h) hB.size
      have hi : (Try.prog.info? 93).map (·.size) = some cs.length := by rw [Rep.length _ _ gr, TValue.width]; exact infoC93
      have hmem : l[n] ∈ l := List.getElem_mem hlt
      have hlt' : ((l.map TValue.enc).take n).length = n := by rw [List.length_take, List.length_map, Nat.min_eq_left (Nat.le_of_lt hlt)]
      have Ht : Hid ((l.map TValue.enc).take n ++ [TValue.enc l[n]] = (l.map TValue.enc).take (n + 1)) := Lib.hid (by rw [List.take_succ_eq_append_getElem (by simpa using hlt), List.getElem_map])
      clear hE hcs hr hKb
      have Hb := Lib.hid (show TValue.sz l[n] ≤ 1048576 from (by have := szL_le TValue.sz hmem; have := Hz.out; unfold szs at this; omega))
      clear hmem
      have Hl := Lib.hid hlt'; clear hlt'
      generalize l[n] = x at *
      go_wp2_with (with_reducible refine ld rfl 93 _ rfl b _ rfl cs gcs _ Try.underlying93 hi ?_)
      refine (specl37Val_c x Hb.out _ K hK' _ gr).mono ?_
      rintro e w1 ⟨cs', bs, rfl, o1, n1, r1, hB1⟩
      have hl1 := (Rep.length (K := fun _ => True) _ _ (Own.rep _ _ _ o1 (fun _ _ => trivial))).trans (TValue.width _)
      have Hl1 := Lib.hid hl1; clear hl1
      have hBw := hB.trans (hB1.mono hB.size)
      have G1 := Lib.hid (G.out.below hB1)
      have H1 := Lib.hid (show ∀ x ∈ r, x < wr.heap.size from G.out.lt)
      have H2 := Lib.hid (show ∀ q, v'.ownBlock = some q → q < wr.heap.size from fun q hq => (G.out.block q hq).2)
      have O1 := Lib.hid o1; have R1 := Lib.hid r1
      clear G o1 r1
      go_wp2_with (with_reducible refine bs1 rfl 28 _ rfl Try.underlying28 zinfoC93 (by decide) (by decide) _ rfl cs' rfl Hl1.out ?_)
      intro wb hBa hrow
      have HC := Lib.hid (row_cells hrow)
      clear hrow
      have G2 := Lib.hid (G1.out.below hBa)
      have O2 := Lib.hid (O1.out.below hBa)
      have hBw2 := hBw.trans (hBa.mono hBw.size)
      clear G1 O1 hBa
      go_wp2_with (with_reducible refine apg (v := v') rfl _ _ 28 rfl (.agg #[.int .i64 0, .int .i64 0, .string ⟨#[]⟩, .int .i64 0, .int .i64 0, .int .i64 0, .slice none 0 0, .slice none 0 0, .slice none 0 0]) 128 Try.underlying28 zinfoC93 zsizeC93 (by decide) rfl G2.out w1.heap.size 0 1 1 rfl (es := [TValue.enc x]) (by simp) (by intro d hd; rw [List.mem_singleton.1 hd]; exact TValue.width _) HC.out (ownS1 O2.out) n1 (fun q hq hm => by have := R1.out q hm; have := H1.out q hq; omega) (fun q hq hm => by have := R1.out q hm; have := H2.out q hq; omega) (fun q hq => by have := R1.out q hq; have := hB.size; omega) (by rw [Hl.out]; unfold maxLen; omega) (by rw [Hl.out]; omega) hBw2.size ?_)
      intro v2 w2 hG hB2 hk2
      rw [Ht.out] at hG
      have G3 := Lib.hid hG
      have hBf := Lib.hid (hBw2.trans hB2)
      clear hG hk2 hB2 hBw2 G2 O2 HC H1 H2 R1 hBw Hl1 n1
      go_wp2
      go_roundw
      case rel => exact ⟨n + 1, _, _, hlt, rfl, by go_num, G3, hBf.out⟩
      case measure => simp [intOf]; omega
    · obtain rfl : n = l.length := by omega
      have hG := G.out
      rw [List.take_of_length_le (by simp)] at hG
      obtain ⟨a2, cap2, bs, rfl, o1, n1, r1⟩ := hG.ownT
      have O1 := Lib.hid o1; have R1 := Lib.hid r1
      clear o1 r1 G hG
      go_wp2
      go_ret
      exact ⟨_, _, bs, rfl, O1.out, n1, R1.out, hB⟩
def CPimplcopyDictionary_c (N : Nat) : Prop := ∀ (x : TDictionary), SizeOf.sizeOf x < N → ∀ (_ : x.sz ≤ 1048576) (w : World) (K : Nat → Prop) (_ : ∀ b, K b → b < w.heap.size) (cs : List Value) (_ : Rep w K x.enc cs),
    Calls Try.prog 164 #[.agg cs.toArray] w fun e w' => ∃ cs' bs, e = .returned (.agg cs'.toArray) ∧ Own w' x.enc cs' bs ∧ bs.Nodup ∧ (∀ b ∈ bs, w.heap.size ≤ b ∧ b < w'.heap.size) ∧ Below w.heap.size w w'
def CPimplcopyDictionaries_c (N : Nat) : Prop := ∀ (l : List TDictionary), SizeOf.sizeOf l < N → ∀ (_ : szs TDictionary.sz l ≤ 1048576) (w : World) (K : Nat → Prop) (_ : ∀ b, K b → b < w.heap.size) (v : Value) (_ : Rep w K (.sl (l.map TDictionary.enc)) [v]),
    Calls Try.prog 197 #[v] w fun e w' => ∃ a cap bs, e = .returned (.slice a l.length cap) ∧ Own w' (.sl (l.map TDictionary.enc)) [.slice a l.length cap] bs ∧ bs.Nodup ∧ (∀ b ∈ bs, w.heap.size ≤ b ∧ b < w'.heap.size) ∧ Below w.heap.size w w'
set_option maxRecDepth 100000 in
set_option maxHeartbeats 1000000 in
theorem stepimplcopyDictionary_c (N : Nat) (_iimplcopyDictionary_c : CPimplcopyDictionary_c N) (iimplcopyDictionaries_c : CPimplcopyDictionaries_c N) : CPimplcopyDictionary_c (N + 1) := by
  intro x hN hz w K hK cs h
  obtain ⟨c1, c2, c3, c4, rfl, hKind, hAt, hSteps, hArgs⟩ := TDictionary.opn h
  clear h
  have HKind := Lib.hid hKind; clear hKind
  have Hz := Lib.hid hz; clear hz
  have hV : Below w.heap.size w ((w.alloc (.cells #[.int .i64 x.fKind, c1, c2, c3, c4] 91)).alloc (.cells #[.int .i64 0, .int .i64 0, .int .i64 0, .slice none 0 0, .slice none 0 0] 91)) := ((Below.refl _ _).alloc (Nat.le_refl _) _).alloc (by simp) _
  have hs : w.heap.size + 1 < ((w.alloc (.cells #[.int .i64 x.fKind, c1, c2, c3, c4] 91)).alloc (.cells #[.int .i64 0, .int .i64 0, .int .i64 0, .slice none 0 0, .slice none 0 0] 91)).heap.size := by simp
  have HA := Lib.hid (show ((w.alloc (.cells #[.int .i64 x.fKind, c1, c2, c3, c4] 91)).alloc (.cells #[.int .i64 0, .int .i64 0, .int .i64 0, .slice none 0 0, .slice none 0 0] 91)).heap[w.heap.size]? = some (.cells #[.int .i64 x.fKind, c1, c2, c3, c4] 91 (0, 0)) from alloc_lt (by simp) (alloc_at rfl))
  have HR := Lib.hid (show ((w.alloc (.cells #[.int .i64 x.fKind, c1, c2, c3, c4] 91)).alloc (.cells #[.int .i64 0, .int .i64 0, .int .i64 0, .slice none 0 0, .slice none 0 0] 91)).heap[w.heap.size + 1]? = some (.cells #[.int .i64 0, .int .i64 0, .int .i64 0, .slice none 0 0, .slice none 0 0] 91 (0, 0)) from alloc_at (by simp))
  go_enter Try.func164, Try.ntmps164
  go_wp2_with fail
  refine (slicesClone_int_int_c x.fSteps (by have := Hz.out; rw [TDictionary.sz_eq] at this; omega) _ K (fun b hb => Nat.lt_of_lt_of_le (hK b hb) hV.size) _ (Rep.ext hV hK hSteps)).mono ?_
  rintro e w1 ⟨a1, p1, b1, rfl, o1, n1, r1, hB1⟩
  have O1 := Lib.hid o1; clear o1
  have s1 : ∀ b ∈ b1, w.heap.size + 1 + 1 ≤ b ∧ b < w1.heap.size := by intro b hb; have := r1 b hb; (try simp at this); omega
  have y1 : w.heap.size + 1 + 1 ≤ w1.heap.size := by have := hB1.size; (try simp at this); omega
  clear r1
  replace HA := Lib.hid (row_below HA.out hB1 (by omega))
  replace HR := Lib.hid (row_below HR.out hB1 hs)
  replace hs := Nat.lt_of_lt_of_le hs hB1.size
  replace hV := hV.trans (hB1.mono hV.size)
  clear hB1
  have ha := Lib.hid (show ((#[.int .i64 x.fKind, c1, c2, c3, c4] : Array Value).toList.take 3 ++ ([.slice a1 x.fSteps.length p1] : List Value) ++ (#[.int .i64 x.fKind, c1, c2, c3, c4] : Array Value).toList.drop (3 + ([.slice a1 x.fSteps.length p1] : List Value).length)).toArray = #[.int .i64 x.fKind, c1, c2, .slice a1 x.fSteps.length p1, c4] from rfl)
  have hf := Lib.hid (show 3 < (#[.int .i64 x.fKind, c1, c2, c3, c4] : Array Value).size from (by decide : 3 < 5))
  go_wp2_with (with_reducible refine stR1 rfl 88 _ _ rfl (w.heap.size) 3 rfl (.slice a1 x.fSteps.length p1) rfl infoC88 rfl (#[.int .i64 x.fKind, c1, c2, c3, c4] : Array Value) #[.int .i64 x.fKind, c1, c2, .slice a1 x.fSteps.length p1, c4] 91 HA.out hf.out ha.out ?_)
  intro v1 hp1
  clear ha hf
  replace HA := Lib.hid hp1.row
  replace HR := Lib.hid (row_put HR.out hp1 (by omega))
  replace hs : w.heap.size + 1 < v1.heap.size := by rw [hp1.size]; exact hs
  replace hV := hp1.below hV (by omega)
  replace O1 := Lib.hid (O1.out.put hp1 (fun x hx => by have := s1 x hx; omega))
  have x1 : w1.heap.size ≤ v1.heap.size := by rw [hp1.size]; exact Nat.le_refl _
  have x1' : v1.heap.size ≤ w1.heap.size := by rw [hp1.size]; exact Nat.le_refl _
  clear hp1
  have g2 : v1.cell? ⟨w.heap.size, 4, none⟩ = some c4 := row_cell HA.out 4
  go_wp2_with fail
  refine (iimplcopyDictionaries_c x.fArgs (by have := TDictionary.lt_fArgs x; omega) (by have := Hz.out; rw [TDictionary.sz_eq] at this; omega) _ K (fun b hb => Nat.lt_of_lt_of_le (hK b hb) hV.size) _ (Rep.ext hV hK hArgs)).mono ?_
  rintro e w2 ⟨a2, p2, b2, rfl, o2, n2, r2, hB2⟩
  have O2 := Lib.hid o2; clear o2
  have s2 : ∀ b ∈ b2, v1.heap.size ≤ b ∧ b < w2.heap.size := by intro b hb; have := r2 b hb; (try simp at this); omega
  have y2 : v1.heap.size ≤ w2.heap.size := by have := hB2.size; (try simp at this); omega
  clear r2
  replace O1 := Lib.hid (O1.out.below hB2)
  replace HA := Lib.hid (row_below HA.out hB2 (by omega))
  replace HR := Lib.hid (row_below HR.out hB2 hs)
  replace hs := Nat.lt_of_lt_of_le hs hB2.size
  replace hV := hV.trans (hB2.mono hV.size)
  clear g2
  clear hB2
  have ha := Lib.hid (show ((#[.int .i64 x.fKind, c1, c2, .slice a1 x.fSteps.length p1, c4] : Array Value).toList.take 4 ++ ([.slice a2 x.fArgs.length p2] : List Value) ++ (#[.int .i64 x.fKind, c1, c2, .slice a1 x.fSteps.length p1, c4] : Array Value).toList.drop (4 + ([.slice a2 x.fArgs.length p2] : List Value).length)).toArray = #[.int .i64 x.fKind, c1, c2, .slice a1 x.fSteps.length p1, .slice a2 x.fArgs.length p2] from rfl)
  have hf := Lib.hid (show 4 < (#[.int .i64 x.fKind, c1, c2, .slice a1 x.fSteps.length p1, c4] : Array Value).size from (by decide : 4 < 5))
  go_wp2_with (with_reducible refine stR1 rfl 89 _ _ rfl (w.heap.size) 4 rfl (.slice a2 x.fArgs.length p2) rfl infoC89 rfl (#[.int .i64 x.fKind, c1, c2, .slice a1 x.fSteps.length p1, c4] : Array Value) #[.int .i64 x.fKind, c1, c2, .slice a1 x.fSteps.length p1, .slice a2 x.fArgs.length p2] 91 HA.out hf.out ha.out ?_)
  intro v2 hp2
  clear ha hf
  replace HA := Lib.hid hp2.row
  replace HR := Lib.hid (row_put HR.out hp2 (by omega))
  replace hs : w.heap.size + 1 < v2.heap.size := by rw [hp2.size]; exact hs
  replace hV := hp2.below hV (by omega)
  replace O1 := Lib.hid (O1.out.put hp2 (fun x hx => by have := s1 x hx; omega))
  replace O2 := Lib.hid (O2.out.put hp2 (fun x hx => by have := s2 x hx; omega))
  have x2 : w2.heap.size ≤ v2.heap.size := by rw [hp2.size]; exact Nat.le_refl _
  have x2' : v2.heap.size ≤ w2.heap.size := by rw [hp2.size]; exact Nat.le_refl _
  clear hp2
  have OO := TDictionary.mk_own HKind.out (Own.keep _ _ _ (Rep.own_flat _ _ (TInstanceRef.flatD _) hAt) (by simp)) O1.out O2.out
  have hone := Rep.one (K := fun _ => True) _ _ (Own.rep _ _ _ OO (fun _ _ => trivial))
  have C0 := row_cells (cs := [.int .i64 x.fKind, c1, c2, .slice a1 x.fSteps.length p1, .slice a2 x.fArgs.length p2]) HA.out
  have haf := Lib.hid (show ((#[.int .i64 0, .int .i64 0, .int .i64 0, .slice none 0 0, .slice none 0 0] : Array Value).toList.take 0 ++ ([.int .i64 x.fKind, c1, c2, .slice a1 x.fSteps.length p1, .slice a2 x.fArgs.length p2] : List Value) ++ (#[.int .i64 0, .int .i64 0, .int .i64 0, .slice none 0 0, .slice none 0 0] : Array Value).toList.drop (0 + ([.int .i64 x.fKind, c1, c2, .slice a1 x.fSteps.length p1, .slice a2 x.fArgs.length p2] : List Value).length)).toArray = #[.int .i64 x.fKind, c1, c2, .slice a1 x.fSteps.length p1, .slice a2 x.fArgs.length p2] from rfl)
  have hff := Lib.hid (show 0 + ([.int .i64 x.fKind, c1, c2, .slice a1 x.fSteps.length p1, .slice a2 x.fArgs.length p2] : List Value).length ≤ (#[.int .i64 0, .int .i64 0, .int .i64 0, .slice none 0 0, .slice none 0 0] : Array Value).size from (by decide : 0 + 5 ≤ 5))
  have hif := Lib.hid (show (Try.prog.info? 91).map (·.size) = some ([.int .i64 x.fKind, c1, c2, .slice a1 x.fSteps.length p1, .slice a2 x.fArgs.length p2] : List Value).length from infoC91)
  go_wp2_with (first | (with_reducible refine ld rfl 91 _ rfl (w.heap.size) _ rfl [.int .i64 x.fKind, c1, c2, .slice a1 x.fSteps.length p1, .slice a2 x.fArgs.length p2] C0 _ Try.underlying91 hif.out ?_) | (with_reducible refine stR rfl 91 _ _ rfl (w.heap.size + 1) 0 rfl [.int .i64 x.fKind, c1, c2, .slice a1 x.fSteps.length p1, .slice a2 x.fArgs.length p2] rfl hif.out hone (#[.int .i64 0, .int .i64 0, .int .i64 0, .slice none 0 0, .slice none 0 0] : Array Value) #[.int .i64 x.fKind, c1, c2, .slice a1 x.fSteps.length p1, .slice a2 x.fArgs.length p2] 91 HR.out hff.out haf.out ?_))
  intro vf hpf
  have hVf := hpf.below hV (by omega)
  have cR := row_cells (cs := [.int .i64 x.fKind, c1, c2, .slice a1 x.fSteps.length p1, .slice a2 x.fArgs.length p2]) hpf.row
  have yf := hpf.size
  have OF := OO.put hpf (by
    intro x hx
    simp only [List.mem_append, List.not_mem_nil, or_false, false_or] at hx
    rcases hx with hx | hx
    · have := s1 x hx; omega
    · have := s2 x hx; omega)
  have nd0 : ([] : List Nat).Nodup := List.nodup_nil
  have nd1 : (b2 ++ (([] : List Nat))).Nodup := by simpa using n2
  have nd2 : (b1 ++ (b2 ++ (([] : List Nat)))).Nodup := List.nodup_append.2 ⟨n1, nd1, fun a ha c hc e => by
    subst e
    have q0 := s1 a ha
    simp only [List.mem_append, List.not_mem_nil, or_false] at hc
    have := s2 a hc; omega⟩
  have nd3 : (([] : List Nat) ++ (b1 ++ (b2 ++ (([] : List Nat))))).Nodup := by simpa using nd2
  go_wp2
  refine bodyPost_ret (v := .agg #[.int .i64 x.fKind, c1, c2, .slice a1 x.fSteps.length p1, .slice a2 x.fArgs.length p2]) (run_res Try.results164 (w.heap.size + 1) rfl [.int .i64 x.fKind, c1, c2, .slice a1 x.fSteps.length p1, .slice a2 x.fArgs.length p2] cR _ Try.underlying91 hif.out) rfl ⟨[.int .i64 x.fKind, c1, c2, .slice a1 x.fSteps.length p1, .slice a2 x.fArgs.length p2], _, rfl, OF, nd3, ?_, hVf⟩
  intro b hb
  simp only [List.mem_append, List.not_mem_nil, or_false, false_or] at hb
  rcases hb with hb | hb
  · have := s1 b hb; omega
  · have := s2 b hb; omega
set_option maxRecDepth 100000 in
set_option maxHeartbeats 1000000 in
theorem stepimplcopyDictionaries_c (N : Nat) (iimplcopyDictionary_c : CPimplcopyDictionary_c N) (_iimplcopyDictionaries_c : CPimplcopyDictionaries_c N) : CPimplcopyDictionaries_c (N + 1) := by
  intro l hN hz w K hK v h
  have hlen : l.length ≤ 1048576 := by unfold szs at hz; omega
  have Hz := Lib.hid hz; clear hz
  obtain ⟨a, cap, rfl, hc, hm, -, hE⟩ := open_sl TDictionary.width h
  unfold maxLen at hm
  clear h
  obtain ⟨i0, h2, hz0, hz1, hz2⟩ := info_parts zinfoC91
  go_enter Try.func197, Try.ntmps197
  go_wp2_with (at_make; refine wpList_make_full _ rfl _ _ 89 rfl w.heap.size 91 i0 _ 5 Try.underlying89 h2 hz0 hz1 _ _ _ _ l.length rfl rfl rfl rfl (by rw [hz2]; omega) (by unfold maxLen; omega) (Nat.le_refl _) ?_)
  intro wm hown hgr
  have hB0 : Below w.heap.size w wm := (Below.refl _ _).grown hgr (Nat.le_refl _) (by simp)
  have hR : l.length = 0 ∨ RowOf wm w.heap.size 91 (l.length * 5) := (rowOf_made hown).symm
  clear hown hgr
  go_wp2
  go_loopw [11] (fun i wr => ∃ (k : Nat) (r : List Nat), k ≤ l.length ∧ i = .int .i64 k ∧ (l.length = 0 ∨ RowOf wr w.heap.size 91 (l.length * 5)) ∧ Hid (OwnE wr ((l.take k).map TDictionary.enc) w.heap.size 0 r) ∧ r.Nodup ∧ (∀ b ∈ r, w.heap.size + 1 ≤ b ∧ b < wr.heap.size) ∧ Below w.heap.size w wr) (fun i _ => l.length - (intOf i).toNat)
  case atStart => exact ⟨0, [], Nat.zero_le _, rfl, hR, Lib.hid (by simp only [List.take_zero, List.map_nil, OwnE]), List.nodup_nil, by simp, hB0⟩
  case round =>
    clear hR hB0
    obtain ⟨k, r, hk, rfl, hR, h1, n1, r1, hB⟩ := hrel
    by_cases hlt : k < l.length
    · obtain ⟨b, off, rfl, hKb, cs, hcs, hr⟩ := hE k hlt
      have hr' := Rep.ext hB hK hr
      have hcs' := hcs.ext hB (hK b hKb)
      have hK' : ∀ b, K b → b < wr.heap.size := fun b h => Nat.lt_of_lt_of_le (hK b h) hB.size
      have hR' : RowOf wr w.heap.size 91 (l.length * 5) := by rcases hR with h | h <;> first | omega | exact h
      have hroom : k * 5 + 5 ≤ l.length * 5 := by have := Nat.mul_le_mul_right 5 (show k + 1 ≤ l.length from hlt); rw [Nat.add_mul] at this; omega
      have Hroom := Lib.hid hroom
      clear hE hcs hr hR hroom
      have hl0 := (Rep.length _ _ hr').trans (TDictionary.width _)
      have Hl0 := Lib.hid hl0
      have hi : (Try.prog.info? 91).map (·.size) = some cs.length := by rw [hl0]; exact infoC91
      have hone0 := Rep.one _ _ hr'
      have hmem : l[k] ∈ l := List.getElem_mem hlt
      have Hs := Lib.hid (show SizeOf.sizeOf l[k] < SizeOf.sizeOf l from List.sizeOf_lt_of_mem hmem)
      have Hb := Lib.hid (show TDictionary.sz l[k] ≤ 1048576 from (by have := szL_le TDictionary.sz hmem; have := Hz.out; unfold szs at this; omega))
      have hg : w.heap.size < wr.heap.size := hR'.lt
      have RS := Lib.hid (fun w1 w2 cs bs => @row_step _ TDictionary.enc _ TDictionary.width l k hlt wr w1 w2 w.heap.size r bs cs h1.out n1 r1 hg)
      clear hmem hl0 h1 n1 r1
      generalize l[k] = x at *
      go_wp2_with (first | (with_reducible refine ld rfl 91 _ rfl b _ rfl cs hcs' _ Try.underlying91 hi ?_) | (with_reducible refine stA rfl 91 _ _ rfl wr.heap.size 0 rfl cs rfl hi hone0 _ 91 (alloc_at rfl) (by rw [Hl0.out]; decide) ?_))
      intro w0 hst0
      have hB1 : Below wr.heap.size wr w0 := hst0.below ((Below.refl _ _).alloc (Nat.le_refl _) _) (Nat.le_refl _)
      have hC0 := hst0.at_
      clear hst0
      go_wp2_with (with_reducible refine ld rfl 91 _ rfl wr.heap.size _ rfl cs hC0 _ Try.underlying91 hi ?_)
      refine (iimplcopyDictionary_c x (by have := Hs.out; omega) Hb.out _ K (fun b hb => Nat.lt_of_lt_of_le (hK' b hb) hB1.size) _ (Rep.ext hB1 hK' hr')).mono ?_
      rintro e w1 ⟨cs', bs, rfl, o1, n2, r2, hB2⟩
      have hB3 := hB1.trans (hB2.mono hB1.size)
      have r3 : ∀ x ∈ bs, wr.heap.size ≤ x ∧ x < w1.heap.size := fun x hx => ⟨Nat.le_trans hB1.size (r2 x hx).1, (r2 x hx).2⟩
      have RS2 := Lib.hid (RS.out w1)
      clear RS r2 hB1 hB2 hC0
      obtain ⟨cur, hcur, hsz⟩ := hR'.below hB3 hg
      have Hcur := Lib.hid hcur
      have Hsz := Lib.hid hsz
      clear hcur hsz
      have hl' := (Rep.length (K := fun _ => True) _ _ (Own.rep _ _ _ o1 (fun _ _ => trivial))).trans (TDictionary.width _)
      have hone := Rep.one (K := fun _ => True) _ _ (Own.rep _ _ _ o1 (fun _ _ => trivial))
      have hi' : (Try.prog.info? 91).map (·.size) = some cs'.length := by rw [hl']; exact infoC91
      have Hl' := Lib.hid hl'
      clear hl'
      go_wp2_with (with_reducible refine stA rfl 91 _ _ rfl w.heap.size (k * 5) rfl cs' rfl hi' hone cur 91 Hcur.out (by rw [Hl'.out, Hsz.out]; have := Hroom.out; omega) ?_)
      intro w2 hst
      have R2 : RowOf w2 w.heap.size 91 (l.length * 5) := RowOf.stored ⟨cur, Hcur.out, Hsz.out⟩ hst
      obtain ⟨h1', n1', r1'⟩ := RS2.out w2 cs' bs hB3 o1 n2 r3 hst
      have hB4 := hst.below (hB.trans (hB3.mono hB.size)) (Nat.le_refl _)
      have A1 := Lib.hid h1'; have A2 := Lib.hid n1'; have A3 := Lib.hid r1'; have A4 := Lib.hid hB4; have A5 := Lib.hid R2
      clear h1' n1' r1' hB4 R2 hB r3 hst RS2 hone hi' Hl' hB3
      go_wp2
      go_roundw
      case rel => exact ⟨k + 1, _, hlt, by go_num, .inr A5.out, A1, A2.out, A3.out, A4.out⟩
      case measure => simp [intOf]; omega
    · obtain rfl : k = l.length := by omega
      have h1' := h1.out
      rw [List.take_length] at h1'
      have H1 := Lib.hid h1'
      clear h1' h1
      go_wp2
      go_ret
      rcases hR with h | h
      · exact ⟨_, _, [], rfl, own_nil (List.length_eq_zero_iff.1 h) (by unfold maxLen; omega) (by simp), List.nodup_nil, by simp, hB⟩
      · obtain ⟨bs, o1, n2, r2⟩ := row_done (by unfold maxLen; omega) h H1.out n1 r1
        exact ⟨_, _, bs, rfl, o1, n2, r2, hB⟩
theorem implcopyDictionary_c_all : ∀ N : Nat, CPimplcopyDictionary_c N ∧ CPimplcopyDictionaries_c N
  | 0 => ⟨fun _ h => absurd h (Nat.not_lt_zero _), fun _ h => absurd h (Nat.not_lt_zero _)⟩
  | N + 1 => by
    obtain ⟨i0, i1⟩ := implcopyDictionary_c_all N
    exact ⟨stepimplcopyDictionary_c N i0 i1, stepimplcopyDictionaries_c N i0 i1⟩
theorem implcopyDictionary_c (x : TDictionary) : ∀ (_ : x.sz ≤ 1048576) (w : World) (K : Nat → Prop) (_ : ∀ b, K b → b < w.heap.size) (cs : List Value) (_ : Rep w K x.enc cs),
    Calls Try.prog 164 #[.agg cs.toArray] w fun e w' => ∃ cs' bs, e = .returned (.agg cs'.toArray) ∧ Own w' x.enc cs' bs ∧ bs.Nodup ∧ (∀ b ∈ bs, w.heap.size ≤ b ∧ b < w'.heap.size) ∧ Below w.heap.size w w' := (implcopyDictionary_c_all (SizeOf.sizeOf x + 1)).1 x (Nat.lt_succ_self _)
theorem implcopyDictionaries_c (l : List TDictionary) : ∀ (_ : szs TDictionary.sz l ≤ 1048576) (w : World) (K : Nat → Prop) (_ : ∀ b, K b → b < w.heap.size) (v : Value) (_ : Rep w K (.sl (l.map TDictionary.enc)) [v]),
    Calls Try.prog 197 #[v] w fun e w' => ∃ a cap bs, e = .returned (.slice a l.length cap) ∧ Own w' (.sl (l.map TDictionary.enc)) [.slice a l.length cap] bs ∧ bs.Nodup ∧ (∀ b ∈ bs, w.heap.size ≤ b ∧ b < w'.heap.size) ∧ Below w.heap.size w w' := (implcopyDictionary_c_all (SizeOf.sizeOf l + 1)).2 l (Nat.lt_succ_self _)
def CPimplcopyValue_c (N : Nat) : Prop := ∀ (x : TValue), SizeOf.sizeOf x < N → ∀ (_ : x.sz ≤ 1048576) (w : World) (K : Nat → Prop) (_ : ∀ b, K b → b < w.heap.size) (cs : List Value) (_ : Rep w K x.enc cs),
    Calls Try.prog 109 #[.agg cs.toArray] w fun e w' => ∃ cs' bs, e = .returned (.agg cs'.toArray) ∧ Own w' x.enc cs' bs ∧ bs.Nodup ∧ (∀ b ∈ bs, w.heap.size ≤ b ∧ b < w'.heap.size) ∧ Below w.heap.size w w'
def CPimplcopyValues_c (N : Nat) : Prop := ∀ (l : List TValue), SizeOf.sizeOf l < N → ∀ (_ : szs TValue.sz l ≤ 1048576) (w : World) (K : Nat → Prop) (_ : ∀ b, K b → b < w.heap.size) (v : Value) (_ : Rep w K (.sl (l.map TValue.enc)) [v]),
    Calls Try.prog 63 #[v] w fun e w' => ∃ a cap bs, e = .returned (.slice a l.length cap) ∧ Own w' (.sl (l.map TValue.enc)) [.slice a l.length cap] bs ∧ bs.Nodup ∧ (∀ b ∈ bs, w.heap.size ≤ b ∧ b < w'.heap.size) ∧ Below w.heap.size w w'
set_option maxRecDepth 100000 in
set_option maxHeartbeats 1000000 in
theorem stepimplcopyValue_c (N : Nat) (_iimplcopyValue_c : CPimplcopyValue_c N) (iimplcopyValues_c : CPimplcopyValues_c N) : CPimplcopyValue_c (N + 1) := by
  intro x hN hz w K hK cs h
  obtain ⟨c3, c4, c5, c6, c7, c8, rfl, hKind, hN, hName, hDict, hArgs⟩ := TValue.opn h
  clear h
  have HKind := Lib.hid hKind; clear hKind
  have HN := Lib.hid hN; clear hN
  have HName := Lib.hid hName; clear hName
  have Hz := Lib.hid hz; clear hz
  have hV : Below w.heap.size w ((w.alloc (.cells #[.int .i64 x.fKind, .int .i64 x.fN, .string x.fName, c3, c4, c5, c6, c7, c8] 93)).alloc (.cells #[.int .i64 0, .int .i64 0, .string ⟨#[]⟩, .int .i64 0, .int .i64 0, .int .i64 0, .slice none 0 0, .slice none 0 0, .slice none 0 0] 93)) := ((Below.refl _ _).alloc (Nat.le_refl _) _).alloc (by simp) _
  have hs : w.heap.size + 1 < ((w.alloc (.cells #[.int .i64 x.fKind, .int .i64 x.fN, .string x.fName, c3, c4, c5, c6, c7, c8] 93)).alloc (.cells #[.int .i64 0, .int .i64 0, .string ⟨#[]⟩, .int .i64 0, .int .i64 0, .int .i64 0, .slice none 0 0, .slice none 0 0, .slice none 0 0] 93)).heap.size := by simp
  have HA := Lib.hid (show ((w.alloc (.cells #[.int .i64 x.fKind, .int .i64 x.fN, .string x.fName, c3, c4, c5, c6, c7, c8] 93)).alloc (.cells #[.int .i64 0, .int .i64 0, .string ⟨#[]⟩, .int .i64 0, .int .i64 0, .int .i64 0, .slice none 0 0, .slice none 0 0, .slice none 0 0] 93)).heap[w.heap.size]? = some (.cells #[.int .i64 x.fKind, .int .i64 x.fN, .string x.fName, c3, c4, c5, c6, c7, c8] 93 (0, 0)) from alloc_lt (by simp) (alloc_at rfl))
  have HR := Lib.hid (show ((w.alloc (.cells #[.int .i64 x.fKind, .int .i64 x.fN, .string x.fName, c3, c4, c5, c6, c7, c8] 93)).alloc (.cells #[.int .i64 0, .int .i64 0, .string ⟨#[]⟩, .int .i64 0, .int .i64 0, .int .i64 0, .slice none 0 0, .slice none 0 0, .slice none 0 0] 93)).heap[w.heap.size + 1]? = some (.cells #[.int .i64 0, .int .i64 0, .string ⟨#[]⟩, .int .i64 0, .int .i64 0, .int .i64 0, .slice none 0 0, .slice none 0 0, .slice none 0 0] 93 (0, 0)) from alloc_at (by simp))
  go_enter Try.func109, Try.ntmps109
  have C1 := Lib.hid (cells_of HA.out 3 [c3, c4, c5, c6, c7] rfl)
  have I1 := Lib.hid (show (Try.prog.info? 91).map (·.size) = some ([c3, c4, c5, c6, c7] : List Value).length from infoC91)
  go_wp2_with (with_reducible refine ld rfl 91 _ rfl (w.heap.size) 3 rfl [c3, c4, c5, c6, c7] C1.out _ Try.underlying91 I1.out ?_)
  refine (implcopyDictionary_c x.fDict (by have := Hz.out; rw [TValue.sz_eq] at this; omega) _ K (fun b hb => Nat.lt_of_lt_of_le (hK b hb) hV.size) _ (Rep.ext hV hK hDict)).mono ?_
  rintro e w1 ⟨cs1, b1, rfl, o1, n1, r1, hB1⟩
  obtain ⟨d1_0, d1_1, d1_2, d1_3, d1_4, rfl⟩ := len5 ((Rep.length (K := fun _ => True) _ _ (Own.rep _ _ _ o1 (fun _ _ => trivial))).trans (TDictionary.width _))
  have one1 := Rep.one (K := fun _ => True) _ _ (Own.rep _ _ _ o1 (fun _ _ => trivial))
  have O1 := Lib.hid o1; clear o1
  have s1 : ∀ b ∈ b1, w.heap.size + 1 + 1 ≤ b ∧ b < w1.heap.size := by intro b hb; have := r1 b hb; (try simp at this); omega
  have y1 : w.heap.size + 1 + 1 ≤ w1.heap.size := by have := hB1.size; (try simp at this); omega
  clear r1
  replace HA := Lib.hid (row_below HA.out hB1 (by omega))
  replace HR := Lib.hid (row_below HR.out hB1 hs)
  replace hs := Nat.lt_of_lt_of_le hs hB1.size
  replace hV := hV.trans (hB1.mono hV.size)
  clear C1 I1
  clear hB1
  have ha := Lib.hid (show ((#[.int .i64 x.fKind, .int .i64 x.fN, .string x.fName, c3, c4, c5, c6, c7, c8] : Array Value).toList.take 3 ++ ([d1_0, d1_1, d1_2, d1_3, d1_4] : List Value) ++ (#[.int .i64 x.fKind, .int .i64 x.fN, .string x.fName, c3, c4, c5, c6, c7, c8] : Array Value).toList.drop (3 + ([d1_0, d1_1, d1_2, d1_3, d1_4] : List Value).length)).toArray = #[.int .i64 x.fKind, .int .i64 x.fN, .string x.fName, d1_0, d1_1, d1_2, d1_3, d1_4, c8] from rfl)
  have hf := Lib.hid (show 3 + ([d1_0, d1_1, d1_2, d1_3, d1_4] : List Value).length ≤ (#[.int .i64 x.fKind, .int .i64 x.fN, .string x.fName, c3, c4, c5, c6, c7, c8] : Array Value).size from (by decide : 3 + 5 ≤ 9))
  have hi := Lib.hid (show (Try.prog.info? 91).map (·.size) = some ([d1_0, d1_1, d1_2, d1_3, d1_4] : List Value).length from infoC91)
  go_wp2_with (with_reducible refine stR rfl 91 _ _ rfl (w.heap.size) 3 rfl ([d1_0, d1_1, d1_2, d1_3, d1_4] : List Value) rfl hi.out one1 (#[.int .i64 x.fKind, .int .i64 x.fN, .string x.fName, c3, c4, c5, c6, c7, c8] : Array Value) #[.int .i64 x.fKind, .int .i64 x.fN, .string x.fName, d1_0, d1_1, d1_2, d1_3, d1_4, c8] 93 HA.out hf.out ha.out ?_)
  intro v1 hp1
  clear ha hf hi
  replace HA := Lib.hid hp1.row
  replace HR := Lib.hid (row_put HR.out hp1 (by omega))
  replace hs : w.heap.size + 1 < v1.heap.size := by rw [hp1.size]; exact hs
  replace hV := hp1.below hV (by omega)
  replace O1 := Lib.hid (O1.out.put hp1 (fun x hx => by have := s1 x hx; omega))
  have x1 : w1.heap.size ≤ v1.heap.size := by rw [hp1.size]; exact Nat.le_refl _
  have x1' : v1.heap.size ≤ w1.heap.size := by rw [hp1.size]; exact Nat.le_refl _
  clear hp1
  have g2 : v1.cell? ⟨w.heap.size, 8, none⟩ = some c8 := row_cell HA.out 8
  go_wp2_with fail
  refine (iimplcopyValues_c x.fArgs (by have := TValue.lt_fArgs x; omega) (by have := Hz.out; rw [TValue.sz_eq] at this; omega) _ K (fun b hb => Nat.lt_of_lt_of_le (hK b hb) hV.size) _ (Rep.ext hV hK hArgs)).mono ?_
  rintro e w2 ⟨a2, p2, b2, rfl, o2, n2, r2, hB2⟩
  have O2 := Lib.hid o2; clear o2
  have s2 : ∀ b ∈ b2, v1.heap.size ≤ b ∧ b < w2.heap.size := by intro b hb; have := r2 b hb; (try simp at this); omega
  have y2 : v1.heap.size ≤ w2.heap.size := by have := hB2.size; (try simp at this); omega
  clear r2
  replace O1 := Lib.hid (O1.out.below hB2)
  replace HA := Lib.hid (row_below HA.out hB2 (by omega))
  replace HR := Lib.hid (row_below HR.out hB2 hs)
  replace hs := Nat.lt_of_lt_of_le hs hB2.size
  replace hV := hV.trans (hB2.mono hV.size)
  clear g2
  clear hB2
  have ha := Lib.hid (show ((#[.int .i64 x.fKind, .int .i64 x.fN, .string x.fName, d1_0, d1_1, d1_2, d1_3, d1_4, c8] : Array Value).toList.take 8 ++ ([.slice a2 x.fArgs.length p2] : List Value) ++ (#[.int .i64 x.fKind, .int .i64 x.fN, .string x.fName, d1_0, d1_1, d1_2, d1_3, d1_4, c8] : Array Value).toList.drop (8 + ([.slice a2 x.fArgs.length p2] : List Value).length)).toArray = #[.int .i64 x.fKind, .int .i64 x.fN, .string x.fName, d1_0, d1_1, d1_2, d1_3, d1_4, .slice a2 x.fArgs.length p2] from rfl)
  have hf := Lib.hid (show 8 < (#[.int .i64 x.fKind, .int .i64 x.fN, .string x.fName, d1_0, d1_1, d1_2, d1_3, d1_4, c8] : Array Value).size from (by decide : 8 < 9))
  go_wp2_with (with_reducible refine stR1 rfl 28 _ _ rfl (w.heap.size) 8 rfl (.slice a2 x.fArgs.length p2) rfl infoC28 rfl (#[.int .i64 x.fKind, .int .i64 x.fN, .string x.fName, d1_0, d1_1, d1_2, d1_3, d1_4, c8] : Array Value) #[.int .i64 x.fKind, .int .i64 x.fN, .string x.fName, d1_0, d1_1, d1_2, d1_3, d1_4, .slice a2 x.fArgs.length p2] 93 HA.out hf.out ha.out ?_)
  intro v2 hp2
  clear ha hf
  replace HA := Lib.hid hp2.row
  replace HR := Lib.hid (row_put HR.out hp2 (by omega))
  replace hs : w.heap.size + 1 < v2.heap.size := by rw [hp2.size]; exact hs
  replace hV := hp2.below hV (by omega)
  replace O1 := Lib.hid (O1.out.put hp2 (fun x hx => by have := s1 x hx; omega))
  replace O2 := Lib.hid (O2.out.put hp2 (fun x hx => by have := s2 x hx; omega))
  have x2 : w2.heap.size ≤ v2.heap.size := by rw [hp2.size]; exact Nat.le_refl _
  have x2' : v2.heap.size ≤ w2.heap.size := by rw [hp2.size]; exact Nat.le_refl _
  clear hp2
  have OO := TValue.mk_own HKind.out HN.out HName.out O1.out O2.out
  have hone := Rep.one (K := fun _ => True) _ _ (Own.rep _ _ _ OO (fun _ _ => trivial))
  have C0 := row_cells (cs := [.int .i64 x.fKind, .int .i64 x.fN, .string x.fName, d1_0, d1_1, d1_2, d1_3, d1_4, .slice a2 x.fArgs.length p2]) HA.out
  have haf := Lib.hid (show ((#[.int .i64 0, .int .i64 0, .string ⟨#[]⟩, .int .i64 0, .int .i64 0, .int .i64 0, .slice none 0 0, .slice none 0 0, .slice none 0 0] : Array Value).toList.take 0 ++ ([.int .i64 x.fKind, .int .i64 x.fN, .string x.fName, d1_0, d1_1, d1_2, d1_3, d1_4, .slice a2 x.fArgs.length p2] : List Value) ++ (#[.int .i64 0, .int .i64 0, .string ⟨#[]⟩, .int .i64 0, .int .i64 0, .int .i64 0, .slice none 0 0, .slice none 0 0, .slice none 0 0] : Array Value).toList.drop (0 + ([.int .i64 x.fKind, .int .i64 x.fN, .string x.fName, d1_0, d1_1, d1_2, d1_3, d1_4, .slice a2 x.fArgs.length p2] : List Value).length)).toArray = #[.int .i64 x.fKind, .int .i64 x.fN, .string x.fName, d1_0, d1_1, d1_2, d1_3, d1_4, .slice a2 x.fArgs.length p2] from rfl)
  have hff := Lib.hid (show 0 + ([.int .i64 x.fKind, .int .i64 x.fN, .string x.fName, d1_0, d1_1, d1_2, d1_3, d1_4, .slice a2 x.fArgs.length p2] : List Value).length ≤ (#[.int .i64 0, .int .i64 0, .string ⟨#[]⟩, .int .i64 0, .int .i64 0, .int .i64 0, .slice none 0 0, .slice none 0 0, .slice none 0 0] : Array Value).size from (by decide : 0 + 9 ≤ 9))
  have hif := Lib.hid (show (Try.prog.info? 93).map (·.size) = some ([.int .i64 x.fKind, .int .i64 x.fN, .string x.fName, d1_0, d1_1, d1_2, d1_3, d1_4, .slice a2 x.fArgs.length p2] : List Value).length from infoC93)
  go_wp2_with (first | (with_reducible refine ld rfl 93 _ rfl (w.heap.size) _ rfl [.int .i64 x.fKind, .int .i64 x.fN, .string x.fName, d1_0, d1_1, d1_2, d1_3, d1_4, .slice a2 x.fArgs.length p2] C0 _ Try.underlying93 hif.out ?_) | (with_reducible refine stR rfl 93 _ _ rfl (w.heap.size + 1) 0 rfl [.int .i64 x.fKind, .int .i64 x.fN, .string x.fName, d1_0, d1_1, d1_2, d1_3, d1_4, .slice a2 x.fArgs.length p2] rfl hif.out hone (#[.int .i64 0, .int .i64 0, .string ⟨#[]⟩, .int .i64 0, .int .i64 0, .int .i64 0, .slice none 0 0, .slice none 0 0, .slice none 0 0] : Array Value) #[.int .i64 x.fKind, .int .i64 x.fN, .string x.fName, d1_0, d1_1, d1_2, d1_3, d1_4, .slice a2 x.fArgs.length p2] 93 HR.out hff.out haf.out ?_))
  intro vf hpf
  have hVf := hpf.below hV (by omega)
  have cR := row_cells (cs := [.int .i64 x.fKind, .int .i64 x.fN, .string x.fName, d1_0, d1_1, d1_2, d1_3, d1_4, .slice a2 x.fArgs.length p2]) hpf.row
  have yf := hpf.size
  have OF := OO.put hpf (by
    intro x hx
    simp only [List.mem_append, List.not_mem_nil, or_false] at hx
    rcases hx with hx | hx
    · have := s1 x hx; omega
    · have := s2 x hx; omega)
  have nd0 : ([] : List Nat).Nodup := List.nodup_nil
  have nd1 : (b2 ++ (([] : List Nat))).Nodup := by simpa using n2
  have nd2 : (b1 ++ (b2 ++ (([] : List Nat)))).Nodup := List.nodup_append.2 ⟨n1, nd1, fun a ha c hc e => by
    subst e
    have q0 := s1 a ha
    simp only [List.mem_append, List.not_mem_nil, or_false] at hc
    have := s2 a hc; omega⟩
  go_wp2
  refine bodyPost_ret (v := .agg #[.int .i64 x.fKind, .int .i64 x.fN, .string x.fName, d1_0, d1_1, d1_2, d1_3, d1_4, .slice a2 x.fArgs.length p2]) (run_res Try.results109 (w.heap.size + 1) rfl [.int .i64 x.fKind, .int .i64 x.fN, .string x.fName, d1_0, d1_1, d1_2, d1_3, d1_4, .slice a2 x.fArgs.length p2] cR _ Try.underlying93 hif.out) rfl ⟨[.int .i64 x.fKind, .int .i64 x.fN, .string x.fName, d1_0, d1_1, d1_2, d1_3, d1_4, .slice a2 x.fArgs.length p2], _, rfl, OF, nd2, ?_, hVf⟩
  intro b hb
  simp only [List.mem_append, List.not_mem_nil, or_false] at hb
  rcases hb with hb | hb
  · have := s1 b hb; omega
  · have := s2 b hb; omega
set_option maxRecDepth 100000 in
set_option maxHeartbeats 1000000 in
theorem stepimplcopyValues_c (N : Nat) (iimplcopyValue_c : CPimplcopyValue_c N) (_iimplcopyValues_c : CPimplcopyValues_c N) : CPimplcopyValues_c (N + 1) := by
  intro l hN hz w K hK v h
  have hlen : l.length ≤ 1048576 := by unfold szs at hz; omega
  have Hz := Lib.hid hz; clear hz
  obtain ⟨a, cap, rfl, hc, hm, -, hE⟩ := open_sl TValue.width h
  unfold maxLen at hm
  clear h
  obtain ⟨i0, h2, hz0, hz1, hz2⟩ := info_parts zinfoC93
  go_enter Try.func63, Try.ntmps63
  go_wp2_with (at_make; refine wpList_make_full _ rfl _ _ 28 rfl w.heap.size 93 i0 _ 9 Try.underlying28 h2 hz0 hz1 _ _ _ _ l.length rfl rfl rfl rfl (by rw [hz2]; omega) (by unfold maxLen; omega) (Nat.le_refl _) ?_)
  intro wm hown hgr
  have hB0 : Below w.heap.size w wm := (Below.refl _ _).grown hgr (Nat.le_refl _) (by simp)
  have hR : l.length = 0 ∨ RowOf wm w.heap.size 93 (l.length * 9) := (rowOf_made hown).symm
  clear hown hgr
  go_wp2
  go_loopw [11] (fun i wr => ∃ (k : Nat) (r : List Nat), k ≤ l.length ∧ i = .int .i64 k ∧ (l.length = 0 ∨ RowOf wr w.heap.size 93 (l.length * 9)) ∧ Hid (OwnE wr ((l.take k).map TValue.enc) w.heap.size 0 r) ∧ r.Nodup ∧ (∀ b ∈ r, w.heap.size + 1 ≤ b ∧ b < wr.heap.size) ∧ Below w.heap.size w wr) (fun i _ => l.length - (intOf i).toNat)
  case atStart => exact ⟨0, [], Nat.zero_le _, rfl, hR, Lib.hid (by simp only [List.take_zero, List.map_nil, OwnE]), List.nodup_nil, by simp, hB0⟩
  case round =>
    clear hR hB0
    obtain ⟨k, r, hk, rfl, hR, h1, n1, r1, hB⟩ := hrel
    by_cases hlt : k < l.length
    · obtain ⟨b, off, rfl, hKb, cs, hcs, hr⟩ := hE k hlt
      have hr' := Rep.ext hB hK hr
      have hcs' := hcs.ext hB (hK b hKb)
      have hK' : ∀ b, K b → b < wr.heap.size := fun b h => Nat.lt_of_lt_of_le (hK b h) hB.size
      have hR' : RowOf wr w.heap.size 93 (l.length * 9) := by rcases hR with h | h <;> first | omega | exact h
      have hroom : k * 9 + 9 ≤ l.length * 9 := by have := Nat.mul_le_mul_right 9 (show k + 1 ≤ l.length from hlt); rw [Nat.add_mul] at this; omega
      have Hroom := Lib.hid hroom
      clear hE hcs hr hR hroom
      have hl0 := (Rep.length _ _ hr').trans (TValue.width _)
      have Hl0 := Lib.hid hl0
      have hi : (Try.prog.info? 93).map (·.size) = some cs.length := by rw [hl0]; exact infoC93
      have hone0 := Rep.one _ _ hr'
      have hmem : l[k] ∈ l := List.getElem_mem hlt
      have Hs := Lib.hid (show SizeOf.sizeOf l[k] < SizeOf.sizeOf l from List.sizeOf_lt_of_mem hmem)
      have Hb := Lib.hid (show TValue.sz l[k] ≤ 1048576 from (by have := szL_le TValue.sz hmem; have := Hz.out; unfold szs at this; omega))
      have hg : w.heap.size < wr.heap.size := hR'.lt
      have RS := Lib.hid (fun w1 w2 cs bs => @row_step _ TValue.enc _ TValue.width l k hlt wr w1 w2 w.heap.size r bs cs h1.out n1 r1 hg)
      clear hmem hl0 h1 n1 r1
      generalize l[k] = x at *
      go_wp2_with (first | (with_reducible refine ld rfl 93 _ rfl b _ rfl cs hcs' _ Try.underlying93 hi ?_) | (with_reducible refine stA rfl 93 _ _ rfl wr.heap.size 0 rfl cs rfl hi hone0 _ 93 (alloc_at rfl) (by rw [Hl0.out]; decide) ?_))
      intro w0 hst0
      have hB1 : Below wr.heap.size wr w0 := hst0.below ((Below.refl _ _).alloc (Nat.le_refl _) _) (Nat.le_refl _)
      have hC0 := hst0.at_
      clear hst0
      go_wp2_with (with_reducible refine ld rfl 93 _ rfl wr.heap.size _ rfl cs hC0 _ Try.underlying93 hi ?_)
      refine (iimplcopyValue_c x (by have := Hs.out; omega) Hb.out _ K (fun b hb => Nat.lt_of_lt_of_le (hK' b hb) hB1.size) _ (Rep.ext hB1 hK' hr')).mono ?_
      rintro e w1 ⟨cs', bs, rfl, o1, n2, r2, hB2⟩
      have hB3 := hB1.trans (hB2.mono hB1.size)
      have r3 : ∀ x ∈ bs, wr.heap.size ≤ x ∧ x < w1.heap.size := fun x hx => ⟨Nat.le_trans hB1.size (r2 x hx).1, (r2 x hx).2⟩
      have RS2 := Lib.hid (RS.out w1)
      clear RS r2 hB1 hB2 hC0
      obtain ⟨cur, hcur, hsz⟩ := hR'.below hB3 hg
      have Hcur := Lib.hid hcur
      have Hsz := Lib.hid hsz
      clear hcur hsz
      have hl' := (Rep.length (K := fun _ => True) _ _ (Own.rep _ _ _ o1 (fun _ _ => trivial))).trans (TValue.width _)
      have hone := Rep.one (K := fun _ => True) _ _ (Own.rep _ _ _ o1 (fun _ _ => trivial))
      have hi' : (Try.prog.info? 93).map (·.size) = some cs'.length := by rw [hl']; exact infoC93
      have Hl' := Lib.hid hl'
      clear hl'
      go_wp2_with (with_reducible refine stA rfl 93 _ _ rfl w.heap.size (k * 9) rfl cs' rfl hi' hone cur 93 Hcur.out (by rw [Hl'.out, Hsz.out]; have := Hroom.out; omega) ?_)
      intro w2 hst
      have R2 : RowOf w2 w.heap.size 93 (l.length * 9) := RowOf.stored ⟨cur, Hcur.out, Hsz.out⟩ hst
      obtain ⟨h1', n1', r1'⟩ := RS2.out w2 cs' bs hB3 o1 n2 r3 hst
      have hB4 := hst.below (hB.trans (hB3.mono hB.size)) (Nat.le_refl _)
      have A1 := Lib.hid h1'; have A2 := Lib.hid n1'; have A3 := Lib.hid r1'; have A4 := Lib.hid hB4; have A5 := Lib.hid R2
      clear h1' n1' r1' hB4 R2 hB r3 hst RS2 hone hi' Hl' hB3
      go_wp2
      go_roundw
      case rel => exact ⟨k + 1, _, hlt, by go_num, .inr A5.out, A1, A2.out, A3.out, A4.out⟩
      case measure => simp [intOf]; omega
    · obtain rfl : k = l.length := by omega
      have h1' := h1.out
      rw [List.take_length] at h1'
      have H1 := Lib.hid h1'
      clear h1' h1
      go_wp2
      go_ret
      rcases hR with h | h
      · exact ⟨_, _, [], rfl, own_nil (List.length_eq_zero_iff.1 h) (by unfold maxLen; omega) (by simp), List.nodup_nil, by simp, hB⟩
      · obtain ⟨bs, o1, n2, r2⟩ := row_done (by unfold maxLen; omega) h H1.out n1 r1
        exact ⟨_, _, bs, rfl, o1, n2, r2, hB⟩
theorem implcopyValue_c_all : ∀ N : Nat, CPimplcopyValue_c N ∧ CPimplcopyValues_c N
  | 0 => ⟨fun _ h => absurd h (Nat.not_lt_zero _), fun _ h => absurd h (Nat.not_lt_zero _)⟩
  | N + 1 => by
    obtain ⟨i0, i1⟩ := implcopyValue_c_all N
    exact ⟨stepimplcopyValue_c N i0 i1, stepimplcopyValues_c N i0 i1⟩
theorem implcopyValue_c (x : TValue) : ∀ (_ : x.sz ≤ 1048576) (w : World) (K : Nat → Prop) (_ : ∀ b, K b → b < w.heap.size) (cs : List Value) (_ : Rep w K x.enc cs),
    Calls Try.prog 109 #[.agg cs.toArray] w fun e w' => ∃ cs' bs, e = .returned (.agg cs'.toArray) ∧ Own w' x.enc cs' bs ∧ bs.Nodup ∧ (∀ b ∈ bs, w.heap.size ≤ b ∧ b < w'.heap.size) ∧ Below w.heap.size w w' := (implcopyValue_c_all (SizeOf.sizeOf x + 1)).1 x (Nat.lt_succ_self _)
theorem implcopyValues_c (l : List TValue) : ∀ (_ : szs TValue.sz l ≤ 1048576) (w : World) (K : Nat → Prop) (_ : ∀ b, K b → b < w.heap.size) (v : Value) (_ : Rep w K (.sl (l.map TValue.enc)) [v]),
    Calls Try.prog 63 #[v] w fun e w' => ∃ a cap bs, e = .returned (.slice a l.length cap) ∧ Own w' (.sl (l.map TValue.enc)) [.slice a l.length cap] bs ∧ bs.Nodup ∧ (∀ b ∈ bs, w.heap.size ≤ b ∧ b < w'.heap.size) ∧ Below w.heap.size w w' := (implcopyValue_c_all (SizeOf.sizeOf l + 1)).2 l (Nat.lt_succ_self _)
end Go.Proofs.Ytnlmldgbhdcpbaa
