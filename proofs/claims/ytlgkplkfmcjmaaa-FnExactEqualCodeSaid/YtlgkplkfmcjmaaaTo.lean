/- The functions to.. of the laws: each copies a value into memory of its own. Condition: the value's size is at most 1048576. -/
import Derived.Test.YtlgkplkfmcjmaaaTypes
namespace Go.Proofs.Ytlgkplkfmcjmaaa
open Go.RowKit
theorem infoT34 : (Try.prog.info? 34).map (·.size) = some 5 := by kernel_rfl
theorem zinfo34 : (Try.prog.info? 34).map (fun i => (i.zero, i.size, i.bytes)) = some (some (.agg #[.int .i64 0, .int .i64 0, .int .i64 0, .string ⟨#[]⟩, .string ⟨#[]⟩]), 5, 56) := by kernel_rfl
theorem infoT38 : (Try.prog.info? 38).map (·.size) = some 5 := by kernel_rfl
set_option maxRecDepth 100000 in
set_option maxHeartbeats 1000000 in
theorem toInstr_c (x : TInstr) : ∀ (hz : x.sz ≤ 1048576) (w : World) (K : Nat → Prop) (_ : ∀ b, K b → b < w.heap.size) (cs : List Value) (_ : Rep w K x.enc cs),
    Calls Try.prog 14 #[.agg cs.toArray] w fun e w' => ∃ cs' bs, e = .returned (.agg cs'.toArray) ∧ Own w' x.enc cs' bs ∧ bs.Nodup ∧ (∀ b ∈ bs, w.heap.size ≤ b ∧ b < w'.heap.size) ∧ Below w.heap.size w w' := by
  intro hz w K hK cs h
  obtain ⟨rfl, hOp, hA, hB, hTrait, hName⟩ := TInstr.opn h
  clear h
  have HOp := Lib.hid hOp; clear hOp
  have HA := Lib.hid hA; clear hA
  have HB := Lib.hid hB; clear hB
  have HTrait := Lib.hid hTrait; clear hTrait
  have HName := Lib.hid hName; clear hName
  have Hz := Lib.hid hz; clear hz
  go_enter Try.func14, Try.ntmps14
  go_wp2
  refine bodyPost_ret (v := .agg #[.int .i64 x.fOp, .int .i64 x.fA, .int .i64 x.fB, .string x.fTrait, .string x.fName]) (by simp [results, Try.results14, go_sem]) rfl ⟨[.int .i64 x.fOp, .int .i64 x.fA, .int .i64 x.fB, .string x.fTrait, .string x.fName], [], rfl, ?_, List.nodup_nil, by simp, ?_⟩
  · exact TInstr.mk_own HOp.out HA.out HB.out HTrait.out HName.out
  · exact (((Below.refl _ _).alloc (Nat.le_refl _) _).alloc (by simp) _).alloc (by simp <;> omega) _
set_option maxRecDepth 100000 in
set_option maxHeartbeats 1000000 in
theorem toInstrS_c (l : List TInstr) : ∀ (hz : szs TInstr.sz l ≤ 1048576) (w : World) (K : Nat → Prop) (_ : ∀ b, K b → b < w.heap.size) (v : Value) (_ : Rep w K (.sl (l.map TInstr.enc)) [v]),
    Calls Try.prog 10 #[v] w fun e w' => ∃ a cap bs, e = .returned (.slice a l.length cap) ∧ Own w' (.sl (l.map TInstr.enc)) [.slice a l.length cap] bs ∧ bs.Nodup ∧ (∀ b ∈ bs, w.heap.size ≤ b ∧ b < w'.heap.size) ∧ Below w.heap.size w w' := by
  intro hz w K hK v h
  have hlen : l.length ≤ 1048576 := by unfold szs at hz; omega
  obtain ⟨a, cap, rfl, hc, hm, -, hE⟩ := open_sl TInstr.width h
  unfold maxLen at hm
  clear h
  obtain ⟨i0, h2, hz0, hz1, hz2⟩ := info_parts zinfo34
  go_enter Try.func10, Try.ntmps10
  go_wp2_with (at_make; refine wpList_make_full _ rfl _ _ 27 rfl w.heap.size 34 i0 _ 5 Try.underlying27 h2 hz0 hz1 _ _ _ _ l.length rfl rfl rfl rfl (by rw [hz2]; omega) (by unfold maxLen; omega) (Nat.le_refl _) ?_)
  intro wm hown hgr
  have hB0 : Below w.heap.size w wm := (Below.refl _ _).grown hgr (Nat.le_refl _) (by simp)
  have hR : l.length = 0 ∨ RowOf wm w.heap.size 34 (l.length * 5) := (rowOf_made hown).symm
  clear hown hgr
  go_wp2
  go_loopw [4] (fun i wr => ∃ (k : Nat) (r : List Nat), k ≤ l.length ∧ i = .int .i64 k ∧ (l.length = 0 ∨ RowOf wr w.heap.size 34 (l.length * 5)) ∧ OwnE wr ((l.take k).map TInstr.enc) w.heap.size 0 r ∧ r.Nodup ∧ (∀ b ∈ r, w.heap.size + 1 ≤ b ∧ b < wr.heap.size) ∧ Below w.heap.size w wr) (fun i _ => l.length - (intOf i).toNat)
  case atStart => exact ⟨0, [], Nat.zero_le _, rfl, hR, by simp only [List.take_zero, List.map_nil, OwnE], List.nodup_nil, by simp, hB0⟩
  case round =>
    clear hR hB0
    obtain ⟨k, r, hk, rfl, hR, h1, n1, r1, hB⟩ := hrel
    by_cases hlt : k < l.length
    · obtain ⟨b, off, rfl, hKb, cs, hcs, hr⟩ := hE k hlt
      have hr' := Rep.ext hB hK hr
      have hcs' := hcs.ext hB (hK b hKb)
      have hK' : ∀ b, K b → b < wr.heap.size := fun b h => Nat.lt_of_lt_of_le (hK b h) hB.size
      have hR' : RowOf wr w.heap.size 34 (l.length * 5) := by rcases hR with h | h <;> first | omega | exact h
      have hroom : k * 5 + 5 ≤ l.length * 5 := by have := Nat.mul_le_mul_right 5 (show k + 1 ≤ l.length from hlt); rw [Nat.add_mul] at this; omega
      clear hE hcs hr hR
      have hi : (Try.prog.info? 38).map (·.size) = some cs.length := by rw [Rep.length _ _ hr', TInstr.width]; exact infoT38
      have hmem : l[k] ∈ l := List.getElem_mem hlt
      go_wp2_with (with_reducible refine ld rfl 38 _ rfl b _ rfl cs hcs' _ Try.underlying38 hi ?_)
      refine (toInstr_c l[k] (by have := szL_le TInstr.sz hmem; unfold szs at hz; omega) _ K hK' _ hr').mono ?_
      rintro e w1 ⟨cs', bs, rfl, o1, n2, r2, hB1⟩
      have hg : w.heap.size < wr.heap.size := hR'.lt
      obtain ⟨cur, hcur, hsz⟩ := hR'.below hB1 hg
      have Hcur := Lib.hid hcur
      have Hsz := Lib.hid hsz
      clear hcur hsz
      have hl' := (Rep.length (K := fun _ => True) _ _ (Own.rep _ _ _ o1 (fun _ _ => trivial))).trans (TInstr.width _)
      have hone := Rep.one (K := fun _ => True) _ _ (Own.rep _ _ _ o1 (fun _ _ => trivial))
      have hi' : (Try.prog.info? 34).map (·.size) = some cs'.length := by rw [hl']; exact infoT34
      have Hl' := Lib.hid hl'
      clear hl'
      go_wp2_with (with_reducible refine stA rfl 34 _ _ rfl w.heap.size (k * 5) rfl cs' rfl hi' hone cur 34 Hcur.out (by rw [Hl'.out, Hsz.out]; omega) ?_)
      intro w2 hst
      have R2 : RowOf w2 w.heap.size 34 (l.length * 5) := RowOf.stored ⟨cur, Hcur.out, Hsz.out⟩ hst
      have hrow := row_step TInstr.width hlt h1 n1 r1 hg hB1 o1 n2 r2 hst
      have hB2 := hst.below (hB.trans (hB1.mono hB.size)) (Nat.le_refl _)
      obtain ⟨h1', n1', r1'⟩ := hrow
      have A1 := Lib.hid h1'; have A2 := Lib.hid n1'; have A3 := Lib.hid r1'; have A4 := Lib.hid hB2; have A5 := Lib.hid R2
      clear h1' n1' r1' hB2 R2 h1 n1 r1 hB
      go_wp2
      go_roundw
      case rel => exact ⟨k + 1, _, hlt, by go_num, .inr A5.out, A1.out, A2.out, A3.out, A4.out⟩
      case measure => simp [intOf]; omega
    · obtain rfl : k = l.length := by omega
      rw [List.take_length] at h1
      go_wp2
      go_ret
      rcases hR with h | h
      · exact ⟨_, _, [], rfl, own_nil (List.length_eq_zero_iff.1 h) (by unfold maxLen; omega) (by simp), List.nodup_nil, by simp, hB⟩
      · obtain ⟨bs, o1, n2, r2⟩ := row_done (by unfold maxLen; omega) h h1 n1 r1
        exact ⟨_, _, bs, rfl, o1, n2, r2, hB⟩
set_option maxRecDepth 100000 in
set_option maxHeartbeats 1000000 in
theorem toCode_c (x : TCode) : ∀ (hz : x.sz ≤ 1048576) (w : World) (K : Nat → Prop) (_ : ∀ b, K b → b < w.heap.size) (cs : List Value) (_ : Rep w K x.enc cs),
    Calls Try.prog 6 #[.agg cs.toArray] w fun e w' => ∃ cs' bs, e = .returned (.agg cs'.toArray) ∧ Own w' x.enc cs' bs ∧ bs.Nodup ∧ (∀ b ∈ bs, w.heap.size ≤ b ∧ b < w'.heap.size) ∧ Below w.heap.size w w' := by
  intro hz w K hK cs h
  obtain ⟨c1, rfl, hParams, hList⟩ := TCode.opn h
  clear h
  have HParams := Lib.hid hParams; clear hParams
  have Hz := Lib.hid hz; clear hz
  have hV0 : Below w.heap.size w (((w.alloc (.cells #[.int .i64 x.fParams, c1] 24)).alloc (.cells #[.int .i64 0, .slice none 0 0] 29)).alloc (.cells #[.int .i64 x.fParams, .slice none 0 0] 29)) := (((Below.refl _ _).alloc (Nat.le_refl _) _).alloc (by simp) _).alloc (by simp <;> omega) _
  have hs0 : w.heap.size + 1 + 1 < (((w.alloc (.cells #[.int .i64 x.fParams, c1] 24)).alloc (.cells #[.int .i64 0, .slice none 0 0] 29)).alloc (.cells #[.int .i64 x.fParams, .slice none 0 0] 29)).heap.size := by simp
  go_enter Try.func6, Try.ntmps6
  go_wp2_with fail
  refine (toInstrS_c x.fList (by have := Hz.out; rw [TCode.sz_eq] at this; omega) _ K (fun b hb => Nat.lt_of_lt_of_le (hK b hb) hV0.size) _ (Rep.ext hV0 hK hList)).mono ?_
  rintro e w1 ⟨a1, p1, b1, rfl, o1, n1, r1, hB1⟩
  have hb1 := hV0.trans (hB1.mono hV0.size)
  have hc1 := (bcell hB1).1
  have hf1 := (bcell hB1).2
  have hz1 : w.heap.size + 1 + 1 < w1.heap.size := Nat.lt_of_lt_of_le hs0 hB1.size
  have s1 : ∀ b ∈ b1, w.heap.size + 1 + 1 + 1 ≤ b ∧ b < w1.heap.size := by intro b hb; have := r1 b hb; simp at this; omega
  have z1 : w.heap.size + 1 + 1 + 1 ≤ w1.heap.size := by have := hB1.size; simp at this; omega
  go_wp2
  have hV := hb1 |>.setCell (p := ⟨w.heap.size + 1 + 1, 1, none⟩) (by show w.heap.size ≤ w.heap.size + 1 + 1; omega) (.slice a1 x.fList.length p1) |>.setCell (p := ⟨w.heap.size + 1, 0, none⟩) (by show w.heap.size ≤ w.heap.size + 1; omega) (.int .i64 x.fParams) |>.setCell (p := ⟨w.heap.size + 1, 1, none⟩) (by show w.heap.size ≤ w.heap.size + 1; omega) (.slice a1 x.fList.length p1)
  have u1 := (Up.refl (w.heap.size + 1 + 1) w1) |>.setCell ⟨w.heap.size + 1 + 1, 1, none⟩ (by show w.heap.size + 1 + 1 ≤ w.heap.size + 1 + 1; omega) (.slice a1 x.fList.length p1) |>.setCell ⟨w.heap.size + 1, 0, none⟩ (by show w.heap.size + 1 ≤ w.heap.size + 1 + 1; omega) (.int .i64 x.fParams) |>.setCell ⟨w.heap.size + 1, 1, none⟩ (by show w.heap.size + 1 ≤ w.heap.size + 1 + 1; omega) (.slice a1 x.fList.length p1)
  have j1 := join2 n1 s1 List.nodup_nil (b2 := []) (mid := w1.heap.size) (hi := w1.heap.size) (by simp) z1 (Nat.le_refl _)
  refine bodyPost_ret (v := .agg #[.int .i64 x.fParams, .slice a1 x.fList.length p1]) (by simp [results, Try.results6, go_sem, hc1, hf1, hz1]) rfl ⟨[.int .i64 x.fParams, .slice a1 x.fList.length p1], _, rfl, TCode.mk_own HParams.out (u1.own o1 s1 (by omega)), j1.1, ?_, hV⟩
  intro b hb
  have := j1.2 b hb
  simp
  omega
end Go.Proofs.Ytlgkplkfmcjmaaa
