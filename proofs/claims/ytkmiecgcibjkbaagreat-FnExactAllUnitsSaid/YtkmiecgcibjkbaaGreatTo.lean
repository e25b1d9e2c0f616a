/- The functions to.. of the laws: each copies a value into memory of its own. Condition: the value's size is at most 1048576. -/
import Derived.Test.YtkmiecgcibjkbaaGreatTypes
namespace Go.Proofs.YtkmiecgcibjkbaaGreat
open Go.RowKit
theorem infoT9 : (Tryz.prog.info? 9).map (·.size) = some 1 := by kernel_rfl
theorem zinfo9 : (Tryz.prog.info? 9).map (fun i => (i.zero, i.size, i.bytes)) = some (some (.string ⟨#[]⟩), 1, 16) := by kernel_rfl
set_option maxRecDepth 100000 in
set_option maxHeartbeats 1000000 in
theorem toStringS_c (l : List ByteArray) : ∀ (_ : szs ByteArray.size l ≤ 1048576) (w : World) (K : Nat → Prop) (_ : ∀ b, K b → b < w.heap.size) (v : Value) (_ : Rep w K (.sl (l.map encS)) [v]),
    Calls Tryz.prog 158 #[v] w fun e w' => ∃ a cap bs, e = .returned (.slice a l.length cap) ∧ Own w' (.sl (l.map encS)) [.slice a l.length cap] bs ∧ bs.Nodup ∧ (∀ b ∈ bs, w.heap.size ≤ b ∧ b < w'.heap.size) ∧ Below w.heap.size w w' := by
  intro hz w K hK v h
  have hlen : l.length ≤ 1048576 := by unfold szs at hz; omega
  obtain ⟨a, cap, rfl, hc, hm, -, hE⟩ := open_sl encS_w h
  unfold maxLen at hm
  clear h
  obtain ⟨i0, h2, hz0, hz1, hz2⟩ := info_parts zinfo9
  go_enter Tryz.func158, Tryz.ntmps158
  go_wp2_with (at_make; refine wpList_make_full _ rfl _ _ 48 rfl w.heap.size 9 i0 _ 1 Tryz.underlying48 h2 hz0 hz1 _ _ _ _ l.length rfl rfl rfl rfl (by rw [hz2]; omega) (by unfold maxLen; omega) (Nat.le_refl _) ?_)
  intro wm hown hgr
  have hB0 : Below w.heap.size w wm := (Below.refl _ _).grown hgr (Nat.le_refl _) (by simp)
  have hR : l.length = 0 ∨ RowOf wm w.heap.size 9 (l.length * 1) := (rowOf_made hown).symm
  clear hown hgr
  go_wp2
  go_loopw [4] (fun i wr => ∃ (k : Nat) (r : List Nat), k ≤ l.length ∧ i = .int .i64 k ∧ (l.length = 0 ∨ RowOf wr w.heap.size 9 (l.length * 1)) ∧ OwnE wr ((l.take k).map encS) w.heap.size 0 r ∧ r.Nodup ∧ (∀ b ∈ r, w.heap.size + 1 ≤ b ∧ b < wr.heap.size) ∧ Below w.heap.size w wr) (fun i _ => l.length - (intOf i).toNat)
  case atStart => exact ⟨0, [], Nat.zero_le _, rfl, hR, by simp only [List.take_zero, List.map_nil, OwnE], List.nodup_nil, by simp, hB0⟩
  case round =>
    clear hR hB0
    obtain ⟨k, r, hk, rfl, hR, h1, n1, r1, hB⟩ := hrel
    by_cases hlt : k < l.length
    · obtain ⟨b, off, rfl, hKb, cs, hcs, hr⟩ := hE k hlt
      have hr' := Rep.ext hB hK hr
      have hcs' := hcs.ext hB (hK b hKb)
      have hK' : ∀ b, K b → b < wr.heap.size := fun b h => Nat.lt_of_lt_of_le (hK b h) hB.size
      have hR' : RowOf wr w.heap.size 9 (l.length * 1) := by rcases hR with h | h <;> first | omega | exact h
      have hroom : k * 1 + 1 ≤ l.length * 1 := by have := Nat.mul_le_mul_right 1 (show k + 1 ≤ l.length from hlt); rw [Nat.add_mul] at this; omega
      clear hE hcs hr hR
      have hrr := hr'
      simp only [encS, Rep] at hr'
      obtain ⟨rfl, hok⟩ := hr'
      have g0 : wr.cell? ⟨b, off + k, none⟩ = some (.string l[k]) := by simpa using hcs' 0 _ rfl
      have Hok := Lib.hid hok
      clear hcs' hok
      obtain ⟨cur, hcur, hsz⟩ := hR'
      have Hcur := Lib.hid hcur
      have Hsz := Lib.hid hsz
      clear hcur hsz
      go_wp2_with (with_reducible refine st1 rfl 9 _ _ rfl w.heap.size k rfl (.string l[k]) rfl infoT9 rfl cur 9 Hcur.out (by rw [Hsz.out]; omega) ?_)
      intro w2 hst
      have hst' : Stored wr w2 w.heap.size (k * 1) [.string l[k]] := by simpa using hst
      have R2 : RowOf w2 w.heap.size 9 (l.length * 1) := RowOf.stored ⟨cur, Hcur.out, Hsz.out⟩ hst
      have hg : w.heap.size < wr.heap.size := RowOf.lt ⟨cur, Hcur.out, rfl⟩
      have hrow := row_step encS_w hlt h1 n1 r1 hg (Below.refl _ _) (ownS Hok.out) List.nodup_nil (by simp) hst'
      have hB2 := hst.below hB (Nat.le_refl _)
      obtain ⟨h1', n1', r1'⟩ := hrow
      have A1 := Lib.hid h1'; have A2 := Lib.hid n1'; have A3 := Lib.hid r1'; have A4 := Lib.hid hB2; have A5 := Lib.hid R2
      clear h1' n1' r1' hB2 R2 h1 n1 r1 hB
      go_wp2
      go_roundw
      case rel => exact ⟨k + 1, _, hlt, by go_num, .inr A5.out, A1.out, A2.out, A3.out, A4.out⟩
      case measure => simp [intOf]; omega
    · obtain rfl : k = l.length := by omega
      rw [List.take_length] at h1
      go_wp2
      go_ret
      rcases hR with h | h
      · exact ⟨_, _, [], rfl, own_nil (List.length_eq_zero_iff.1 h) (by unfold maxLen; omega) (by simp), List.nodup_nil, by simp, hB⟩
      · obtain ⟨bs, o1, n2, r2⟩ := row_done (by unfold maxLen; omega) h h1 n1 r1
        exact ⟨_, _, bs, rfl, o1, n2, r2, hB⟩
set_option maxRecDepth 100000 in
set_option maxHeartbeats 1000000 in
theorem toInstanceRef_c (x : TInstanceRef) : ∀ (w : World) (K : Nat → Prop) (_ : ∀ b, K b → b < w.heap.size) (cs : List Value) (_ : Rep w K x.enc cs),
    Calls Tryz.prog 256 #[.agg cs.toArray] w fun e w' => ∃ cs' bs, e = .returned (.agg cs'.toArray) ∧ Own w' x.enc cs' bs ∧ bs.Nodup ∧ (∀ b ∈ bs, w.heap.size ≤ b ∧ b < w'.heap.size) ∧ Below w.heap.size w w' := by
  intro w K hK cs h
  obtain ⟨rfl, hPackage, hAt⟩ := TInstanceRef.opn h
  clear h
  have HPackage := Lib.hid hPackage; clear hPackage
  have HAt := Lib.hid hAt; clear hAt
  go_enter Tryz.func256, Tryz.ntmps256
  go_wp2
  refine bodyPost_ret (v := .agg #[.int .i64 x.fPackage, .int .i64 x.fAt]) (by simp [results, Tryz.results256, go_sem]) rfl ⟨[.int .i64 x.fPackage, .int .i64 x.fAt], [], rfl, ?_, List.nodup_nil, by simp, ?_⟩
  · exact TInstanceRef.mk_own HPackage.out HAt.out
  · exact (((Below.refl _ _).alloc (Nat.le_refl _) _).alloc (by simp) _).alloc (by simp <;> omega) _
theorem infoT240 : (Tryz.prog.info? 240).map (·.size) = some 5 := by kernel_rfl
theorem zinfo240 : (Tryz.prog.info? 240).map (fun i => (i.zero, i.size, i.bytes)) = some (some (.agg #[.int .i64 0, .int .i64 0, .int .i64 0, .int .i64 0, .slice none 0 0]), 5, 56) := by kernel_rfl
theorem infoT325 : (Tryz.prog.info? 325).map (·.size) = some 5 := by kernel_rfl
def ToEvidence (N : Nat) : Prop := ∀ (x : TEvidence), SizeOf.sizeOf x < N → ∀ (_ : x.sz ≤ 1048576) (w : World) (K : Nat → Prop) (_ : ∀ b, K b → b < w.heap.size) (cs : List Value) (_ : Rep w K x.enc cs),
    Calls Tryz.prog 241 #[.agg cs.toArray] w fun e w' => ∃ cs' bs, e = .returned (.agg cs'.toArray) ∧ Own w' x.enc cs' bs ∧ bs.Nodup ∧ (∀ b ∈ bs, w.heap.size ≤ b ∧ b < w'.heap.size) ∧ Below w.heap.size w w'
def ToEvidenceS (N : Nat) : Prop := ∀ (l : List TEvidence), SizeOf.sizeOf l < N → ∀ (_ : szs TEvidence.sz l ≤ 1048576) (w : World) (K : Nat → Prop) (_ : ∀ b, K b → b < w.heap.size) (v : Value) (_ : Rep w K (.sl (l.map TEvidence.enc)) [v]),
    Calls Tryz.prog 207 #[v] w fun e w' => ∃ a cap bs, e = .returned (.slice a l.length cap) ∧ Own w' (.sl (l.map TEvidence.enc)) [.slice a l.length cap] bs ∧ bs.Nodup ∧ (∀ b ∈ bs, w.heap.size ≤ b ∧ b < w'.heap.size) ∧ Below w.heap.size w w'
set_option maxRecDepth 100000 in
set_option maxHeartbeats 1000000 in
theorem stepToEvidence (N : Nat) (_iToEvidence : ToEvidence N) (iToEvidenceS : ToEvidenceS N) : ToEvidence (N + 1) := by
  intro x hN hz w K hK cs h
  obtain ⟨c2, c3, c4, rfl, hKind, hN, hAt, hArgs⟩ := TEvidence.opn h
  clear h
  have HKind := Lib.hid hKind; clear hKind
  have HN := Lib.hid hN; clear hN
  have Hz := Lib.hid hz; clear hz
  have hV0 : Below w.heap.size w (((w.alloc (.cells #[.int .i64 x.fKind, .int .i64 x.fN, c2, c3, c4] 325)).alloc (.cells #[.int .i64 0, .int .i64 0, .int .i64 0, .int .i64 0, .slice none 0 0] 240)).alloc (.cells #[.int .i64 x.fKind, .int .i64 x.fN, .int .i64 0, .int .i64 0, .slice none 0 0] 240)) := (((Below.refl _ _).alloc (Nat.le_refl _) _).alloc (by simp) _).alloc (by simp <;> omega) _
  have hs0 : w.heap.size + 1 + 1 < (((w.alloc (.cells #[.int .i64 x.fKind, .int .i64 x.fN, c2, c3, c4] 325)).alloc (.cells #[.int .i64 0, .int .i64 0, .int .i64 0, .int .i64 0, .slice none 0 0] 240)).alloc (.cells #[.int .i64 x.fKind, .int .i64 x.fN, .int .i64 0, .int .i64 0, .slice none 0 0] 240)).heap.size := by simp
  go_enter Tryz.func241, Tryz.ntmps241
  go_wp2_with fail
  refine (toInstanceRef_c x.fAt _ K (fun b hb => Nat.lt_of_lt_of_le (hK b hb) hV0.size) _ (Rep.ext hV0 hK hAt)).mono ?_
  rintro e w1 ⟨cs1, b1, rfl, o1, n1, r1, hB1⟩
  obtain ⟨d2, d3, rfl⟩ := len2 ((Rep.length (K := fun _ => True) _ _ (Own.rep _ _ _ o1 (fun _ _ => trivial))).trans (TInstanceRef.width _))
  have one1 := Rep.one (K := fun _ => True) _ _ (Own.rep _ _ _ o1 (fun _ _ => trivial))
  have qd2 := st_one (one1 d2 (by simp))
  have qd3 := st_one (one1 d3 (by simp))
  have hb1 := hV0.trans (hB1.mono hV0.size)
  have hc1 := (bcell hB1).1
  have hf1 := (bcell hB1).2
  have hz1 : w.heap.size + 1 + 1 < w1.heap.size := Nat.lt_of_lt_of_le hs0 hB1.size
  have hy1 : w.heap.size < w1.heap.size := by omega
  have hx1 : w.heap.size + 1 < w1.heap.size := by omega
  have s1 : ∀ b ∈ b1, w.heap.size + 1 + 1 + 1 ≤ b ∧ b < w1.heap.size := by intro b hb; have := r1 b hb; simp at this; omega
  have z1 : w.heap.size + 1 + 1 + 1 ≤ w1.heap.size := by have := hB1.size; simp at this; omega
  have hV1 := hb1 |>.setCell (p := ⟨w.heap.size + 1 + 1, 2, none⟩) (by show w.heap.size ≤ w.heap.size + 1 + 1; omega) (d2) |>.setCell (p := ⟨w.heap.size + 1 + 1, 3, none⟩) (by show w.heap.size ≤ w.heap.size + 1 + 1; omega) (d3)
  have hs1 : w.heap.size + 1 + 1 < _ := Nat.lt_of_lt_of_le hz1 ((Up.refl (w.heap.size + 1 + 1) w1) |>.setCell ⟨w.heap.size + 1 + 1, 2, none⟩ (Nat.le_refl _) (d2) |>.setCell ⟨w.heap.size + 1 + 1, 3, none⟩ (Nat.le_refl _) (d3)).size
  have u1 := (Up.refl (w.heap.size + 1 + 1) w1) |>.setCell ⟨w.heap.size + 1 + 1, 2, none⟩ (Nat.le_refl _) (d2) |>.setCell ⟨w.heap.size + 1 + 1, 3, none⟩ (Nat.le_refl _) (d3)
  go_wp2_with fail
  refine (iToEvidenceS x.fArgs (by have := TEvidence.lt_fArgs x; omega) (by have := Hz.out; rw [TEvidence.sz_eq] at this; omega) _ K (fun b hb => Nat.lt_of_lt_of_le (hK b hb) hV1.size) _ (Rep.ext hV1 hK hArgs)).mono ?_
  rintro e w2 ⟨a2, p2, b2, rfl, o2, n2, r2, hB2⟩
  have hb2 := hV1.trans (hB2.mono hV1.size)
  have hc2 := (bcell hB2).1
  have hf2 := (bcell hB2).2
  have hz2 : w.heap.size + 1 + 1 < w2.heap.size := Nat.lt_of_lt_of_le hs1 hB2.size
  have hy2 : w.heap.size < w2.heap.size := by omega
  have hx2 : w.heap.size + 1 < w2.heap.size := by omega
  have s2 : ∀ b ∈ b2, w1.heap.size ≤ b ∧ b < w2.heap.size := by intro b hb; have := r2 b hb; simp at this; omega
  have z2 : w1.heap.size ≤ w2.heap.size := by have := hB2.size; simp at this; omega
  have u1 := u1.below hB2
  go_wp2
  have hV := hb2 |>.setCell (p := ⟨w.heap.size + 1 + 1, 4, none⟩) (by show w.heap.size ≤ w.heap.size + 1 + 1; omega) (.slice a2 x.fArgs.length p2) |>.setCell (p := ⟨w.heap.size + 1, 0, none⟩) (by show w.heap.size ≤ w.heap.size + 1; omega) (.int .i64 x.fKind) |>.setCell (p := ⟨w.heap.size + 1, 1, none⟩) (by show w.heap.size ≤ w.heap.size + 1; omega) (.int .i64 x.fN) |>.setCell (p := ⟨w.heap.size + 1, 2, none⟩) (by show w.heap.size ≤ w.heap.size + 1; omega) (d2) |>.setCell (p := ⟨w.heap.size + 1, 3, none⟩) (by show w.heap.size ≤ w.heap.size + 1; omega) (d3) |>.setCell (p := ⟨w.heap.size + 1, 4, none⟩) (by show w.heap.size ≤ w.heap.size + 1; omega) (.slice a2 x.fArgs.length p2)
  have u1 := u1 |>.setCell ⟨w.heap.size + 1 + 1, 4, none⟩ (by show w.heap.size + 1 + 1 ≤ w.heap.size + 1 + 1; omega) (.slice a2 x.fArgs.length p2) |>.setCell ⟨w.heap.size + 1, 0, none⟩ (by show w.heap.size + 1 ≤ w.heap.size + 1 + 1; omega) (.int .i64 x.fKind) |>.setCell ⟨w.heap.size + 1, 1, none⟩ (by show w.heap.size + 1 ≤ w.heap.size + 1 + 1; omega) (.int .i64 x.fN) |>.setCell ⟨w.heap.size + 1, 2, none⟩ (by show w.heap.size + 1 ≤ w.heap.size + 1 + 1; omega) (d2) |>.setCell ⟨w.heap.size + 1, 3, none⟩ (by show w.heap.size + 1 ≤ w.heap.size + 1 + 1; omega) (d3) |>.setCell ⟨w.heap.size + 1, 4, none⟩ (by show w.heap.size + 1 ≤ w.heap.size + 1 + 1; omega) (.slice a2 x.fArgs.length p2)
  have u2 := (Up.refl (w.heap.size + 1 + 1) w2) |>.setCell ⟨w.heap.size + 1 + 1, 4, none⟩ (by show w.heap.size + 1 + 1 ≤ w.heap.size + 1 + 1; omega) (.slice a2 x.fArgs.length p2) |>.setCell ⟨w.heap.size + 1, 0, none⟩ (by show w.heap.size + 1 ≤ w.heap.size + 1 + 1; omega) (.int .i64 x.fKind) |>.setCell ⟨w.heap.size + 1, 1, none⟩ (by show w.heap.size + 1 ≤ w.heap.size + 1 + 1; omega) (.int .i64 x.fN) |>.setCell ⟨w.heap.size + 1, 2, none⟩ (by show w.heap.size + 1 ≤ w.heap.size + 1 + 1; omega) (d2) |>.setCell ⟨w.heap.size + 1, 3, none⟩ (by show w.heap.size + 1 ≤ w.heap.size + 1 + 1; omega) (d3) |>.setCell ⟨w.heap.size + 1, 4, none⟩ (by show w.heap.size + 1 ≤ w.heap.size + 1 + 1; omega) (.slice a2 x.fArgs.length p2)
  have j2 := join2 n2 s2 List.nodup_nil (b2 := []) (mid := w2.heap.size) (hi := w2.heap.size) (by simp) z2 (Nat.le_refl _)
  have j1 := join2 n1 s1 j2.1 j2.2 z1 (by omega)
  refine bodyPost_ret (v := .agg #[.int .i64 x.fKind, .int .i64 x.fN, d2, d3, .slice a2 x.fArgs.length p2]) (by simp [results, Tryz.results241, go_sem, *]) rfl ⟨[.int .i64 x.fKind, .int .i64 x.fN, d2, d3, .slice a2 x.fArgs.length p2], _, rfl, TEvidence.mk_own HKind.out HN.out (u1.own o1 s1 (by omega)) (u2.own o2 s2 (by omega)), j1.1, ?_, hV⟩
  intro b hb
  have := j1.2 b hb
  simp
  omega
set_option maxRecDepth 100000 in
set_option maxHeartbeats 1000000 in
theorem stepToEvidenceS (N : Nat) (iToEvidence : ToEvidence N) (_iToEvidenceS : ToEvidenceS N) : ToEvidenceS (N + 1) := by
  intro l hN hz w K hK v h
  have hlen : l.length ≤ 1048576 := by unfold szs at hz; omega
  obtain ⟨a, cap, rfl, hc, hm, -, hE⟩ := open_sl TEvidence.width h
  unfold maxLen at hm
  clear h
  obtain ⟨i0, h2, hz0, hz1, hz2⟩ := info_parts zinfo240
  go_enter Tryz.func207, Tryz.ntmps207
  go_wp2_with (at_make; refine wpList_make_full _ rfl _ _ 132 rfl w.heap.size 240 i0 _ 5 Tryz.underlying132 h2 hz0 hz1 _ _ _ _ l.length rfl rfl rfl rfl (by rw [hz2]; omega) (by unfold maxLen; omega) (Nat.le_refl _) ?_)
  intro wm hown hgr
  have hB0 : Below w.heap.size w wm := (Below.refl _ _).grown hgr (Nat.le_refl _) (by simp)
  have hR : l.length = 0 ∨ RowOf wm w.heap.size 240 (l.length * 5) := (rowOf_made hown).symm
  clear hown hgr
  go_wp2
  go_loopw [4] (fun i wr => ∃ (k : Nat) (r : List Nat), k ≤ l.length ∧ i = .int .i64 k ∧ (l.length = 0 ∨ RowOf wr w.heap.size 240 (l.length * 5)) ∧ OwnE wr ((l.take k).map TEvidence.enc) w.heap.size 0 r ∧ r.Nodup ∧ (∀ b ∈ r, w.heap.size + 1 ≤ b ∧ b < wr.heap.size) ∧ Below w.heap.size w wr) (fun i _ => l.length - (intOf i).toNat)
  case atStart => exact ⟨0, [], Nat.zero_le _, rfl, hR, by simp only [List.take_zero, List.map_nil, OwnE], List.nodup_nil, by simp, hB0⟩
  case round =>
    clear hR hB0
    obtain ⟨k, r, hk, rfl, hR, h1, n1, r1, hB⟩ := hrel
    by_cases hlt : k < l.length
    · obtain ⟨b, off, rfl, hKb, cs, hcs, hr⟩ := hE k hlt
      have hr' := Rep.ext hB hK hr
      have hcs' := hcs.ext hB (hK b hKb)
      have hK' : ∀ b, K b → b < wr.heap.size := fun b h => Nat.lt_of_lt_of_le (hK b h) hB.size
      have hR' : RowOf wr w.heap.size 240 (l.length * 5) := by rcases hR with h | h <;> first | omega | exact h
      have hroom : k * 5 + 5 ≤ l.length * 5 := by have := Nat.mul_le_mul_right 5 (show k + 1 ≤ l.length from hlt); rw [Nat.add_mul] at this; omega
      clear hE hcs hr hR
      have hi : (Tryz.prog.info? 325).map (·.size) = some cs.length := by rw [Rep.length _ _ hr', TEvidence.width]; exact infoT325
      have hmem : l[k] ∈ l := List.getElem_mem hlt
      go_wp2_with (with_reducible refine ld rfl 325 _ rfl b _ rfl cs hcs' _ Tryz.underlying325 hi ?_)
      refine (iToEvidence l[k] (by have := List.sizeOf_lt_of_mem hmem; omega) (by have := szL_le TEvidence.sz hmem; unfold szs at hz; omega) _ K hK' _ hr').mono ?_
      rintro e w1 ⟨cs', bs, rfl, o1, n2, r2, hB1⟩
      have hg : w.heap.size < wr.heap.size := hR'.lt
      obtain ⟨cur, hcur, hsz⟩ := hR'.below hB1 hg
      have Hcur := Lib.hid hcur
      have Hsz := Lib.hid hsz
      clear hcur hsz
      have hl' := (Rep.length (K := fun _ => True) _ _ (Own.rep _ _ _ o1 (fun _ _ => trivial))).trans (TEvidence.width _)
      have hone := Rep.one (K := fun _ => True) _ _ (Own.rep _ _ _ o1 (fun _ _ => trivial))
      have hi' : (Tryz.prog.info? 240).map (·.size) = some cs'.length := by rw [hl']; exact infoT240
      have Hl' := Lib.hid hl'
      clear hl'
      go_wp2_with (with_reducible refine stA rfl 240 _ _ rfl w.heap.size (k * 5) rfl cs' rfl hi' hone cur 240 Hcur.out (by rw [Hl'.out, Hsz.out]; omega) ?_)
      intro w2 hst
      have R2 : RowOf w2 w.heap.size 240 (l.length * 5) := RowOf.stored ⟨cur, Hcur.out, Hsz.out⟩ hst
      have hrow := row_step TEvidence.width hlt h1 n1 r1 hg hB1 o1 n2 r2 hst
      have hB2 := hst.below (hB.trans (hB1.mono hB.size)) (Nat.le_refl _)
      obtain ⟨h1', n1', r1'⟩ := hrow
      have A1 := Lib.hid h1'; have A2 := Lib.hid n1'; have A3 := Lib.hid r1'; have A4 := Lib.hid hB2; have A5 := Lib.hid R2
      clear h1' n1' r1' hB2 R2 h1 n1 r1 hB
      go_wp2
      go_roundw
      case rel => exact ⟨k + 1, _, hlt, by go_num, .inr A5.out, A1.out, A2.out, A3.out, A4.out⟩
      case measure => simp [intOf]; omega
    · obtain rfl : k = l.length := by omega
      rw [List.take_length] at h1
      go_wp2
      go_ret
      rcases hR with h | h
      · exact ⟨_, _, [], rfl, own_nil (List.length_eq_zero_iff.1 h) (by unfold maxLen; omega) (by simp), List.nodup_nil, by simp, hB⟩
      · obtain ⟨bs, o1, n2, r2⟩ := row_done (by unfold maxLen; omega) h h1 n1 r1
        exact ⟨_, _, bs, rfl, o1, n2, r2, hB⟩
theorem toEvidence_all : ∀ N : Nat, ToEvidence N ∧ ToEvidenceS N
  | 0 => ⟨fun _ h => absurd h (Nat.not_lt_zero _), fun _ h => absurd h (Nat.not_lt_zero _)⟩
  | N + 1 => by
    obtain ⟨i0, i1⟩ := toEvidence_all N
    exact ⟨stepToEvidence N i0 i1, stepToEvidenceS N i0 i1⟩
theorem toEvidence_c (x : TEvidence) : ∀ (_ : x.sz ≤ 1048576) (w : World) (K : Nat → Prop) (_ : ∀ b, K b → b < w.heap.size) (cs : List Value) (_ : Rep w K x.enc cs),
    Calls Tryz.prog 241 #[.agg cs.toArray] w fun e w' => ∃ cs' bs, e = .returned (.agg cs'.toArray) ∧ Own w' x.enc cs' bs ∧ bs.Nodup ∧ (∀ b ∈ bs, w.heap.size ≤ b ∧ b < w'.heap.size) ∧ Below w.heap.size w w' := (toEvidence_all (SizeOf.sizeOf x + 1)).1 x (Nat.lt_succ_self _)
theorem toEvidenceS_c (l : List TEvidence) : ∀ (_ : szs TEvidence.sz l ≤ 1048576) (w : World) (K : Nat → Prop) (_ : ∀ b, K b → b < w.heap.size) (v : Value) (_ : Rep w K (.sl (l.map TEvidence.enc)) [v]),
    Calls Tryz.prog 207 #[v] w fun e w' => ∃ a cap bs, e = .returned (.slice a l.length cap) ∧ Own w' (.sl (l.map TEvidence.enc)) [.slice a l.length cap] bs ∧ bs.Nodup ∧ (∀ b ∈ bs, w.heap.size ≤ b ∧ b < w'.heap.size) ∧ Below w.heap.size w w' := (toEvidence_all (SizeOf.sizeOf l + 1)).2 l (Nat.lt_succ_self _)
theorem infoT88 : (Tryz.prog.info? 88).map (·.size) = some 3 := by kernel_rfl
theorem zinfo88 : (Tryz.prog.info? 88).map (fun i => (i.zero, i.size, i.bytes)) = some (some (.agg #[.int .i64 0, .string ⟨#[]⟩, .slice none 0 0]), 3, 48) := by kernel_rfl
theorem infoT150 : (Tryz.prog.info? 150).map (·.size) = some 3 := by kernel_rfl
def ToType (N : Nat) : Prop := ∀ (x : TType), SizeOf.sizeOf x < N → ∀ (_ : x.sz ≤ 1048576) (w : World) (K : Nat → Prop) (_ : ∀ b, K b → b < w.heap.size) (cs : List Value) (_ : Rep w K x.enc cs),
    Calls Tryz.prog 160 #[.agg cs.toArray] w fun e w' => ∃ cs' bs, e = .returned (.agg cs'.toArray) ∧ Own w' x.enc cs' bs ∧ bs.Nodup ∧ (∀ b ∈ bs, w.heap.size ≤ b ∧ b < w'.heap.size) ∧ Below w.heap.size w w'
def ToTypeS (N : Nat) : Prop := ∀ (l : List TType), SizeOf.sizeOf l < N → ∀ (_ : szs TType.sz l ≤ 1048576) (w : World) (K : Nat → Prop) (_ : ∀ b, K b → b < w.heap.size) (v : Value) (_ : Rep w K (.sl (l.map TType.enc)) [v]),
    Calls Tryz.prog 157 #[v] w fun e w' => ∃ a cap bs, e = .returned (.slice a l.length cap) ∧ Own w' (.sl (l.map TType.enc)) [.slice a l.length cap] bs ∧ bs.Nodup ∧ (∀ b ∈ bs, w.heap.size ≤ b ∧ b < w'.heap.size) ∧ Below w.heap.size w w'
set_option maxRecDepth 100000 in
set_option maxHeartbeats 1000000 in
theorem stepToType (N : Nat) (_iToType : ToType N) (iToTypeS : ToTypeS N) : ToType (N + 1) := by
  intro x hN hz w K hK cs h
  obtain ⟨c2, rfl, hKind, hName, hArgs⟩ := TType.opn h
  clear h
  have HKind := Lib.hid hKind; clear hKind
  have HName := Lib.hid hName; clear hName
  have Hz := Lib.hid hz; clear hz
  have hV0 : Below w.heap.size w (((w.alloc (.cells #[.int .i64 x.fKind, .string x.fName, c2] 150)).alloc (.cells #[.int .i64 0, .string ⟨#[]⟩, .slice none 0 0] 88)).alloc (.cells #[.int .i64 x.fKind, .string x.fName, .slice none 0 0] 88)) := (((Below.refl _ _).alloc (Nat.le_refl _) _).alloc (by simp) _).alloc (by simp <;> omega) _
  have hs0 : w.heap.size + 1 + 1 < (((w.alloc (.cells #[.int .i64 x.fKind, .string x.fName, c2] 150)).alloc (.cells #[.int .i64 0, .string ⟨#[]⟩, .slice none 0 0] 88)).alloc (.cells #[.int .i64 x.fKind, .string x.fName, .slice none 0 0] 88)).heap.size := by simp
  go_enter Tryz.func160, Tryz.ntmps160
  go_wp2_with fail
  refine (iToTypeS x.fArgs (by have := TType.lt_fArgs x; omega) (by have := Hz.out; rw [TType.sz_eq] at this; omega) _ K (fun b hb => Nat.lt_of_lt_of_le (hK b hb) hV0.size) _ (Rep.ext hV0 hK hArgs)).mono ?_
  rintro e w1 ⟨a1, p1, b1, rfl, o1, n1, r1, hB1⟩
  have hb1 := hV0.trans (hB1.mono hV0.size)
  have hc1 := (bcell hB1).1
  have hf1 := (bcell hB1).2
  have hz1 : w.heap.size + 1 + 1 < w1.heap.size := Nat.lt_of_lt_of_le hs0 hB1.size
  have hy1 : w.heap.size < w1.heap.size := by omega
  have hx1 : w.heap.size + 1 < w1.heap.size := by omega
  have s1 : ∀ b ∈ b1, w.heap.size + 1 + 1 + 1 ≤ b ∧ b < w1.heap.size := by intro b hb; have := r1 b hb; simp at this; omega
  have z1 : w.heap.size + 1 + 1 + 1 ≤ w1.heap.size := by have := hB1.size; simp at this; omega
  go_wp2
  have hV := hb1 |>.setCell (p := ⟨w.heap.size + 1 + 1, 2, none⟩) (by show w.heap.size ≤ w.heap.size + 1 + 1; omega) (.slice a1 x.fArgs.length p1) |>.setCell (p := ⟨w.heap.size + 1, 0, none⟩) (by show w.heap.size ≤ w.heap.size + 1; omega) (.int .i64 x.fKind) |>.setCell (p := ⟨w.heap.size + 1, 1, none⟩) (by show w.heap.size ≤ w.heap.size + 1; omega) (.string x.fName) |>.setCell (p := ⟨w.heap.size + 1, 2, none⟩) (by show w.heap.size ≤ w.heap.size + 1; omega) (.slice a1 x.fArgs.length p1)
  have u1 := (Up.refl (w.heap.size + 1 + 1) w1) |>.setCell ⟨w.heap.size + 1 + 1, 2, none⟩ (by show w.heap.size + 1 + 1 ≤ w.heap.size + 1 + 1; omega) (.slice a1 x.fArgs.length p1) |>.setCell ⟨w.heap.size + 1, 0, none⟩ (by show w.heap.size + 1 ≤ w.heap.size + 1 + 1; omega) (.int .i64 x.fKind) |>.setCell ⟨w.heap.size + 1, 1, none⟩ (by show w.heap.size + 1 ≤ w.heap.size + 1 + 1; omega) (.string x.fName) |>.setCell ⟨w.heap.size + 1, 2, none⟩ (by show w.heap.size + 1 ≤ w.heap.size + 1 + 1; omega) (.slice a1 x.fArgs.length p1)
  have j1 := join2 n1 s1 List.nodup_nil (b2 := []) (mid := w1.heap.size) (hi := w1.heap.size) (by simp) z1 (Nat.le_refl _)
  refine bodyPost_ret (v := .agg #[.int .i64 x.fKind, .string x.fName, .slice a1 x.fArgs.length p1]) (by simp [results, Tryz.results160, go_sem, *]) rfl ⟨[.int .i64 x.fKind, .string x.fName, .slice a1 x.fArgs.length p1], _, rfl, TType.mk_own HKind.out HName.out (u1.own o1 s1 (by omega)), j1.1, ?_, hV⟩
  intro b hb
  have := j1.2 b hb
  simp
  omega
set_option maxRecDepth 100000 in
set_option maxHeartbeats 1000000 in
theorem stepToTypeS (N : Nat) (iToType : ToType N) (_iToTypeS : ToTypeS N) : ToTypeS (N + 1) := by
  intro l hN hz w K hK v h
  have hlen : l.length ≤ 1048576 := by unfold szs at hz; omega
  obtain ⟨a, cap, rfl, hc, hm, -, hE⟩ := open_sl TType.width h
  unfold maxLen at hm
  clear h
  obtain ⟨i0, h2, hz0, hz1, hz2⟩ := info_parts zinfo88
  go_enter Tryz.func157, Tryz.ntmps157
  go_wp2_with (at_make; refine wpList_make_full _ rfl _ _ 86 rfl w.heap.size 88 i0 _ 3 Tryz.underlying86 h2 hz0 hz1 _ _ _ _ l.length rfl rfl rfl rfl (by rw [hz2]; omega) (by unfold maxLen; omega) (Nat.le_refl _) ?_)
  intro wm hown hgr
  have hB0 : Below w.heap.size w wm := (Below.refl _ _).grown hgr (Nat.le_refl _) (by simp)
  have hR : l.length = 0 ∨ RowOf wm w.heap.size 88 (l.length * 3) := (rowOf_made hown).symm
  clear hown hgr
  go_wp2
  go_loopw [4] (fun i wr => ∃ (k : Nat) (r : List Nat), k ≤ l.length ∧ i = .int .i64 k ∧ (l.length = 0 ∨ RowOf wr w.heap.size 88 (l.length * 3)) ∧ OwnE wr ((l.take k).map TType.enc) w.heap.size 0 r ∧ r.Nodup ∧ (∀ b ∈ r, w.heap.size + 1 ≤ b ∧ b < wr.heap.size) ∧ Below w.heap.size w wr) (fun i _ => l.length - (intOf i).toNat)
  case atStart => exact ⟨0, [], Nat.zero_le _, rfl, hR, by simp only [List.take_zero, List.map_nil, OwnE], List.nodup_nil, by simp, hB0⟩
  case round =>
    clear hR hB0
    obtain ⟨k, r, hk, rfl, hR, h1, n1, r1, hB⟩ := hrel
    by_cases hlt : k < l.length
    · obtain ⟨b, off, rfl, hKb, cs, hcs, hr⟩ := hE k hlt
      have hr' := Rep.ext hB hK hr
      have hcs' := hcs.ext hB (hK b hKb)
      have hK' : ∀ b, K b → b < wr.heap.size := fun b h => Nat.lt_of_lt_of_le (hK b h) hB.size
      have hR' : RowOf wr w.heap.size 88 (l.length * 3) := by rcases hR with h | h <;> first | omega | exact h
      have hroom : k * 3 + 3 ≤ l.length * 3 := by have := Nat.mul_le_mul_right 3 (show k + 1 ≤ l.length from hlt); rw [Nat.add_mul] at this; omega
      clear hE hcs hr hR
      have hi : (Tryz.prog.info? 150).map (·.size) = some cs.length := by rw [Rep.length _ _ hr', TType.width]; exact infoT150
      have hmem : l[k] ∈ l := List.getElem_mem hlt
      go_wp2_with (with_reducible refine ld rfl 150 _ rfl b _ rfl cs hcs' _ Tryz.underlying150 hi ?_)
      refine (iToType l[k] (by have := List.sizeOf_lt_of_mem hmem; omega) (by have := szL_le TType.sz hmem; unfold szs at hz; omega) _ K hK' _ hr').mono ?_
      rintro e w1 ⟨cs', bs, rfl, o1, n2, r2, hB1⟩
      have hg : w.heap.size < wr.heap.size := hR'.lt
      obtain ⟨cur, hcur, hsz⟩ := hR'.below hB1 hg
      have Hcur := Lib.hid hcur
      have Hsz := Lib.hid hsz
      clear hcur hsz
      have hl' := (Rep.length (K := fun _ => True) _ _ (Own.rep _ _ _ o1 (fun _ _ => trivial))).trans (TType.width _)
      have hone := Rep.one (K := fun _ => True) _ _ (Own.rep _ _ _ o1 (fun _ _ => trivial))
      have hi' : (Tryz.prog.info? 88).map (·.size) = some cs'.length := by rw [hl']; exact infoT88
      have Hl' := Lib.hid hl'
      clear hl'
      go_wp2_with (with_reducible refine stA rfl 88 _ _ rfl w.heap.size (k * 3) rfl cs' rfl hi' hone cur 88 Hcur.out (by rw [Hl'.out, Hsz.out]; omega) ?_)
      intro w2 hst
      have R2 : RowOf w2 w.heap.size 88 (l.length * 3) := RowOf.stored ⟨cur, Hcur.out, Hsz.out⟩ hst
      have hrow := row_step TType.width hlt h1 n1 r1 hg hB1 o1 n2 r2 hst
      have hB2 := hst.below (hB.trans (hB1.mono hB.size)) (Nat.le_refl _)
      obtain ⟨h1', n1', r1'⟩ := hrow
      have A1 := Lib.hid h1'; have A2 := Lib.hid n1'; have A3 := Lib.hid r1'; have A4 := Lib.hid hB2; have A5 := Lib.hid R2
      clear h1' n1' r1' hB2 R2 h1 n1 r1 hB
      go_wp2
      go_roundw
      case rel => exact ⟨k + 1, _, hlt, by go_num, .inr A5.out, A1.out, A2.out, A3.out, A4.out⟩
      case measure => simp [intOf]; omega
    · obtain rfl : k = l.length := by omega
      rw [List.take_length] at h1
      go_wp2
      go_ret
      rcases hR with h | h
      · exact ⟨_, _, [], rfl, own_nil (List.length_eq_zero_iff.1 h) (by unfold maxLen; omega) (by simp), List.nodup_nil, by simp, hB⟩
      · obtain ⟨bs, o1, n2, r2⟩ := row_done (by unfold maxLen; omega) h h1 n1 r1
        exact ⟨_, _, bs, rfl, o1, n2, r2, hB⟩
theorem toType_all : ∀ N : Nat, ToType N ∧ ToTypeS N
  | 0 => ⟨fun _ h => absurd h (Nat.not_lt_zero _), fun _ h => absurd h (Nat.not_lt_zero _)⟩
  | N + 1 => by
    obtain ⟨i0, i1⟩ := toType_all N
    exact ⟨stepToType N i0 i1, stepToTypeS N i0 i1⟩
theorem toType_c (x : TType) : ∀ (_ : x.sz ≤ 1048576) (w : World) (K : Nat → Prop) (_ : ∀ b, K b → b < w.heap.size) (cs : List Value) (_ : Rep w K x.enc cs),
    Calls Tryz.prog 160 #[.agg cs.toArray] w fun e w' => ∃ cs' bs, e = .returned (.agg cs'.toArray) ∧ Own w' x.enc cs' bs ∧ bs.Nodup ∧ (∀ b ∈ bs, w.heap.size ≤ b ∧ b < w'.heap.size) ∧ Below w.heap.size w w' := (toType_all (SizeOf.sizeOf x + 1)).1 x (Nat.lt_succ_self _)
theorem toTypeS_c (l : List TType) : ∀ (_ : szs TType.sz l ≤ 1048576) (w : World) (K : Nat → Prop) (_ : ∀ b, K b → b < w.heap.size) (v : Value) (_ : Rep w K (.sl (l.map TType.enc)) [v]),
    Calls Tryz.prog 157 #[v] w fun e w' => ∃ a cap bs, e = .returned (.slice a l.length cap) ∧ Own w' (.sl (l.map TType.enc)) [.slice a l.length cap] bs ∧ bs.Nodup ∧ (∀ b ∈ bs, w.heap.size ≤ b ∧ b < w'.heap.size) ∧ Below w.heap.size w w' := (toType_all (SizeOf.sizeOf l + 1)).2 l (Nat.lt_succ_self _)
theorem infoT110 : (Tryz.prog.info? 110).map (·.size) = some 4 := by kernel_rfl
theorem zinfo110 : (Tryz.prog.info? 110).map (fun i => (i.zero, i.size, i.bytes)) = some (some (.agg #[.string ⟨#[]⟩, .int .i64 0, .string ⟨#[]⟩, .slice none 0 0]), 4, 64) := by kernel_rfl
theorem infoT195 : (Tryz.prog.info? 195).map (·.size) = some 4 := by kernel_rfl
set_option maxRecDepth 100000 in
set_option maxHeartbeats 1000000 in
theorem toBound_c (x : TBound) : ∀ (_ : x.sz ≤ 1048576) (w : World) (K : Nat → Prop) (_ : ∀ b, K b → b < w.heap.size) (cs : List Value) (_ : Rep w K x.enc cs),
    Calls Tryz.prog 179 #[.agg cs.toArray] w fun e w' => ∃ cs' bs, e = .returned (.agg cs'.toArray) ∧ Own w' x.enc cs' bs ∧ bs.Nodup ∧ (∀ b ∈ bs, w.heap.size ≤ b ∧ b < w'.heap.size) ∧ Below w.heap.size w w' := by
  intro hz w K hK cs h
  obtain ⟨c1, c2, c3, rfl, hTrait, hType⟩ := TBound.opn h
  clear h
  have HTrait := Lib.hid hTrait; clear hTrait
  have Hz := Lib.hid hz; clear hz
  have hV0 : Below w.heap.size w (((w.alloc (.cells #[.string x.fTrait, c1, c2, c3] 195)).alloc (.cells #[.string ⟨#[]⟩, .int .i64 0, .string ⟨#[]⟩, .slice none 0 0] 110)).alloc (.cells #[.string x.fTrait, .int .i64 0, .string ⟨#[]⟩, .slice none 0 0] 110)) := (((Below.refl _ _).alloc (Nat.le_refl _) _).alloc (by simp) _).alloc (by simp <;> omega) _
  have hs0 : w.heap.size + 1 + 1 < (((w.alloc (.cells #[.string x.fTrait, c1, c2, c3] 195)).alloc (.cells #[.string ⟨#[]⟩, .int .i64 0, .string ⟨#[]⟩, .slice none 0 0] 110)).alloc (.cells #[.string x.fTrait, .int .i64 0, .string ⟨#[]⟩, .slice none 0 0] 110)).heap.size := by simp
  go_enter Tryz.func179, Tryz.ntmps179
  go_wp2_with fail
  refine (toType_c x.fType (by have := Hz.out; rw [TBound.sz_eq] at this; omega) _ K (fun b hb => Nat.lt_of_lt_of_le (hK b hb) hV0.size) _ (Rep.ext hV0 hK hType)).mono ?_
  rintro e w1 ⟨cs1, b1, rfl, o1, n1, r1, hB1⟩
  obtain ⟨d1, d2, d3, rfl⟩ := len3 ((Rep.length (K := fun _ => True) _ _ (Own.rep _ _ _ o1 (fun _ _ => trivial))).trans (TType.width _))
  have one1 := Rep.one (K := fun _ => True) _ _ (Own.rep _ _ _ o1 (fun _ _ => trivial))
  have qd1 := st_one (one1 d1 (by simp))
  have qd2 := st_one (one1 d2 (by simp))
  have qd3 := st_one (one1 d3 (by simp))
  have hb1 := hV0.trans (hB1.mono hV0.size)
  have hc1 := (bcell hB1).1
  have hf1 := (bcell hB1).2
  have hz1 : w.heap.size + 1 + 1 < w1.heap.size := Nat.lt_of_lt_of_le hs0 hB1.size
  have hy1 : w.heap.size < w1.heap.size := by omega
  have hx1 : w.heap.size + 1 < w1.heap.size := by omega
  have s1 : ∀ b ∈ b1, w.heap.size + 1 + 1 + 1 ≤ b ∧ b < w1.heap.size := by intro b hb; have := r1 b hb; simp at this; omega
  have z1 : w.heap.size + 1 + 1 + 1 ≤ w1.heap.size := by have := hB1.size; simp at this; omega
  go_wp2
  have hV := hb1 |>.setCell (p := ⟨w.heap.size + 1 + 1, 1, none⟩) (by show w.heap.size ≤ w.heap.size + 1 + 1; omega) (d1) |>.setCell (p := ⟨w.heap.size + 1 + 1, 2, none⟩) (by show w.heap.size ≤ w.heap.size + 1 + 1; omega) (d2) |>.setCell (p := ⟨w.heap.size + 1 + 1, 3, none⟩) (by show w.heap.size ≤ w.heap.size + 1 + 1; omega) (d3) |>.setCell (p := ⟨w.heap.size + 1, 0, none⟩) (by show w.heap.size ≤ w.heap.size + 1; omega) (.string x.fTrait) |>.setCell (p := ⟨w.heap.size + 1, 1, none⟩) (by show w.heap.size ≤ w.heap.size + 1; omega) (d1) |>.setCell (p := ⟨w.heap.size + 1, 2, none⟩) (by show w.heap.size ≤ w.heap.size + 1; omega) (d2) |>.setCell (p := ⟨w.heap.size + 1, 3, none⟩) (by show w.heap.size ≤ w.heap.size + 1; omega) (d3)
  have u1 := (Up.refl (w.heap.size + 1 + 1) w1) |>.setCell ⟨w.heap.size + 1 + 1, 1, none⟩ (by show w.heap.size + 1 + 1 ≤ w.heap.size + 1 + 1; omega) (d1) |>.setCell ⟨w.heap.size + 1 + 1, 2, none⟩ (by show w.heap.size + 1 + 1 ≤ w.heap.size + 1 + 1; omega) (d2) |>.setCell ⟨w.heap.size + 1 + 1, 3, none⟩ (by show w.heap.size + 1 + 1 ≤ w.heap.size + 1 + 1; omega) (d3) |>.setCell ⟨w.heap.size + 1, 0, none⟩ (by show w.heap.size + 1 ≤ w.heap.size + 1 + 1; omega) (.string x.fTrait) |>.setCell ⟨w.heap.size + 1, 1, none⟩ (by show w.heap.size + 1 ≤ w.heap.size + 1 + 1; omega) (d1) |>.setCell ⟨w.heap.size + 1, 2, none⟩ (by show w.heap.size + 1 ≤ w.heap.size + 1 + 1; omega) (d2) |>.setCell ⟨w.heap.size + 1, 3, none⟩ (by show w.heap.size + 1 ≤ w.heap.size + 1 + 1; omega) (d3)
  have j1 := join2 n1 s1 List.nodup_nil (b2 := []) (mid := w1.heap.size) (hi := w1.heap.size) (by simp) z1 (Nat.le_refl _)
  refine bodyPost_ret (v := .agg #[.string x.fTrait, d1, d2, d3]) (by simp [results, Tryz.results179, go_sem, *]) rfl ⟨[.string x.fTrait, d1, d2, d3], _, rfl, TBound.mk_own HTrait.out (u1.own o1 s1 (by omega)), j1.1, ?_, hV⟩
  intro b hb
  have := j1.2 b hb
  simp
  omega
set_option maxRecDepth 100000 in
set_option maxHeartbeats 1000000 in
theorem toBoundS_c (l : List TBound) : ∀ (_ : szs TBound.sz l ≤ 1048576) (w : World) (K : Nat → Prop) (_ : ∀ b, K b → b < w.heap.size) (v : Value) (_ : Rep w K (.sl (l.map TBound.enc)) [v]),
    Calls Tryz.prog 253 #[v] w fun e w' => ∃ a cap bs, e = .returned (.slice a l.length cap) ∧ Own w' (.sl (l.map TBound.enc)) [.slice a l.length cap] bs ∧ bs.Nodup ∧ (∀ b ∈ bs, w.heap.size ≤ b ∧ b < w'.heap.size) ∧ Below w.heap.size w w' := by
  intro hz w K hK v h
  have hlen : l.length ≤ 1048576 := by unfold szs at hz; omega
  obtain ⟨a, cap, rfl, hc, hm, -, hE⟩ := open_sl TBound.width h
  unfold maxLen at hm
  clear h
  obtain ⟨i0, h2, hz0, hz1, hz2⟩ := info_parts zinfo110
  go_enter Tryz.func253, Tryz.ntmps253
  go_wp2_with (at_make; refine wpList_make_full _ rfl _ _ 130 rfl w.heap.size 110 i0 _ 4 Tryz.underlying130 h2 hz0 hz1 _ _ _ _ l.length rfl rfl rfl rfl (by rw [hz2]; omega) (by unfold maxLen; omega) (Nat.le_refl _) ?_)
  intro wm hown hgr
  have hB0 : Below w.heap.size w wm := (Below.refl _ _).grown hgr (Nat.le_refl _) (by simp)
  have hR : l.length = 0 ∨ RowOf wm w.heap.size 110 (l.length * 4) := (rowOf_made hown).symm
  clear hown hgr
  go_wp2
  go_loopw [4] (fun i wr => ∃ (k : Nat) (r : List Nat), k ≤ l.length ∧ i = .int .i64 k ∧ (l.length = 0 ∨ RowOf wr w.heap.size 110 (l.length * 4)) ∧ OwnE wr ((l.take k).map TBound.enc) w.heap.size 0 r ∧ r.Nodup ∧ (∀ b ∈ r, w.heap.size + 1 ≤ b ∧ b < wr.heap.size) ∧ Below w.heap.size w wr) (fun i _ => l.length - (intOf i).toNat)
  case atStart => exact ⟨0, [], Nat.zero_le _, rfl, hR, by simp only [List.take_zero, List.map_nil, OwnE], List.nodup_nil, by simp, hB0⟩
  case round =>
    clear hR hB0
    obtain ⟨k, r, hk, rfl, hR, h1, n1, r1, hB⟩ := hrel
    by_cases hlt : k < l.length
    · obtain ⟨b, off, rfl, hKb, cs, hcs, hr⟩ := hE k hlt
      have hr' := Rep.ext hB hK hr
      have hcs' := hcs.ext hB (hK b hKb)
      have hK' : ∀ b, K b → b < wr.heap.size := fun b h => Nat.lt_of_lt_of_le (hK b h) hB.size
      have hR' : RowOf wr w.heap.size 110 (l.length * 4) := by rcases hR with h | h <;> first | omega | exact h
      have hroom : k * 4 + 4 ≤ l.length * 4 := by have := Nat.mul_le_mul_right 4 (show k + 1 ≤ l.length from hlt); rw [Nat.add_mul] at this; omega
      clear hE hcs hr hR
      have hi : (Tryz.prog.info? 195).map (·.size) = some cs.length := by rw [Rep.length _ _ hr', TBound.width]; exact infoT195
      have hmem : l[k] ∈ l := List.getElem_mem hlt
      go_wp2_with (with_reducible refine ld rfl 195 _ rfl b _ rfl cs hcs' _ Tryz.underlying195 hi ?_)
      refine (toBound_c l[k] (by have := szL_le TBound.sz hmem; unfold szs at hz; omega) _ K hK' _ hr').mono ?_
      rintro e w1 ⟨cs', bs, rfl, o1, n2, r2, hB1⟩
      have hg : w.heap.size < wr.heap.size := hR'.lt
      obtain ⟨cur, hcur, hsz⟩ := hR'.below hB1 hg
      have Hcur := Lib.hid hcur
      have Hsz := Lib.hid hsz
      clear hcur hsz
      have hl' := (Rep.length (K := fun _ => True) _ _ (Own.rep _ _ _ o1 (fun _ _ => trivial))).trans (TBound.width _)
      have hone := Rep.one (K := fun _ => True) _ _ (Own.rep _ _ _ o1 (fun _ _ => trivial))
      have hi' : (Tryz.prog.info? 110).map (·.size) = some cs'.length := by rw [hl']; exact infoT110
      have Hl' := Lib.hid hl'
      clear hl'
      go_wp2_with (with_reducible refine stA rfl 110 _ _ rfl w.heap.size (k * 4) rfl cs' rfl hi' hone cur 110 Hcur.out (by rw [Hl'.out, Hsz.out]; omega) ?_)
      intro w2 hst
      have R2 : RowOf w2 w.heap.size 110 (l.length * 4) := RowOf.stored ⟨cur, Hcur.out, Hsz.out⟩ hst
      have hrow := row_step TBound.width hlt h1 n1 r1 hg hB1 o1 n2 r2 hst
      have hB2 := hst.below (hB.trans (hB1.mono hB.size)) (Nat.le_refl _)
      obtain ⟨h1', n1', r1'⟩ := hrow
      have A1 := Lib.hid h1'; have A2 := Lib.hid n1'; have A3 := Lib.hid r1'; have A4 := Lib.hid hB2; have A5 := Lib.hid R2
      clear h1' n1' r1' hB2 R2 h1 n1 r1 hB
      go_wp2
      go_roundw
      case rel => exact ⟨k + 1, _, hlt, by go_num, .inr A5.out, A1.out, A2.out, A3.out, A4.out⟩
      case measure => simp [intOf]; omega
    · obtain rfl : k = l.length := by omega
      rw [List.take_length] at h1
      go_wp2
      go_ret
      rcases hR with h | h
      · exact ⟨_, _, [], rfl, own_nil (List.length_eq_zero_iff.1 h) (by unfold maxLen; omega) (by simp), List.nodup_nil, by simp, hB⟩
      · obtain ⟨bs, o1, n2, r2⟩ := row_done (by unfold maxLen; omega) h h1 n1 r1
        exact ⟨_, _, bs, rfl, o1, n2, r2, hB⟩
theorem infoT242 : (Tryz.prog.info? 242).map (·.size) = some 13 := by kernel_rfl
theorem zinfo242 : (Tryz.prog.info? 242).map (fun i => (i.zero, i.size, i.bytes)) = some (some (.agg #[.string ⟨#[]⟩, .slice none 0 0, .int .i64 0, .string ⟨#[]⟩, .string ⟨#[]⟩, .int .i64 0, .int .i64 0, .string ⟨#[]⟩, .slice none 0 0, .slice none 0 0, .slice none 0 0, .slice none 0 0, .slice none 0 0]), 13, 232) := by kernel_rfl
theorem infoT328 : (Tryz.prog.info? 328).map (·.size) = some 13 := by kernel_rfl
theorem infoT136 : (Tryz.prog.info? 136).map (·.size) = some 11 := by kernel_rfl
theorem zinfo136 : (Tryz.prog.info? 136).map (fun i => (i.zero, i.size, i.bytes)) = some (some (.agg #[.int .i64 0, .string ⟨#[]⟩, .string ⟨#[]⟩, .int .i64 0, .int .i64 0, .string ⟨#[]⟩, .slice none 0 0, .slice none 0 0, .slice none 0 0, .slice none 0 0, .slice none 0 0]), 11, 192) := by kernel_rfl
theorem infoT155 : (Tryz.prog.info? 155).map (·.size) = some 11 := by kernel_rfl
def ToCoreArm (N : Nat) : Prop := ∀ (x : TCoreArm), SizeOf.sizeOf x < N → ∀ (_ : x.sz ≤ 1048576) (w : World) (K : Nat → Prop) (_ : ∀ b, K b → b < w.heap.size) (cs : List Value) (_ : Rep w K x.enc cs),
    Calls Tryz.prog 242 #[.agg cs.toArray] w fun e w' => ∃ cs' bs, e = .returned (.agg cs'.toArray) ∧ Own w' x.enc cs' bs ∧ bs.Nodup ∧ (∀ b ∈ bs, w.heap.size ≤ b ∧ b < w'.heap.size) ∧ Below w.heap.size w w'
def ToCoreArmS (N : Nat) : Prop := ∀ (l : List TCoreArm), SizeOf.sizeOf l < N → ∀ (_ : szs TCoreArm.sz l ≤ 1048576) (w : World) (K : Nat → Prop) (_ : ∀ b, K b → b < w.heap.size) (v : Value) (_ : Rep w K (.sl (l.map TCoreArm.enc)) [v]),
    Calls Tryz.prog 209 #[v] w fun e w' => ∃ a cap bs, e = .returned (.slice a l.length cap) ∧ Own w' (.sl (l.map TCoreArm.enc)) [.slice a l.length cap] bs ∧ bs.Nodup ∧ (∀ b ∈ bs, w.heap.size ≤ b ∧ b < w'.heap.size) ∧ Below w.heap.size w w'
def ToCore (N : Nat) : Prop := ∀ (x : TCore), SizeOf.sizeOf x < N → ∀ (_ : x.sz ≤ 1048576) (w : World) (K : Nat → Prop) (_ : ∀ b, K b → b < w.heap.size) (cs : List Value) (_ : Rep w K x.enc cs),
    Calls Tryz.prog 159 #[.agg cs.toArray] w fun e w' => ∃ cs' bs, e = .returned (.agg cs'.toArray) ∧ Own w' x.enc cs' bs ∧ bs.Nodup ∧ (∀ b ∈ bs, w.heap.size ≤ b ∧ b < w'.heap.size) ∧ Below w.heap.size w w'
def ToCoreS (N : Nat) : Prop := ∀ (l : List TCore), SizeOf.sizeOf l < N → ∀ (_ : szs TCore.sz l ≤ 1048576) (w : World) (K : Nat → Prop) (_ : ∀ b, K b → b < w.heap.size) (v : Value) (_ : Rep w K (.sl (l.map TCore.enc)) [v]),
    Calls Tryz.prog 208 #[v] w fun e w' => ∃ a cap bs, e = .returned (.slice a l.length cap) ∧ Own w' (.sl (l.map TCore.enc)) [.slice a l.length cap] bs ∧ bs.Nodup ∧ (∀ b ∈ bs, w.heap.size ≤ b ∧ b < w'.heap.size) ∧ Below w.heap.size w w'
set_option maxRecDepth 100000 in
set_option maxHeartbeats 1000000 in
theorem stepToCoreArm (N : Nat) (_iToCoreArm : ToCoreArm N) (_iToCoreArmS : ToCoreArmS N) (iToCore : ToCore N) (_iToCoreS : ToCoreS N) : ToCoreArm (N + 1) := by
  intro x hN hz w K hK cs h
  obtain ⟨c1, c2, c3, c4, c5, c6, c7, c8, c9, c10, c11, c12, rfl, hConstructor, hVars, hBody⟩ := TCoreArm.opn h
  clear h
  have HConstructor := Lib.hid hConstructor; clear hConstructor
  have Hz := Lib.hid hz; clear hz
  have hV0 : Below w.heap.size w (((w.alloc (.cells #[.string x.fConstructor, c1, c2, c3, c4, c5, c6, c7, c8, c9, c10, c11, c12] 328)).alloc (.cells #[.string ⟨#[]⟩, .slice none 0 0, .int .i64 0, .string ⟨#[]⟩, .string ⟨#[]⟩, .int .i64 0, .int .i64 0, .string ⟨#[]⟩, .slice none 0 0, .slice none 0 0, .slice none 0 0, .slice none 0 0, .slice none 0 0] 242)).alloc (.cells #[.string x.fConstructor, .slice none 0 0, .int .i64 0, .string ⟨#[]⟩, .string ⟨#[]⟩, .int .i64 0, .int .i64 0, .string ⟨#[]⟩, .slice none 0 0, .slice none 0 0, .slice none 0 0, .slice none 0 0, .slice none 0 0] 242)) := (((Below.refl _ _).alloc (Nat.le_refl _) _).alloc (by simp) _).alloc (by simp <;> omega) _
  have hs0 : w.heap.size + 1 + 1 < (((w.alloc (.cells #[.string x.fConstructor, c1, c2, c3, c4, c5, c6, c7, c8, c9, c10, c11, c12] 328)).alloc (.cells #[.string ⟨#[]⟩, .slice none 0 0, .int .i64 0, .string ⟨#[]⟩, .string ⟨#[]⟩, .int .i64 0, .int .i64 0, .string ⟨#[]⟩, .slice none 0 0, .slice none 0 0, .slice none 0 0, .slice none 0 0, .slice none 0 0] 242)).alloc (.cells #[.string x.fConstructor, .slice none 0 0, .int .i64 0, .string ⟨#[]⟩, .string ⟨#[]⟩, .int .i64 0, .int .i64 0, .string ⟨#[]⟩, .slice none 0 0, .slice none 0 0, .slice none 0 0, .slice none 0 0, .slice none 0 0] 242)).heap.size := by simp
  go_enter Tryz.func242, Tryz.ntmps242
  go_wp2_with fail
  refine (toStringS_c x.fVars (by have := Hz.out; rw [TCoreArm.sz_eq] at this; omega) _ K (fun b hb => Nat.lt_of_lt_of_le (hK b hb) hV0.size) _ (Rep.ext hV0 hK hVars)).mono ?_
  rintro e w1 ⟨a1, p1, b1, rfl, o1, n1, r1, hB1⟩
  have hb1 := hV0.trans (hB1.mono hV0.size)
  have hc1 := (bcell hB1).1
  have hf1 := (bcell hB1).2
  have hz1 : w.heap.size + 1 + 1 < w1.heap.size := Nat.lt_of_lt_of_le hs0 hB1.size
  have hy1 : w.heap.size < w1.heap.size := by omega
  have hx1 : w.heap.size + 1 < w1.heap.size := by omega
  have s1 : ∀ b ∈ b1, w.heap.size + 1 + 1 + 1 ≤ b ∧ b < w1.heap.size := by intro b hb; have := r1 b hb; simp at this; omega
  have z1 : w.heap.size + 1 + 1 + 1 ≤ w1.heap.size := by have := hB1.size; simp at this; omega
  have hV1 := hb1 |>.setCell (p := ⟨w.heap.size + 1 + 1, 1, none⟩) (by show w.heap.size ≤ w.heap.size + 1 + 1; omega) (.slice a1 x.fVars.length p1)
  have hs1 : w.heap.size + 1 + 1 < _ := Nat.lt_of_lt_of_le hz1 ((Up.refl (w.heap.size + 1 + 1) w1) |>.setCell ⟨w.heap.size + 1 + 1, 1, none⟩ (Nat.le_refl _) (.slice a1 x.fVars.length p1)).size
  have u1 := (Up.refl (w.heap.size + 1 + 1) w1) |>.setCell ⟨w.heap.size + 1 + 1, 1, none⟩ (Nat.le_refl _) (.slice a1 x.fVars.length p1)
  go_wp2_with fail
  refine (iToCore x.fBody (by have := TCoreArm.lt_fBody x; omega) (by have := Hz.out; rw [TCoreArm.sz_eq] at this; omega) _ K (fun b hb => Nat.lt_of_lt_of_le (hK b hb) hV1.size) _ (Rep.ext hV1 hK hBody)).mono ?_
  rintro e w2 ⟨cs2, b2, rfl, o2, n2, r2, hB2⟩
  obtain ⟨d2, d3, d4, d5, d6, d7, d8, d9, d10, d11, d12, rfl⟩ := len11 ((Rep.length (K := fun _ => True) _ _ (Own.rep _ _ _ o2 (fun _ _ => trivial))).trans (TCore.width _))
  have one2 := Rep.one (K := fun _ => True) _ _ (Own.rep _ _ _ o2 (fun _ _ => trivial))
  have qd2 := st_one (one2 d2 (by simp))
  have qd3 := st_one (one2 d3 (by simp))
  have qd4 := st_one (one2 d4 (by simp))
  have qd5 := st_one (one2 d5 (by simp))
  have qd6 := st_one (one2 d6 (by simp))
  have qd7 := st_one (one2 d7 (by simp))
  have qd8 := st_one (one2 d8 (by simp))
  have qd9 := st_one (one2 d9 (by simp))
  have qd10 := st_one (one2 d10 (by simp))
  have qd11 := st_one (one2 d11 (by simp))
  have qd12 := st_one (one2 d12 (by simp))
  have hb2 := hV1.trans (hB2.mono hV1.size)
  have hc2 := (bcell hB2).1
  have hf2 := (bcell hB2).2
  have hz2 : w.heap.size + 1 + 1 < w2.heap.size := Nat.lt_of_lt_of_le hs1 hB2.size
  have hy2 : w.heap.size < w2.heap.size := by omega
  have hx2 : w.heap.size + 1 < w2.heap.size := by omega
  have s2 : ∀ b ∈ b2, w1.heap.size ≤ b ∧ b < w2.heap.size := by intro b hb; have := r2 b hb; simp at this; omega
  have z2 : w1.heap.size ≤ w2.heap.size := by have := hB2.size; simp at this; omega
  have u1 := u1.below hB2
  go_wp2
  have hV := hb2 |>.setCell (p := ⟨w.heap.size + 1 + 1, 2, none⟩) (by show w.heap.size ≤ w.heap.size + 1 + 1; omega) (d2) |>.setCell (p := ⟨w.heap.size + 1 + 1, 3, none⟩) (by show w.heap.size ≤ w.heap.size + 1 + 1; omega) (d3) |>.setCell (p := ⟨w.heap.size + 1 + 1, 4, none⟩) (by show w.heap.size ≤ w.heap.size + 1 + 1; omega) (d4) |>.setCell (p := ⟨w.heap.size + 1 + 1, 5, none⟩) (by show w.heap.size ≤ w.heap.size + 1 + 1; omega) (d5) |>.setCell (p := ⟨w.heap.size + 1 + 1, 6, none⟩) (by show w.heap.size ≤ w.heap.size + 1 + 1; omega) (d6) |>.setCell (p := ⟨w.heap.size + 1 + 1, 7, none⟩) (by show w.heap.size ≤ w.heap.size + 1 + 1; omega) (d7) |>.setCell (p := ⟨w.heap.size + 1 + 1, 8, none⟩) (by show w.heap.size ≤ w.heap.size + 1 + 1; omega) (d8) |>.setCell (p := ⟨w.heap.size + 1 + 1, 9, none⟩) (by show w.heap.size ≤ w.heap.size + 1 + 1; omega) (d9) |>.setCell (p := ⟨w.heap.size + 1 + 1, 10, none⟩) (by show w.heap.size ≤ w.heap.size + 1 + 1; omega) (d10) |>.setCell (p := ⟨w.heap.size + 1 + 1, 11, none⟩) (by show w.heap.size ≤ w.heap.size + 1 + 1; omega) (d11) |>.setCell (p := ⟨w.heap.size + 1 + 1, 12, none⟩) (by show w.heap.size ≤ w.heap.size + 1 + 1; omega) (d12) |>.setCell (p := ⟨w.heap.size + 1, 0, none⟩) (by show w.heap.size ≤ w.heap.size + 1; omega) (.string x.fConstructor) |>.setCell (p := ⟨w.heap.size + 1, 1, none⟩) (by show w.heap.size ≤ w.heap.size + 1; omega) (.slice a1 x.fVars.length p1) |>.setCell (p := ⟨w.heap.size + 1, 2, none⟩) (by show w.heap.size ≤ w.heap.size + 1; omega) (d2) |>.setCell (p := ⟨w.heap.size + 1, 3, none⟩) (by show w.heap.size ≤ w.heap.size + 1; omega) (d3) |>.setCell (p := ⟨w.heap.size + 1, 4, none⟩) (by show w.heap.size ≤ w.heap.size + 1; omega) (d4) |>.setCell (p := ⟨w.heap.size + 1, 5, none⟩) (by show w.heap.size ≤ w.heap.size + 1; omega) (d5) |>.setCell (p := ⟨w.heap.size + 1, 6, none⟩) (by show w.heap.size ≤ w.heap.size + 1; omega) (d6) |>.setCell (p := ⟨w.heap.size + 1, 7, none⟩) (by show w.heap.size ≤ w.heap.size + 1; omega) (d7) |>.setCell (p := ⟨w.heap.size + 1, 8, none⟩) (by show w.heap.size ≤ w.heap.size + 1; omega) (d8) |>.setCell (p := ⟨w.heap.size + 1, 9, none⟩) (by show w.heap.size ≤ w.heap.size + 1; omega) (d9) |>.setCell (p := ⟨w.heap.size + 1, 10, none⟩) (by show w.heap.size ≤ w.heap.size + 1; omega) (d10) |>.setCell (p := ⟨w.heap.size + 1, 11, none⟩) (by show w.heap.size ≤ w.heap.size + 1; omega) (d11) |>.setCell (p := ⟨w.heap.size + 1, 12, none⟩) (by show w.heap.size ≤ w.heap.size + 1; omega) (d12)
  have u1 := u1 |>.setCell ⟨w.heap.size + 1 + 1, 2, none⟩ (by show w.heap.size + 1 + 1 ≤ w.heap.size + 1 + 1; omega) (d2) |>.setCell ⟨w.heap.size + 1 + 1, 3, none⟩ (by show w.heap.size + 1 + 1 ≤ w.heap.size + 1 + 1; omega) (d3) |>.setCell ⟨w.heap.size + 1 + 1, 4, none⟩ (by show w.heap.size + 1 + 1 ≤ w.heap.size + 1 + 1; omega) (d4) |>.setCell ⟨w.heap.size + 1 + 1, 5, none⟩ (by show w.heap.size + 1 + 1 ≤ w.heap.size + 1 + 1; omega) (d5) |>.setCell ⟨w.heap.size + 1 + 1, 6, none⟩ (by show w.heap.size + 1 + 1 ≤ w.heap.size + 1 + 1; omega) (d6) |>.setCell ⟨w.heap.size + 1 + 1, 7, none⟩ (by show w.heap.size + 1 + 1 ≤ w.heap.size + 1 + 1; omega) (d7) |>.setCell ⟨w.heap.size + 1 + 1, 8, none⟩ (by show w.heap.size + 1 + 1 ≤ w.heap.size + 1 + 1; omega) (d8) |>.setCell ⟨w.heap.size + 1 + 1, 9, none⟩ (by show w.heap.size + 1 + 1 ≤ w.heap.size + 1 + 1; omega) (d9) |>.setCell ⟨w.heap.size + 1 + 1, 10, none⟩ (by show w.heap.size + 1 + 1 ≤ w.heap.size + 1 + 1; omega) (d10) |>.setCell ⟨w.heap.size + 1 + 1, 11, none⟩ (by show w.heap.size + 1 + 1 ≤ w.heap.size + 1 + 1; omega) (d11) |>.setCell ⟨w.heap.size + 1 + 1, 12, none⟩ (by show w.heap.size + 1 + 1 ≤ w.heap.size + 1 + 1; omega) (d12) |>.setCell ⟨w.heap.size + 1, 0, none⟩ (by show w.heap.size + 1 ≤ w.heap.size + 1 + 1; omega) (.string x.fConstructor) |>.setCell ⟨w.heap.size + 1, 1, none⟩ (by show w.heap.size + 1 ≤ w.heap.size + 1 + 1; omega) (.slice a1 x.fVars.length p1) |>.setCell ⟨w.heap.size + 1, 2, none⟩ (by show w.heap.size + 1 ≤ w.heap.size + 1 + 1; omega) (d2) |>.setCell ⟨w.heap.size + 1, 3, none⟩ (by show w.heap.size + 1 ≤ w.heap.size + 1 + 1; omega) (d3) |>.setCell ⟨w.heap.size + 1, 4, none⟩ (by show w.heap.size + 1 ≤ w.heap.size + 1 + 1; omega) (d4) |>.setCell ⟨w.heap.size + 1, 5, none⟩ (by show w.heap.size + 1 ≤ w.heap.size + 1 + 1; omega) (d5) |>.setCell ⟨w.heap.size + 1, 6, none⟩ (by show w.heap.size + 1 ≤ w.heap.size + 1 + 1; omega) (d6) |>.setCell ⟨w.heap.size + 1, 7, none⟩ (by show w.heap.size + 1 ≤ w.heap.size + 1 + 1; omega) (d7) |>.setCell ⟨w.heap.size + 1, 8, none⟩ (by show w.heap.size + 1 ≤ w.heap.size + 1 + 1; omega) (d8) |>.setCell ⟨w.heap.size + 1, 9, none⟩ (by show w.heap.size + 1 ≤ w.heap.size + 1 + 1; omega) (d9) |>.setCell ⟨w.heap.size + 1, 10, none⟩ (by show w.heap.size + 1 ≤ w.heap.size + 1 + 1; omega) (d10) |>.setCell ⟨w.heap.size + 1, 11, none⟩ (by show w.heap.size + 1 ≤ w.heap.size + 1 + 1; omega) (d11) |>.setCell ⟨w.heap.size + 1, 12, none⟩ (by show w.heap.size + 1 ≤ w.heap.size + 1 + 1; omega) (d12)
  have u2 := (Up.refl (w.heap.size + 1 + 1) w2) |>.setCell ⟨w.heap.size + 1 + 1, 2, none⟩ (by show w.heap.size + 1 + 1 ≤ w.heap.size + 1 + 1; omega) (d2) |>.setCell ⟨w.heap.size + 1 + 1, 3, none⟩ (by show w.heap.size + 1 + 1 ≤ w.heap.size + 1 + 1; omega) (d3) |>.setCell ⟨w.heap.size + 1 + 1, 4, none⟩ (by show w.heap.size + 1 + 1 ≤ w.heap.size + 1 + 1; omega) (d4) |>.setCell ⟨w.heap.size + 1 + 1, 5, none⟩ (by show w.heap.size + 1 + 1 ≤ w.heap.size + 1 + 1; omega) (d5) |>.setCell ⟨w.heap.size + 1 + 1, 6, none⟩ (by show w.heap.size + 1 + 1 ≤ w.heap.size + 1 + 1; omega) (d6) |>.setCell ⟨w.heap.size + 1 + 1, 7, none⟩ (by show w.heap.size + 1 + 1 ≤ w.heap.size + 1 + 1; omega) (d7) |>.setCell ⟨w.heap.size + 1 + 1, 8, none⟩ (by show w.heap.size + 1 + 1 ≤ w.heap.size + 1 + 1; omega) (d8) |>.setCell ⟨w.heap.size + 1 + 1, 9, none⟩ (by show w.heap.size + 1 + 1 ≤ w.heap.size + 1 + 1; omega) (d9) |>.setCell ⟨w.heap.size + 1 + 1, 10, none⟩ (by show w.heap.size + 1 + 1 ≤ w.heap.size + 1 + 1; omega) (d10) |>.setCell ⟨w.heap.size + 1 + 1, 11, none⟩ (by show w.heap.size + 1 + 1 ≤ w.heap.size + 1 + 1; omega) (d11) |>.setCell ⟨w.heap.size + 1 + 1, 12, none⟩ (by show w.heap.size + 1 + 1 ≤ w.heap.size + 1 + 1; omega) (d12) |>.setCell ⟨w.heap.size + 1, 0, none⟩ (by show w.heap.size + 1 ≤ w.heap.size + 1 + 1; omega) (.string x.fConstructor) |>.setCell ⟨w.heap.size + 1, 1, none⟩ (by show w.heap.size + 1 ≤ w.heap.size + 1 + 1; omega) (.slice a1 x.fVars.length p1) |>.setCell ⟨w.heap.size + 1, 2, none⟩ (by show w.heap.size + 1 ≤ w.heap.size + 1 + 1; omega) (d2) |>.setCell ⟨w.heap.size + 1, 3, none⟩ (by show w.heap.size + 1 ≤ w.heap.size + 1 + 1; omega) (d3) |>.setCell ⟨w.heap.size + 1, 4, none⟩ (by show w.heap.size + 1 ≤ w.heap.size + 1 + 1; omega) (d4) |>.setCell ⟨w.heap.size + 1, 5, none⟩ (by show w.heap.size + 1 ≤ w.heap.size + 1 + 1; omega) (d5) |>.setCell ⟨w.heap.size + 1, 6, none⟩ (by show w.heap.size + 1 ≤ w.heap.size + 1 + 1; omega) (d6) |>.setCell ⟨w.heap.size + 1, 7, none⟩ (by show w.heap.size + 1 ≤ w.heap.size + 1 + 1; omega) (d7) |>.setCell ⟨w.heap.size + 1, 8, none⟩ (by show w.heap.size + 1 ≤ w.heap.size + 1 + 1; omega) (d8) |>.setCell ⟨w.heap.size + 1, 9, none⟩ (by show w.heap.size + 1 ≤ w.heap.size + 1 + 1; omega) (d9) |>.setCell ⟨w.heap.size + 1, 10, none⟩ (by show w.heap.size + 1 ≤ w.heap.size + 1 + 1; omega) (d10) |>.setCell ⟨w.heap.size + 1, 11, none⟩ (by show w.heap.size + 1 ≤ w.heap.size + 1 + 1; omega) (d11) |>.setCell ⟨w.heap.size + 1, 12, none⟩ (by show w.heap.size + 1 ≤ w.heap.size + 1 + 1; omega) (d12)
  have j2 := join2 n2 s2 List.nodup_nil (b2 := []) (mid := w2.heap.size) (hi := w2.heap.size) (by simp) z2 (Nat.le_refl _)
  have j1 := join2 n1 s1 j2.1 j2.2 z1 (by omega)
  refine bodyPost_ret (v := .agg #[.string x.fConstructor, .slice a1 x.fVars.length p1, d2, d3, d4, d5, d6, d7, d8, d9, d10, d11, d12]) (by simp [results, Tryz.results242, go_sem, *]) rfl ⟨[.string x.fConstructor, .slice a1 x.fVars.length p1, d2, d3, d4, d5, d6, d7, d8, d9, d10, d11, d12], _, rfl, TCoreArm.mk_own HConstructor.out (u1.own o1 s1 (by omega)) (u2.own o2 s2 (by omega)), j1.1, ?_, hV⟩
  intro b hb
  have := j1.2 b hb
  simp
  omega
set_option maxRecDepth 100000 in
set_option maxHeartbeats 1000000 in
theorem stepToCoreArmS (N : Nat) (iToCoreArm : ToCoreArm N) (_iToCoreArmS : ToCoreArmS N) (_iToCore : ToCore N) (_iToCoreS : ToCoreS N) : ToCoreArmS (N + 1) := by
  intro l hN hz w K hK v h
  have hlen : l.length ≤ 1048576 := by unfold szs at hz; omega
  obtain ⟨a, cap, rfl, hc, hm, -, hE⟩ := open_sl TCoreArm.width h
  unfold maxLen at hm
  clear h
  obtain ⟨i0, h2, hz0, hz1, hz2⟩ := info_parts zinfo242
  go_enter Tryz.func209, Tryz.ntmps209
  go_wp2_with (at_make; refine wpList_make_full _ rfl _ _ 134 rfl w.heap.size 242 i0 _ 13 Tryz.underlying134 h2 hz0 hz1 _ _ _ _ l.length rfl rfl rfl rfl (by rw [hz2]; omega) (by unfold maxLen; omega) (Nat.le_refl _) ?_)
  intro wm hown hgr
  have hB0 : Below w.heap.size w wm := (Below.refl _ _).grown hgr (Nat.le_refl _) (by simp)
  have hR : l.length = 0 ∨ RowOf wm w.heap.size 242 (l.length * 13) := (rowOf_made hown).symm
  clear hown hgr
  go_wp2
  go_loopw [4] (fun i wr => ∃ (k : Nat) (r : List Nat), k ≤ l.length ∧ i = .int .i64 k ∧ (l.length = 0 ∨ RowOf wr w.heap.size 242 (l.length * 13)) ∧ OwnE wr ((l.take k).map TCoreArm.enc) w.heap.size 0 r ∧ r.Nodup ∧ (∀ b ∈ r, w.heap.size + 1 ≤ b ∧ b < wr.heap.size) ∧ Below w.heap.size w wr) (fun i _ => l.length - (intOf i).toNat)
  case atStart => exact ⟨0, [], Nat.zero_le _, rfl, hR, by simp only [List.take_zero, List.map_nil, OwnE], List.nodup_nil, by simp, hB0⟩
  case round =>
    clear hR hB0
    obtain ⟨k, r, hk, rfl, hR, h1, n1, r1, hB⟩ := hrel
    by_cases hlt : k < l.length
    · obtain ⟨b, off, rfl, hKb, cs, hcs, hr⟩ := hE k hlt
      have hr' := Rep.ext hB hK hr
      have hcs' := hcs.ext hB (hK b hKb)
      have hK' : ∀ b, K b → b < wr.heap.size := fun b h => Nat.lt_of_lt_of_le (hK b h) hB.size
      have hR' : RowOf wr w.heap.size 242 (l.length * 13) := by rcases hR with h | h <;> first | omega | exact h
      have hroom : k * 13 + 13 ≤ l.length * 13 := by have := Nat.mul_le_mul_right 13 (show k + 1 ≤ l.length from hlt); rw [Nat.add_mul] at this; omega
      clear hE hcs hr hR
      have hi : (Tryz.prog.info? 328).map (·.size) = some cs.length := by rw [Rep.length _ _ hr', TCoreArm.width]; exact infoT328
      have hmem : l[k] ∈ l := List.getElem_mem hlt
      go_wp2_with (with_reducible refine ld rfl 328 _ rfl b _ rfl cs hcs' _ Tryz.underlying328 hi ?_)
      refine (iToCoreArm l[k] (by have := List.sizeOf_lt_of_mem hmem; omega) (by have := szL_le TCoreArm.sz hmem; unfold szs at hz; omega) _ K hK' _ hr').mono ?_
      rintro e w1 ⟨cs', bs, rfl, o1, n2, r2, hB1⟩
      have hg : w.heap.size < wr.heap.size := hR'.lt
      obtain ⟨cur, hcur, hsz⟩ := hR'.below hB1 hg
      have Hcur := Lib.hid hcur
      have Hsz := Lib.hid hsz
      clear hcur hsz
      have hl' := (Rep.length (K := fun _ => True) _ _ (Own.rep _ _ _ o1 (fun _ _ => trivial))).trans (TCoreArm.width _)
      have hone := Rep.one (K := fun _ => True) _ _ (Own.rep _ _ _ o1 (fun _ _ => trivial))
      have hi' : (Tryz.prog.info? 242).map (·.size) = some cs'.length := by rw [hl']; exact infoT242
      have Hl' := Lib.hid hl'
      clear hl'
      go_wp2_with (with_reducible refine stA rfl 242 _ _ rfl w.heap.size (k * 13) rfl cs' rfl hi' hone cur 242 Hcur.out (by rw [Hl'.out, Hsz.out]; omega) ?_)
      intro w2 hst
      have R2 : RowOf w2 w.heap.size 242 (l.length * 13) := RowOf.stored ⟨cur, Hcur.out, Hsz.out⟩ hst
      have hrow := row_step TCoreArm.width hlt h1 n1 r1 hg hB1 o1 n2 r2 hst
      have hB2 := hst.below (hB.trans (hB1.mono hB.size)) (Nat.le_refl _)
      obtain ⟨h1', n1', r1'⟩ := hrow
      have A1 := Lib.hid h1'; have A2 := Lib.hid n1'; have A3 := Lib.hid r1'; have A4 := Lib.hid hB2; have A5 := Lib.hid R2
      clear h1' n1' r1' hB2 R2 h1 n1 r1 hB
      go_wp2
      go_roundw
      case rel => exact ⟨k + 1, _, hlt, by go_num, .inr A5.out, A1.out, A2.out, A3.out, A4.out⟩
      case measure => simp [intOf]; omega
    · obtain rfl : k = l.length := by omega
      rw [List.take_length] at h1
      go_wp2
      go_ret
      rcases hR with h | h
      · exact ⟨_, _, [], rfl, own_nil (List.length_eq_zero_iff.1 h) (by unfold maxLen; omega) (by simp), List.nodup_nil, by simp, hB⟩
      · obtain ⟨bs, o1, n2, r2⟩ := row_done (by unfold maxLen; omega) h h1 n1 r1
        exact ⟨_, _, bs, rfl, o1, n2, r2, hB⟩
set_option maxRecDepth 100000 in
set_option maxHeartbeats 1000000 in
theorem stepToCore (N : Nat) (_iToCoreArm : ToCoreArm N) (iToCoreArmS : ToCoreArmS N) (_iToCore : ToCore N) (iToCoreS : ToCoreS N) : ToCore (N + 1) := by
  intro x hN hz w K hK cs h
  obtain ⟨c4, c5, c6, c7, c8, c9, c10, rfl, hKind, hTrait, hName, hN, hType, hTypeArgs, hEvidence, hArgs, hArms⟩ := TCore.opn h
  clear h
  have HKind := Lib.hid hKind; clear hKind
  have HTrait := Lib.hid hTrait; clear hTrait
  have HName := Lib.hid hName; clear hName
  have HN := Lib.hid hN; clear hN
  have Hz := Lib.hid hz; clear hz
  have hV0 : Below w.heap.size w (((w.alloc (.cells #[.int .i64 x.fKind, .string x.fTrait, .string x.fName, .int .i64 x.fN, c4, c5, c6, c7, c8, c9, c10] 155)).alloc (.cells #[.int .i64 0, .string ⟨#[]⟩, .string ⟨#[]⟩, .int .i64 0, .int .i64 0, .string ⟨#[]⟩, .slice none 0 0, .slice none 0 0, .slice none 0 0, .slice none 0 0, .slice none 0 0] 136)).alloc (.cells #[.int .i64 x.fKind, .string x.fTrait, .string x.fName, .int .i64 x.fN, .int .i64 0, .string ⟨#[]⟩, .slice none 0 0, .slice none 0 0, .slice none 0 0, .slice none 0 0, .slice none 0 0] 136)) := (((Below.refl _ _).alloc (Nat.le_refl _) _).alloc (by simp) _).alloc (by simp <;> omega) _
  have hs0 : w.heap.size + 1 + 1 < (((w.alloc (.cells #[.int .i64 x.fKind, .string x.fTrait, .string x.fName, .int .i64 x.fN, c4, c5, c6, c7, c8, c9, c10] 155)).alloc (.cells #[.int .i64 0, .string ⟨#[]⟩, .string ⟨#[]⟩, .int .i64 0, .int .i64 0, .string ⟨#[]⟩, .slice none 0 0, .slice none 0 0, .slice none 0 0, .slice none 0 0, .slice none 0 0] 136)).alloc (.cells #[.int .i64 x.fKind, .string x.fTrait, .string x.fName, .int .i64 x.fN, .int .i64 0, .string ⟨#[]⟩, .slice none 0 0, .slice none 0 0, .slice none 0 0, .slice none 0 0, .slice none 0 0] 136)).heap.size := by simp
  go_enter Tryz.func159, Tryz.ntmps159
  go_wp2_with fail
  refine (toType_c x.fType (by have := Hz.out; rw [TCore.sz_eq] at this; omega) _ K (fun b hb => Nat.lt_of_lt_of_le (hK b hb) hV0.size) _ (Rep.ext hV0 hK hType)).mono ?_
  rintro e w1 ⟨cs1, b1, rfl, o1, n1, r1, hB1⟩
  obtain ⟨d4, d5, d6, rfl⟩ := len3 ((Rep.length (K := fun _ => True) _ _ (Own.rep _ _ _ o1 (fun _ _ => trivial))).trans (TType.width _))
  have one1 := Rep.one (K := fun _ => True) _ _ (Own.rep _ _ _ o1 (fun _ _ => trivial))
  have qd4 := st_one (one1 d4 (by simp))
  have qd5 := st_one (one1 d5 (by simp))
  have qd6 := st_one (one1 d6 (by simp))
  have hb1 := hV0.trans (hB1.mono hV0.size)
  have hc1 := (bcell hB1).1
  have hf1 := (bcell hB1).2
  have hz1 : w.heap.size + 1 + 1 < w1.heap.size := Nat.lt_of_lt_of_le hs0 hB1.size
  have hy1 : w.heap.size < w1.heap.size := by omega
  have hx1 : w.heap.size + 1 < w1.heap.size := by omega
  have s1 : ∀ b ∈ b1, w.heap.size + 1 + 1 + 1 ≤ b ∧ b < w1.heap.size := by intro b hb; have := r1 b hb; simp at this; omega
  have z1 : w.heap.size + 1 + 1 + 1 ≤ w1.heap.size := by have := hB1.size; simp at this; omega
  have hV1 := hb1 |>.setCell (p := ⟨w.heap.size + 1 + 1, 4, none⟩) (by show w.heap.size ≤ w.heap.size + 1 + 1; omega) (d4) |>.setCell (p := ⟨w.heap.size + 1 + 1, 5, none⟩) (by show w.heap.size ≤ w.heap.size + 1 + 1; omega) (d5) |>.setCell (p := ⟨w.heap.size + 1 + 1, 6, none⟩) (by show w.heap.size ≤ w.heap.size + 1 + 1; omega) (d6)
  have hs1 : w.heap.size + 1 + 1 < _ := Nat.lt_of_lt_of_le hz1 ((Up.refl (w.heap.size + 1 + 1) w1) |>.setCell ⟨w.heap.size + 1 + 1, 4, none⟩ (Nat.le_refl _) (d4) |>.setCell ⟨w.heap.size + 1 + 1, 5, none⟩ (Nat.le_refl _) (d5) |>.setCell ⟨w.heap.size + 1 + 1, 6, none⟩ (Nat.le_refl _) (d6)).size
  have u1 := (Up.refl (w.heap.size + 1 + 1) w1) |>.setCell ⟨w.heap.size + 1 + 1, 4, none⟩ (Nat.le_refl _) (d4) |>.setCell ⟨w.heap.size + 1 + 1, 5, none⟩ (Nat.le_refl _) (d5) |>.setCell ⟨w.heap.size + 1 + 1, 6, none⟩ (Nat.le_refl _) (d6)
  go_wp2_with fail
  refine (toTypeS_c x.fTypeArgs (by have := Hz.out; rw [TCore.sz_eq] at this; omega) _ K (fun b hb => Nat.lt_of_lt_of_le (hK b hb) hV1.size) _ (Rep.ext hV1 hK hTypeArgs)).mono ?_
  rintro e w2 ⟨a2, p2, b2, rfl, o2, n2, r2, hB2⟩
  have hb2 := hV1.trans (hB2.mono hV1.size)
  have hc2 := (bcell hB2).1
  have hf2 := (bcell hB2).2
  have hz2 : w.heap.size + 1 + 1 < w2.heap.size := Nat.lt_of_lt_of_le hs1 hB2.size
  have hy2 : w.heap.size < w2.heap.size := by omega
  have hx2 : w.heap.size + 1 < w2.heap.size := by omega
  have s2 : ∀ b ∈ b2, w1.heap.size ≤ b ∧ b < w2.heap.size := by intro b hb; have := r2 b hb; simp at this; omega
  have z2 : w1.heap.size ≤ w2.heap.size := by have := hB2.size; simp at this; omega
  have u1 := u1.below hB2
  have hV2 := hb2 |>.setCell (p := ⟨w.heap.size + 1 + 1, 7, none⟩) (by show w.heap.size ≤ w.heap.size + 1 + 1; omega) (.slice a2 x.fTypeArgs.length p2)
  have hs2 : w.heap.size + 1 + 1 < _ := Nat.lt_of_lt_of_le hz2 ((Up.refl (w.heap.size + 1 + 1) w2) |>.setCell ⟨w.heap.size + 1 + 1, 7, none⟩ (Nat.le_refl _) (.slice a2 x.fTypeArgs.length p2)).size
  have u1 := u1 |>.setCell ⟨w.heap.size + 1 + 1, 7, none⟩ (Nat.le_refl _) (.slice a2 x.fTypeArgs.length p2)
  have u2 := (Up.refl (w.heap.size + 1 + 1) w2) |>.setCell ⟨w.heap.size + 1 + 1, 7, none⟩ (Nat.le_refl _) (.slice a2 x.fTypeArgs.length p2)
  go_wp2_with fail
  refine (toEvidenceS_c x.fEvidence (by have := Hz.out; rw [TCore.sz_eq] at this; omega) _ K (fun b hb => Nat.lt_of_lt_of_le (hK b hb) hV2.size) _ (Rep.ext hV2 hK hEvidence)).mono ?_
  rintro e w3 ⟨a3, p3, b3, rfl, o3, n3, r3, hB3⟩
  have hb3 := hV2.trans (hB3.mono hV2.size)
  have hc3 := (bcell hB3).1
  have hf3 := (bcell hB3).2
  have hz3 : w.heap.size + 1 + 1 < w3.heap.size := Nat.lt_of_lt_of_le hs2 hB3.size
  have hy3 : w.heap.size < w3.heap.size := by omega
  have hx3 : w.heap.size + 1 < w3.heap.size := by omega
  have s3 : ∀ b ∈ b3, w2.heap.size ≤ b ∧ b < w3.heap.size := by intro b hb; have := r3 b hb; simp at this; omega
  have z3 : w2.heap.size ≤ w3.heap.size := by have := hB3.size; simp at this; omega
  have u1 := u1.below hB3
  have u2 := u2.below hB3
  have hV3 := hb3 |>.setCell (p := ⟨w.heap.size + 1 + 1, 8, none⟩) (by show w.heap.size ≤ w.heap.size + 1 + 1; omega) (.slice a3 x.fEvidence.length p3)
  have hs3 : w.heap.size + 1 + 1 < _ := Nat.lt_of_lt_of_le hz3 ((Up.refl (w.heap.size + 1 + 1) w3) |>.setCell ⟨w.heap.size + 1 + 1, 8, none⟩ (Nat.le_refl _) (.slice a3 x.fEvidence.length p3)).size
  have u1 := u1 |>.setCell ⟨w.heap.size + 1 + 1, 8, none⟩ (Nat.le_refl _) (.slice a3 x.fEvidence.length p3)
  have u2 := u2 |>.setCell ⟨w.heap.size + 1 + 1, 8, none⟩ (Nat.le_refl _) (.slice a3 x.fEvidence.length p3)
  have u3 := (Up.refl (w.heap.size + 1 + 1) w3) |>.setCell ⟨w.heap.size + 1 + 1, 8, none⟩ (Nat.le_refl _) (.slice a3 x.fEvidence.length p3)
  go_wp2_with fail
  refine (iToCoreS x.fArgs (by have := TCore.lt_fArgs x; omega) (by have := Hz.out; rw [TCore.sz_eq] at this; omega) _ K (fun b hb => Nat.lt_of_lt_of_le (hK b hb) hV3.size) _ (Rep.ext hV3 hK hArgs)).mono ?_
  rintro e w4 ⟨a4, p4, b4, rfl, o4, n4, r4, hB4⟩
  have hb4 := hV3.trans (hB4.mono hV3.size)
  have hc4 := (bcell hB4).1
  have hf4 := (bcell hB4).2
  have hz4 : w.heap.size + 1 + 1 < w4.heap.size := Nat.lt_of_lt_of_le hs3 hB4.size
  have hy4 : w.heap.size < w4.heap.size := by omega
  have hx4 : w.heap.size + 1 < w4.heap.size := by omega
  have s4 : ∀ b ∈ b4, w3.heap.size ≤ b ∧ b < w4.heap.size := by intro b hb; have := r4 b hb; simp at this; omega
  have z4 : w3.heap.size ≤ w4.heap.size := by have := hB4.size; simp at this; omega
  have u1 := u1.below hB4
  have u2 := u2.below hB4
  have u3 := u3.below hB4
  have hV4 := hb4 |>.setCell (p := ⟨w.heap.size + 1 + 1, 9, none⟩) (by show w.heap.size ≤ w.heap.size + 1 + 1; omega) (.slice a4 x.fArgs.length p4)
  have hs4 : w.heap.size + 1 + 1 < _ := Nat.lt_of_lt_of_le hz4 ((Up.refl (w.heap.size + 1 + 1) w4) |>.setCell ⟨w.heap.size + 1 + 1, 9, none⟩ (Nat.le_refl _) (.slice a4 x.fArgs.length p4)).size
  have u1 := u1 |>.setCell ⟨w.heap.size + 1 + 1, 9, none⟩ (Nat.le_refl _) (.slice a4 x.fArgs.length p4)
  have u2 := u2 |>.setCell ⟨w.heap.size + 1 + 1, 9, none⟩ (Nat.le_refl _) (.slice a4 x.fArgs.length p4)
  have u3 := u3 |>.setCell ⟨w.heap.size + 1 + 1, 9, none⟩ (Nat.le_refl _) (.slice a4 x.fArgs.length p4)
  have u4 := (Up.refl (w.heap.size + 1 + 1) w4) |>.setCell ⟨w.heap.size + 1 + 1, 9, none⟩ (Nat.le_refl _) (.slice a4 x.fArgs.length p4)
  go_wp2_with fail
  refine (iToCoreArmS x.fArms (by have := TCore.lt_fArms x; omega) (by have := Hz.out; rw [TCore.sz_eq] at this; omega) _ K (fun b hb => Nat.lt_of_lt_of_le (hK b hb) hV4.size) _ (Rep.ext hV4 hK hArms)).mono ?_
  rintro e w5 ⟨a5, p5, b5, rfl, o5, n5, r5, hB5⟩
  have hb5 := hV4.trans (hB5.mono hV4.size)
  have hc5 := (bcell hB5).1
  have hf5 := (bcell hB5).2
  have hz5 : w.heap.size + 1 + 1 < w5.heap.size := Nat.lt_of_lt_of_le hs4 hB5.size
  have hy5 : w.heap.size < w5.heap.size := by omega
  have hx5 : w.heap.size + 1 < w5.heap.size := by omega
  have s5 : ∀ b ∈ b5, w4.heap.size ≤ b ∧ b < w5.heap.size := by intro b hb; have := r5 b hb; simp at this; omega
  have z5 : w4.heap.size ≤ w5.heap.size := by have := hB5.size; simp at this; omega
  have u1 := u1.below hB5
  have u2 := u2.below hB5
  have u3 := u3.below hB5
  have u4 := u4.below hB5
  go_wp2
  have hV := hb5 |>.setCell (p := ⟨w.heap.size + 1 + 1, 10, none⟩) (by show w.heap.size ≤ w.heap.size + 1 + 1; omega) (.slice a5 x.fArms.length p5) |>.setCell (p := ⟨w.heap.size + 1, 0, none⟩) (by show w.heap.size ≤ w.heap.size + 1; omega) (.int .i64 x.fKind) |>.setCell (p := ⟨w.heap.size + 1, 1, none⟩) (by show w.heap.size ≤ w.heap.size + 1; omega) (.string x.fTrait) |>.setCell (p := ⟨w.heap.size + 1, 2, none⟩) (by show w.heap.size ≤ w.heap.size + 1; omega) (.string x.fName) |>.setCell (p := ⟨w.heap.size + 1, 3, none⟩) (by show w.heap.size ≤ w.heap.size + 1; omega) (.int .i64 x.fN) |>.setCell (p := ⟨w.heap.size + 1, 4, none⟩) (by show w.heap.size ≤ w.heap.size + 1; omega) (d4) |>.setCell (p := ⟨w.heap.size + 1, 5, none⟩) (by show w.heap.size ≤ w.heap.size + 1; omega) (d5) |>.setCell (p := ⟨w.heap.size + 1, 6, none⟩) (by show w.heap.size ≤ w.heap.size + 1; omega) (d6) |>.setCell (p := ⟨w.heap.size + 1, 7, none⟩) (by show w.heap.size ≤ w.heap.size + 1; omega) (.slice a2 x.fTypeArgs.length p2) |>.setCell (p := ⟨w.heap.size + 1, 8, none⟩) (by show w.heap.size ≤ w.heap.size + 1; omega) (.slice a3 x.fEvidence.length p3) |>.setCell (p := ⟨w.heap.size + 1, 9, none⟩) (by show w.heap.size ≤ w.heap.size + 1; omega) (.slice a4 x.fArgs.length p4) |>.setCell (p := ⟨w.heap.size + 1, 10, none⟩) (by show w.heap.size ≤ w.heap.size + 1; omega) (.slice a5 x.fArms.length p5)
  have u1 := u1 |>.setCell ⟨w.heap.size + 1 + 1, 10, none⟩ (by show w.heap.size + 1 + 1 ≤ w.heap.size + 1 + 1; omega) (.slice a5 x.fArms.length p5) |>.setCell ⟨w.heap.size + 1, 0, none⟩ (by show w.heap.size + 1 ≤ w.heap.size + 1 + 1; omega) (.int .i64 x.fKind) |>.setCell ⟨w.heap.size + 1, 1, none⟩ (by show w.heap.size + 1 ≤ w.heap.size + 1 + 1; omega) (.string x.fTrait) |>.setCell ⟨w.heap.size + 1, 2, none⟩ (by show w.heap.size + 1 ≤ w.heap.size + 1 + 1; omega) (.string x.fName) |>.setCell ⟨w.heap.size + 1, 3, none⟩ (by show w.heap.size + 1 ≤ w.heap.size + 1 + 1; omega) (.int .i64 x.fN) |>.setCell ⟨w.heap.size + 1, 4, none⟩ (by show w.heap.size + 1 ≤ w.heap.size + 1 + 1; omega) (d4) |>.setCell ⟨w.heap.size + 1, 5, none⟩ (by show w.heap.size + 1 ≤ w.heap.size + 1 + 1; omega) (d5) |>.setCell ⟨w.heap.size + 1, 6, none⟩ (by show w.heap.size + 1 ≤ w.heap.size + 1 + 1; omega) (d6) |>.setCell ⟨w.heap.size + 1, 7, none⟩ (by show w.heap.size + 1 ≤ w.heap.size + 1 + 1; omega) (.slice a2 x.fTypeArgs.length p2) |>.setCell ⟨w.heap.size + 1, 8, none⟩ (by show w.heap.size + 1 ≤ w.heap.size + 1 + 1; omega) (.slice a3 x.fEvidence.length p3) |>.setCell ⟨w.heap.size + 1, 9, none⟩ (by show w.heap.size + 1 ≤ w.heap.size + 1 + 1; omega) (.slice a4 x.fArgs.length p4) |>.setCell ⟨w.heap.size + 1, 10, none⟩ (by show w.heap.size + 1 ≤ w.heap.size + 1 + 1; omega) (.slice a5 x.fArms.length p5)
  have u2 := u2 |>.setCell ⟨w.heap.size + 1 + 1, 10, none⟩ (by show w.heap.size + 1 + 1 ≤ w.heap.size + 1 + 1; omega) (.slice a5 x.fArms.length p5) |>.setCell ⟨w.heap.size + 1, 0, none⟩ (by show w.heap.size + 1 ≤ w.heap.size + 1 + 1; omega) (.int .i64 x.fKind) |>.setCell ⟨w.heap.size + 1, 1, none⟩ (by show w.heap.size + 1 ≤ w.heap.size + 1 + 1; omega) (.string x.fTrait) |>.setCell ⟨w.heap.size + 1, 2, none⟩ (by show w.heap.size + 1 ≤ w.heap.size + 1 + 1; omega) (.string x.fName) |>.setCell ⟨w.heap.size + 1, 3, none⟩ (by show w.heap.size + 1 ≤ w.heap.size + 1 + 1; omega) (.int .i64 x.fN) |>.setCell ⟨w.heap.size + 1, 4, none⟩ (by show w.heap.size + 1 ≤ w.heap.size + 1 + 1; omega) (d4) |>.setCell ⟨w.heap.size + 1, 5, none⟩ (by show w.heap.size + 1 ≤ w.heap.size + 1 + 1; omega) (d5) |>.setCell ⟨w.heap.size + 1, 6, none⟩ (by show w.heap.size + 1 ≤ w.heap.size + 1 + 1; omega) (d6) |>.setCell ⟨w.heap.size + 1, 7, none⟩ (by show w.heap.size + 1 ≤ w.heap.size + 1 + 1; omega) (.slice a2 x.fTypeArgs.length p2) |>.setCell ⟨w.heap.size + 1, 8, none⟩ (by show w.heap.size + 1 ≤ w.heap.size + 1 + 1; omega) (.slice a3 x.fEvidence.length p3) |>.setCell ⟨w.heap.size + 1, 9, none⟩ (by show w.heap.size + 1 ≤ w.heap.size + 1 + 1; omega) (.slice a4 x.fArgs.length p4) |>.setCell ⟨w.heap.size + 1, 10, none⟩ (by show w.heap.size + 1 ≤ w.heap.size + 1 + 1; omega) (.slice a5 x.fArms.length p5)
  have u3 := u3 |>.setCell ⟨w.heap.size + 1 + 1, 10, none⟩ (by show w.heap.size + 1 + 1 ≤ w.heap.size + 1 + 1; omega) (.slice a5 x.fArms.length p5) |>.setCell ⟨w.heap.size + 1, 0, none⟩ (by show w.heap.size + 1 ≤ w.heap.size + 1 + 1; omega) (.int .i64 x.fKind) |>.setCell ⟨w.heap.size + 1, 1, none⟩ (by show w.heap.size + 1 ≤ w.heap.size + 1 + 1; omega) (.string x.fTrait) |>.setCell ⟨w.heap.size + 1, 2, none⟩ (by show w.heap.size + 1 ≤ w.heap.size + 1 + 1; omega) (.string x.fName) |>.setCell ⟨w.heap.size + 1, 3, none⟩ (by show w.heap.size + 1 ≤ w.heap.size + 1 + 1; omega) (.int .i64 x.fN) |>.setCell ⟨w.heap.size + 1, 4, none⟩ (by show w.heap.size + 1 ≤ w.heap.size + 1 + 1; omega) (d4) |>.setCell ⟨w.heap.size + 1, 5, none⟩ (by show w.heap.size + 1 ≤ w.heap.size + 1 + 1; omega) (d5) |>.setCell ⟨w.heap.size + 1, 6, none⟩ (by show w.heap.size + 1 ≤ w.heap.size + 1 + 1; omega) (d6) |>.setCell ⟨w.heap.size + 1, 7, none⟩ (by show w.heap.size + 1 ≤ w.heap.size + 1 + 1; omega) (.slice a2 x.fTypeArgs.length p2) |>.setCell ⟨w.heap.size + 1, 8, none⟩ (by show w.heap.size + 1 ≤ w.heap.size + 1 + 1; omega) (.slice a3 x.fEvidence.length p3) |>.setCell ⟨w.heap.size + 1, 9, none⟩ (by show w.heap.size + 1 ≤ w.heap.size + 1 + 1; omega) (.slice a4 x.fArgs.length p4) |>.setCell ⟨w.heap.size + 1, 10, none⟩ (by show w.heap.size + 1 ≤ w.heap.size + 1 + 1; omega) (.slice a5 x.fArms.length p5)
  have u4 := u4 |>.setCell ⟨w.heap.size + 1 + 1, 10, none⟩ (by show w.heap.size + 1 + 1 ≤ w.heap.size + 1 + 1; omega) (.slice a5 x.fArms.length p5) |>.setCell ⟨w.heap.size + 1, 0, none⟩ (by show w.heap.size + 1 ≤ w.heap.size + 1 + 1; omega) (.int .i64 x.fKind) |>.setCell ⟨w.heap.size + 1, 1, none⟩ (by show w.heap.size + 1 ≤ w.heap.size + 1 + 1; omega) (.string x.fTrait) |>.setCell ⟨w.heap.size + 1, 2, none⟩ (by show w.heap.size + 1 ≤ w.heap.size + 1 + 1; omega) (.string x.fName) |>.setCell ⟨w.heap.size + 1, 3, none⟩ (by show w.heap.size + 1 ≤ w.heap.size + 1 + 1; omega) (.int .i64 x.fN) |>.setCell ⟨w.heap.size + 1, 4, none⟩ (by show w.heap.size + 1 ≤ w.heap.size + 1 + 1; omega) (d4) |>.setCell ⟨w.heap.size + 1, 5, none⟩ (by show w.heap.size + 1 ≤ w.heap.size + 1 + 1; omega) (d5) |>.setCell ⟨w.heap.size + 1, 6, none⟩ (by show w.heap.size + 1 ≤ w.heap.size + 1 + 1; omega) (d6) |>.setCell ⟨w.heap.size + 1, 7, none⟩ (by show w.heap.size + 1 ≤ w.heap.size + 1 + 1; omega) (.slice a2 x.fTypeArgs.length p2) |>.setCell ⟨w.heap.size + 1, 8, none⟩ (by show w.heap.size + 1 ≤ w.heap.size + 1 + 1; omega) (.slice a3 x.fEvidence.length p3) |>.setCell ⟨w.heap.size + 1, 9, none⟩ (by show w.heap.size + 1 ≤ w.heap.size + 1 + 1; omega) (.slice a4 x.fArgs.length p4) |>.setCell ⟨w.heap.size + 1, 10, none⟩ (by show w.heap.size + 1 ≤ w.heap.size + 1 + 1; omega) (.slice a5 x.fArms.length p5)
  have u5 := (Up.refl (w.heap.size + 1 + 1) w5) |>.setCell ⟨w.heap.size + 1 + 1, 10, none⟩ (by show w.heap.size + 1 + 1 ≤ w.heap.size + 1 + 1; omega) (.slice a5 x.fArms.length p5) |>.setCell ⟨w.heap.size + 1, 0, none⟩ (by show w.heap.size + 1 ≤ w.heap.size + 1 + 1; omega) (.int .i64 x.fKind) |>.setCell ⟨w.heap.size + 1, 1, none⟩ (by show w.heap.size + 1 ≤ w.heap.size + 1 + 1; omega) (.string x.fTrait) |>.setCell ⟨w.heap.size + 1, 2, none⟩ (by show w.heap.size + 1 ≤ w.heap.size + 1 + 1; omega) (.string x.fName) |>.setCell ⟨w.heap.size + 1, 3, none⟩ (by show w.heap.size + 1 ≤ w.heap.size + 1 + 1; omega) (.int .i64 x.fN) |>.setCell ⟨w.heap.size + 1, 4, none⟩ (by show w.heap.size + 1 ≤ w.heap.size + 1 + 1; omega) (d4) |>.setCell ⟨w.heap.size + 1, 5, none⟩ (by show w.heap.size + 1 ≤ w.heap.size + 1 + 1; omega) (d5) |>.setCell ⟨w.heap.size + 1, 6, none⟩ (by show w.heap.size + 1 ≤ w.heap.size + 1 + 1; omega) (d6) |>.setCell ⟨w.heap.size + 1, 7, none⟩ (by show w.heap.size + 1 ≤ w.heap.size + 1 + 1; omega) (.slice a2 x.fTypeArgs.length p2) |>.setCell ⟨w.heap.size + 1, 8, none⟩ (by show w.heap.size + 1 ≤ w.heap.size + 1 + 1; omega) (.slice a3 x.fEvidence.length p3) |>.setCell ⟨w.heap.size + 1, 9, none⟩ (by show w.heap.size + 1 ≤ w.heap.size + 1 + 1; omega) (.slice a4 x.fArgs.length p4) |>.setCell ⟨w.heap.size + 1, 10, none⟩ (by show w.heap.size + 1 ≤ w.heap.size + 1 + 1; omega) (.slice a5 x.fArms.length p5)
  have j5 := join2 n5 s5 List.nodup_nil (b2 := []) (mid := w5.heap.size) (hi := w5.heap.size) (by simp) z5 (Nat.le_refl _)
  have j4 := join2 n4 s4 j5.1 j5.2 z4 (by omega)
  have j3 := join2 n3 s3 j4.1 j4.2 z3 (by omega)
  have j2 := join2 n2 s2 j3.1 j3.2 z2 (by omega)
  have j1 := join2 n1 s1 j2.1 j2.2 z1 (by omega)
  refine bodyPost_ret (v := .agg #[.int .i64 x.fKind, .string x.fTrait, .string x.fName, .int .i64 x.fN, d4, d5, d6, .slice a2 x.fTypeArgs.length p2, .slice a3 x.fEvidence.length p3, .slice a4 x.fArgs.length p4, .slice a5 x.fArms.length p5]) (by simp [results, Tryz.results159, go_sem, *]) rfl ⟨[.int .i64 x.fKind, .string x.fTrait, .string x.fName, .int .i64 x.fN, d4, d5, d6, .slice a2 x.fTypeArgs.length p2, .slice a3 x.fEvidence.length p3, .slice a4 x.fArgs.length p4, .slice a5 x.fArms.length p5], _, rfl, TCore.mk_own HKind.out HTrait.out HName.out HN.out (u1.own o1 s1 (by omega)) (u2.own o2 s2 (by omega)) (u3.own o3 s3 (by omega)) (u4.own o4 s4 (by omega)) (u5.own o5 s5 (by omega)), j1.1, ?_, hV⟩
  intro b hb
  have := j1.2 b hb
  simp
  omega
set_option maxRecDepth 100000 in
set_option maxHeartbeats 1000000 in
theorem stepToCoreS (N : Nat) (_iToCoreArm : ToCoreArm N) (_iToCoreArmS : ToCoreArmS N) (iToCore : ToCore N) (_iToCoreS : ToCoreS N) : ToCoreS (N + 1) := by
  intro l hN hz w K hK v h
  have hlen : l.length ≤ 1048576 := by unfold szs at hz; omega
  obtain ⟨a, cap, rfl, hc, hm, -, hE⟩ := open_sl TCore.width h
  unfold maxLen at hm
  clear h
  obtain ⟨i0, h2, hz0, hz1, hz2⟩ := info_parts zinfo136
  go_enter Tryz.func208, Tryz.ntmps208
  go_wp2_with (at_make; refine wpList_make_full _ rfl _ _ 133 rfl w.heap.size 136 i0 _ 11 Tryz.underlying133 h2 hz0 hz1 _ _ _ _ l.length rfl rfl rfl rfl (by rw [hz2]; omega) (by unfold maxLen; omega) (Nat.le_refl _) ?_)
  intro wm hown hgr
  have hB0 : Below w.heap.size w wm := (Below.refl _ _).grown hgr (Nat.le_refl _) (by simp)
  have hR : l.length = 0 ∨ RowOf wm w.heap.size 136 (l.length * 11) := (rowOf_made hown).symm
  clear hown hgr
  go_wp2
  go_loopw [4] (fun i wr => ∃ (k : Nat) (r : List Nat), k ≤ l.length ∧ i = .int .i64 k ∧ (l.length = 0 ∨ RowOf wr w.heap.size 136 (l.length * 11)) ∧ OwnE wr ((l.take k).map TCore.enc) w.heap.size 0 r ∧ r.Nodup ∧ (∀ b ∈ r, w.heap.size + 1 ≤ b ∧ b < wr.heap.size) ∧ Below w.heap.size w wr) (fun i _ => l.length - (intOf i).toNat)
  case atStart => exact ⟨0, [], Nat.zero_le _, rfl, hR, by simp only [List.take_zero, List.map_nil, OwnE], List.nodup_nil, by simp, hB0⟩
  case round =>
    clear hR hB0
    obtain ⟨k, r, hk, rfl, hR, h1, n1, r1, hB⟩ := hrel
    by_cases hlt : k < l.length
    · obtain ⟨b, off, rfl, hKb, cs, hcs, hr⟩ := hE k hlt
      have hr' := Rep.ext hB hK hr
      have hcs' := hcs.ext hB (hK b hKb)
      have hK' : ∀ b, K b → b < wr.heap.size := fun b h => Nat.lt_of_lt_of_le (hK b h) hB.size
      have hR' : RowOf wr w.heap.size 136 (l.length * 11) := by rcases hR with h | h <;> first | omega | exact h
      have hroom : k * 11 + 11 ≤ l.length * 11 := by have := Nat.mul_le_mul_right 11 (show k + 1 ≤ l.length from hlt); rw [Nat.add_mul] at this; omega
      clear hE hcs hr hR
      have hi : (Tryz.prog.info? 155).map (·.size) = some cs.length := by rw [Rep.length _ _ hr', TCore.width]; exact infoT155
      have hmem : l[k] ∈ l := List.getElem_mem hlt
      go_wp2_with (with_reducible refine ld rfl 155 _ rfl b _ rfl cs hcs' _ Tryz.underlying155 hi ?_)
      refine (iToCore l[k] (by have := List.sizeOf_lt_of_mem hmem; omega) (by have := szL_le TCore.sz hmem; unfold szs at hz; omega) _ K hK' _ hr').mono ?_
      rintro e w1 ⟨cs', bs, rfl, o1, n2, r2, hB1⟩
      have hg : w.heap.size < wr.heap.size := hR'.lt
      obtain ⟨cur, hcur, hsz⟩ := hR'.below hB1 hg
      have Hcur := Lib.hid hcur
      have Hsz := Lib.hid hsz
      clear hcur hsz
      have hl' := (Rep.length (K := fun _ => True) _ _ (Own.rep _ _ _ o1 (fun _ _ => trivial))).trans (TCore.width _)
      have hone := Rep.one (K := fun _ => True) _ _ (Own.rep _ _ _ o1 (fun _ _ => trivial))
      have hi' : (Tryz.prog.info? 136).map (·.size) = some cs'.length := by rw [hl']; exact infoT136
      have Hl' := Lib.hid hl'
      clear hl'
      go_wp2_with (with_reducible refine stA rfl 136 _ _ rfl w.heap.size (k * 11) rfl cs' rfl hi' hone cur 136 Hcur.out (by rw [Hl'.out, Hsz.out]; omega) ?_)
      intro w2 hst
      have R2 : RowOf w2 w.heap.size 136 (l.length * 11) := RowOf.stored ⟨cur, Hcur.out, Hsz.out⟩ hst
      have hrow := row_step TCore.width hlt h1 n1 r1 hg hB1 o1 n2 r2 hst
      have hB2 := hst.below (hB.trans (hB1.mono hB.size)) (Nat.le_refl _)
      obtain ⟨h1', n1', r1'⟩ := hrow
      have A1 := Lib.hid h1'; have A2 := Lib.hid n1'; have A3 := Lib.hid r1'; have A4 := Lib.hid hB2; have A5 := Lib.hid R2
      clear h1' n1' r1' hB2 R2 h1 n1 r1 hB
      go_wp2
      go_roundw
      case rel => exact ⟨k + 1, _, hlt, by go_num, .inr A5.out, A1.out, A2.out, A3.out, A4.out⟩
      case measure => simp [intOf]; omega
    · obtain rfl : k = l.length := by omega
      rw [List.take_length] at h1
      go_wp2
      go_ret
      rcases hR with h | h
      · exact ⟨_, _, [], rfl, own_nil (List.length_eq_zero_iff.1 h) (by unfold maxLen; omega) (by simp), List.nodup_nil, by simp, hB⟩
      · obtain ⟨bs, o1, n2, r2⟩ := row_done (by unfold maxLen; omega) h h1 n1 r1
        exact ⟨_, _, bs, rfl, o1, n2, r2, hB⟩
theorem toCoreArmCore_all : ∀ N : Nat, ToCoreArm N ∧ ToCoreArmS N ∧ ToCore N ∧ ToCoreS N
  | 0 => ⟨fun _ h => absurd h (Nat.not_lt_zero _), fun _ h => absurd h (Nat.not_lt_zero _), fun _ h => absurd h (Nat.not_lt_zero _), fun _ h => absurd h (Nat.not_lt_zero _)⟩
  | N + 1 => by
    obtain ⟨i0, i1, i2, i3⟩ := toCoreArmCore_all N
    exact ⟨stepToCoreArm N i0 i1 i2 i3, stepToCoreArmS N i0 i1 i2 i3, stepToCore N i0 i1 i2 i3, stepToCoreS N i0 i1 i2 i3⟩
theorem toCoreArm_c (x : TCoreArm) : ∀ (_ : x.sz ≤ 1048576) (w : World) (K : Nat → Prop) (_ : ∀ b, K b → b < w.heap.size) (cs : List Value) (_ : Rep w K x.enc cs),
    Calls Tryz.prog 242 #[.agg cs.toArray] w fun e w' => ∃ cs' bs, e = .returned (.agg cs'.toArray) ∧ Own w' x.enc cs' bs ∧ bs.Nodup ∧ (∀ b ∈ bs, w.heap.size ≤ b ∧ b < w'.heap.size) ∧ Below w.heap.size w w' := (toCoreArmCore_all (SizeOf.sizeOf x + 1)).1 x (Nat.lt_succ_self _)
theorem toCoreArmS_c (l : List TCoreArm) : ∀ (_ : szs TCoreArm.sz l ≤ 1048576) (w : World) (K : Nat → Prop) (_ : ∀ b, K b → b < w.heap.size) (v : Value) (_ : Rep w K (.sl (l.map TCoreArm.enc)) [v]),
    Calls Tryz.prog 209 #[v] w fun e w' => ∃ a cap bs, e = .returned (.slice a l.length cap) ∧ Own w' (.sl (l.map TCoreArm.enc)) [.slice a l.length cap] bs ∧ bs.Nodup ∧ (∀ b ∈ bs, w.heap.size ≤ b ∧ b < w'.heap.size) ∧ Below w.heap.size w w' := (toCoreArmCore_all (SizeOf.sizeOf l + 1)).2.1 l (Nat.lt_succ_self _)
theorem toCore_c (x : TCore) : ∀ (_ : x.sz ≤ 1048576) (w : World) (K : Nat → Prop) (_ : ∀ b, K b → b < w.heap.size) (cs : List Value) (_ : Rep w K x.enc cs),
    Calls Tryz.prog 159 #[.agg cs.toArray] w fun e w' => ∃ cs' bs, e = .returned (.agg cs'.toArray) ∧ Own w' x.enc cs' bs ∧ bs.Nodup ∧ (∀ b ∈ bs, w.heap.size ≤ b ∧ b < w'.heap.size) ∧ Below w.heap.size w w' := (toCoreArmCore_all (SizeOf.sizeOf x + 1)).2.2.1 x (Nat.lt_succ_self _)
theorem toCoreS_c (l : List TCore) : ∀ (_ : szs TCore.sz l ≤ 1048576) (w : World) (K : Nat → Prop) (_ : ∀ b, K b → b < w.heap.size) (v : Value) (_ : Rep w K (.sl (l.map TCore.enc)) [v]),
    Calls Tryz.prog 208 #[v] w fun e w' => ∃ a cap bs, e = .returned (.slice a l.length cap) ∧ Own w' (.sl (l.map TCore.enc)) [.slice a l.length cap] bs ∧ bs.Nodup ∧ (∀ b ∈ bs, w.heap.size ≤ b ∧ b < w'.heap.size) ∧ Below w.heap.size w w' := (toCoreArmCore_all (SizeOf.sizeOf l + 1)).2.2.2 l (Nat.lt_succ_self _)
theorem infoT223 : (Tryz.prog.info? 223).map (·.size) = some 4 := by kernel_rfl
theorem zinfo223 : (Tryz.prog.info? 223).map (fun i => (i.zero, i.size, i.bytes)) = some (some (.agg #[.string ⟨#[]⟩, .int .i64 0, .string ⟨#[]⟩, .slice none 0 0]), 4, 64) := by kernel_rfl
theorem infoT348 : (Tryz.prog.info? 348).map (·.size) = some 4 := by kernel_rfl
set_option maxRecDepth 100000 in
set_option maxHeartbeats 1000000 in
theorem toParam_c (x : TParam) : ∀ (_ : x.sz ≤ 1048576) (w : World) (K : Nat → Prop) (_ : ∀ b, K b → b < w.heap.size) (cs : List Value) (_ : Rep w K x.enc cs),
    Calls Tryz.prog 263 #[.agg cs.toArray] w fun e w' => ∃ cs' bs, e = .returned (.agg cs'.toArray) ∧ Own w' x.enc cs' bs ∧ bs.Nodup ∧ (∀ b ∈ bs, w.heap.size ≤ b ∧ b < w'.heap.size) ∧ Below w.heap.size w w' := by
  intro hz w K hK cs h
  obtain ⟨c1, c2, c3, rfl, hName, hType⟩ := TParam.opn h
  clear h
  have HName := Lib.hid hName; clear hName
  have Hz := Lib.hid hz; clear hz
  have hV0 : Below w.heap.size w (((w.alloc (.cells #[.string x.fName, c1, c2, c3] 348)).alloc (.cells #[.string ⟨#[]⟩, .int .i64 0, .string ⟨#[]⟩, .slice none 0 0] 223)).alloc (.cells #[.string x.fName, .int .i64 0, .string ⟨#[]⟩, .slice none 0 0] 223)) := (((Below.refl _ _).alloc (Nat.le_refl _) _).alloc (by simp) _).alloc (by simp <;> omega) _
  have hs0 : w.heap.size + 1 + 1 < (((w.alloc (.cells #[.string x.fName, c1, c2, c3] 348)).alloc (.cells #[.string ⟨#[]⟩, .int .i64 0, .string ⟨#[]⟩, .slice none 0 0] 223)).alloc (.cells #[.string x.fName, .int .i64 0, .string ⟨#[]⟩, .slice none 0 0] 223)).heap.size := by simp
  go_enter Tryz.func263, Tryz.ntmps263
  go_wp2_with fail
  refine (toType_c x.fType (by have := Hz.out; rw [TParam.sz_eq] at this; omega) _ K (fun b hb => Nat.lt_of_lt_of_le (hK b hb) hV0.size) _ (Rep.ext hV0 hK hType)).mono ?_
  rintro e w1 ⟨cs1, b1, rfl, o1, n1, r1, hB1⟩
  obtain ⟨d1, d2, d3, rfl⟩ := len3 ((Rep.length (K := fun _ => True) _ _ (Own.rep _ _ _ o1 (fun _ _ => trivial))).trans (TType.width _))
  have one1 := Rep.one (K := fun _ => True) _ _ (Own.rep _ _ _ o1 (fun _ _ => trivial))
  have qd1 := st_one (one1 d1 (by simp))
  have qd2 := st_one (one1 d2 (by simp))
  have qd3 := st_one (one1 d3 (by simp))
  have hb1 := hV0.trans (hB1.mono hV0.size)
  have hc1 := (bcell hB1).1
  have hf1 := (bcell hB1).2
  have hz1 : w.heap.size + 1 + 1 < w1.heap.size := Nat.lt_of_lt_of_le hs0 hB1.size
  have hy1 : w.heap.size < w1.heap.size := by omega
  have hx1 : w.heap.size + 1 < w1.heap.size := by omega
  have s1 : ∀ b ∈ b1, w.heap.size + 1 + 1 + 1 ≤ b ∧ b < w1.heap.size := by intro b hb; have := r1 b hb; simp at this; omega
  have z1 : w.heap.size + 1 + 1 + 1 ≤ w1.heap.size := by have := hB1.size; simp at this; omega
  go_wp2
  have hV := hb1 |>.setCell (p := ⟨w.heap.size + 1 + 1, 1, none⟩) (by show w.heap.size ≤ w.heap.size + 1 + 1; omega) (d1) |>.setCell (p := ⟨w.heap.size + 1 + 1, 2, none⟩) (by show w.heap.size ≤ w.heap.size + 1 + 1; omega) (d2) |>.setCell (p := ⟨w.heap.size + 1 + 1, 3, none⟩) (by show w.heap.size ≤ w.heap.size + 1 + 1; omega) (d3) |>.setCell (p := ⟨w.heap.size + 1, 0, none⟩) (by show w.heap.size ≤ w.heap.size + 1; omega) (.string x.fName) |>.setCell (p := ⟨w.heap.size + 1, 1, none⟩) (by show w.heap.size ≤ w.heap.size + 1; omega) (d1) |>.setCell (p := ⟨w.heap.size + 1, 2, none⟩) (by show w.heap.size ≤ w.heap.size + 1; omega) (d2) |>.setCell (p := ⟨w.heap.size + 1, 3, none⟩) (by show w.heap.size ≤ w.heap.size + 1; omega) (d3)
  have u1 := (Up.refl (w.heap.size + 1 + 1) w1) |>.setCell ⟨w.heap.size + 1 + 1, 1, none⟩ (by show w.heap.size + 1 + 1 ≤ w.heap.size + 1 + 1; omega) (d1) |>.setCell ⟨w.heap.size + 1 + 1, 2, none⟩ (by show w.heap.size + 1 + 1 ≤ w.heap.size + 1 + 1; omega) (d2) |>.setCell ⟨w.heap.size + 1 + 1, 3, none⟩ (by show w.heap.size + 1 + 1 ≤ w.heap.size + 1 + 1; omega) (d3) |>.setCell ⟨w.heap.size + 1, 0, none⟩ (by show w.heap.size + 1 ≤ w.heap.size + 1 + 1; omega) (.string x.fName) |>.setCell ⟨w.heap.size + 1, 1, none⟩ (by show w.heap.size + 1 ≤ w.heap.size + 1 + 1; omega) (d1) |>.setCell ⟨w.heap.size + 1, 2, none⟩ (by show w.heap.size + 1 ≤ w.heap.size + 1 + 1; omega) (d2) |>.setCell ⟨w.heap.size + 1, 3, none⟩ (by show w.heap.size + 1 ≤ w.heap.size + 1 + 1; omega) (d3)
  have j1 := join2 n1 s1 List.nodup_nil (b2 := []) (mid := w1.heap.size) (hi := w1.heap.size) (by simp) z1 (Nat.le_refl _)
  refine bodyPost_ret (v := .agg #[.string x.fName, d1, d2, d3]) (by simp [results, Tryz.results263, go_sem, *]) rfl ⟨[.string x.fName, d1, d2, d3], _, rfl, TParam.mk_own HName.out (u1.own o1 s1 (by omega)), j1.1, ?_, hV⟩
  intro b hb
  have := j1.2 b hb
  simp
  omega
set_option maxRecDepth 100000 in
set_option maxHeartbeats 1000000 in
theorem toParamS_c (l : List TParam) : ∀ (_ : szs TParam.sz l ≤ 1048576) (w : World) (K : Nat → Prop) (_ : ∀ b, K b → b < w.heap.size) (v : Value) (_ : Rep w K (.sl (l.map TParam.enc)) [v]),
    Calls Tryz.prog 254 #[v] w fun e w' => ∃ a cap bs, e = .returned (.slice a l.length cap) ∧ Own w' (.sl (l.map TParam.enc)) [.slice a l.length cap] bs ∧ bs.Nodup ∧ (∀ b ∈ bs, w.heap.size ≤ b ∧ b < w'.heap.size) ∧ Below w.heap.size w w' := by
  intro hz w K hK v h
  have hlen : l.length ≤ 1048576 := by unfold szs at hz; omega
  obtain ⟨a, cap, rfl, hc, hm, -, hE⟩ := open_sl TParam.width h
  unfold maxLen at hm
  clear h
  obtain ⟨i0, h2, hz0, hz1, hz2⟩ := info_parts zinfo223
  go_enter Tryz.func254, Tryz.ntmps254
  go_wp2_with (at_make; refine wpList_make_full _ rfl _ _ 131 rfl w.heap.size 223 i0 _ 4 Tryz.underlying131 h2 hz0 hz1 _ _ _ _ l.length rfl rfl rfl rfl (by rw [hz2]; omega) (by unfold maxLen; omega) (Nat.le_refl _) ?_)
  intro wm hown hgr
  have hB0 : Below w.heap.size w wm := (Below.refl _ _).grown hgr (Nat.le_refl _) (by simp)
  have hR : l.length = 0 ∨ RowOf wm w.heap.size 223 (l.length * 4) := (rowOf_made hown).symm
  clear hown hgr
  go_wp2
  go_loopw [4] (fun i wr => ∃ (k : Nat) (r : List Nat), k ≤ l.length ∧ i = .int .i64 k ∧ (l.length = 0 ∨ RowOf wr w.heap.size 223 (l.length * 4)) ∧ OwnE wr ((l.take k).map TParam.enc) w.heap.size 0 r ∧ r.Nodup ∧ (∀ b ∈ r, w.heap.size + 1 ≤ b ∧ b < wr.heap.size) ∧ Below w.heap.size w wr) (fun i _ => l.length - (intOf i).toNat)
  case atStart => exact ⟨0, [], Nat.zero_le _, rfl, hR, by simp only [List.take_zero, List.map_nil, OwnE], List.nodup_nil, by simp, hB0⟩
  case round =>
    clear hR hB0
    obtain ⟨k, r, hk, rfl, hR, h1, n1, r1, hB⟩ := hrel
    by_cases hlt : k < l.length
    · obtain ⟨b, off, rfl, hKb, cs, hcs, hr⟩ := hE k hlt
      have hr' := Rep.ext hB hK hr
      have hcs' := hcs.ext hB (hK b hKb)
      have hK' : ∀ b, K b → b < wr.heap.size := fun b h => Nat.lt_of_lt_of_le (hK b h) hB.size
      have hR' : RowOf wr w.heap.size 223 (l.length * 4) := by rcases hR with h | h <;> first | omega | exact h
      have hroom : k * 4 + 4 ≤ l.length * 4 := by have := Nat.mul_le_mul_right 4 (show k + 1 ≤ l.length from hlt); rw [Nat.add_mul] at this; omega
      clear hE hcs hr hR
      have hi : (Tryz.prog.info? 348).map (·.size) = some cs.length := by rw [Rep.length _ _ hr', TParam.width]; exact infoT348
      have hmem : l[k] ∈ l := List.getElem_mem hlt
      go_wp2_with (with_reducible refine ld rfl 348 _ rfl b _ rfl cs hcs' _ Tryz.underlying348 hi ?_)
      refine (toParam_c l[k] (by have := szL_le TParam.sz hmem; unfold szs at hz; omega) _ K hK' _ hr').mono ?_
      rintro e w1 ⟨cs', bs, rfl, o1, n2, r2, hB1⟩
      have hg : w.heap.size < wr.heap.size := hR'.lt
      obtain ⟨cur, hcur, hsz⟩ := hR'.below hB1 hg
      have Hcur := Lib.hid hcur
      have Hsz := Lib.hid hsz
      clear hcur hsz
      have hl' := (Rep.length (K := fun _ => True) _ _ (Own.rep _ _ _ o1 (fun _ _ => trivial))).trans (TParam.width _)
      have hone := Rep.one (K := fun _ => True) _ _ (Own.rep _ _ _ o1 (fun _ _ => trivial))
      have hi' : (Tryz.prog.info? 223).map (·.size) = some cs'.length := by rw [hl']; exact infoT223
      have Hl' := Lib.hid hl'
      clear hl'
      go_wp2_with (with_reducible refine stA rfl 223 _ _ rfl w.heap.size (k * 4) rfl cs' rfl hi' hone cur 223 Hcur.out (by rw [Hl'.out, Hsz.out]; omega) ?_)
      intro w2 hst
      have R2 : RowOf w2 w.heap.size 223 (l.length * 4) := RowOf.stored ⟨cur, Hcur.out, Hsz.out⟩ hst
      have hrow := row_step TParam.width hlt h1 n1 r1 hg hB1 o1 n2 r2 hst
      have hB2 := hst.below (hB.trans (hB1.mono hB.size)) (Nat.le_refl _)
      obtain ⟨h1', n1', r1'⟩ := hrow
      have A1 := Lib.hid h1'; have A2 := Lib.hid n1'; have A3 := Lib.hid r1'; have A4 := Lib.hid hB2; have A5 := Lib.hid R2
      clear h1' n1' r1' hB2 R2 h1 n1 r1 hB
      go_wp2
      go_roundw
      case rel => exact ⟨k + 1, _, hlt, by go_num, .inr A5.out, A1.out, A2.out, A3.out, A4.out⟩
      case measure => simp [intOf]; omega
    · obtain rfl : k = l.length := by omega
      rw [List.take_length] at h1
      go_wp2
      go_ret
      rcases hR with h | h
      · exact ⟨_, _, [], rfl, own_nil (List.length_eq_zero_iff.1 h) (by unfold maxLen; omega) (by simp), List.nodup_nil, by simp, hB⟩
      · obtain ⟨bs, o1, n2, r2⟩ := row_done (by unfold maxLen; omega) h h1 n1 r1
        exact ⟨_, _, bs, rfl, o1, n2, r2, hB⟩
theorem infoT138 : (Tryz.prog.info? 138).map (·.size) = some 21 := by kernel_rfl
theorem zinfo138 : (Tryz.prog.info? 138).map (fun i => (i.zero, i.size, i.bytes)) = some (some (.agg #[.int .i64 0, .int .i64 0, .int .i64 0, .int .i64 0, .slice none 0 0, .slice none 0 0, .slice none 0 0, .int .i64 0, .string ⟨#[]⟩, .slice none 0 0, .int .i64 0, .string ⟨#[]⟩, .string ⟨#[]⟩, .int .i64 0, .int .i64 0, .string ⟨#[]⟩, .slice none 0 0, .slice none 0 0, .slice none 0 0, .slice none 0 0, .slice none 0 0]), 21, 344) := by kernel_rfl
theorem infoT315 : (Tryz.prog.info? 315).map (·.size) = some 21 := by kernel_rfl
theorem infoT48 : (Tryz.prog.info? 48).map (·.size) = some 1 := by kernel_rfl
theorem infoT130 : (Tryz.prog.info? 130).map (·.size) = some 1 := by kernel_rfl
theorem infoT131 : (Tryz.prog.info? 131).map (·.size) = some 1 := by kernel_rfl
set_option maxRecDepth 100000 in
set_option maxHeartbeats 1000000 in
theorem toUnit_c (x : TUnit) : ∀ (_ : x.sz ≤ 1048576) (w : World) (K : Nat → Prop) (_ : ∀ b, K b → b < w.heap.size) (cs : List Value) (_ : Rep w K x.enc cs),
    Calls Tryz.prog 232 #[.agg cs.toArray] w fun e w' => ∃ cs' bs, e = .returned (.agg cs'.toArray) ∧ Own w' x.enc cs' bs ∧ bs.Nodup ∧ (∀ b ∈ bs, w.heap.size ≤ b ∧ b < w'.heap.size) ∧ Below w.heap.size w w' := by
  intro hz w K hK cs h
  obtain ⟨c4, c5, c6, c7, c8, c9, c10, c11, c12, c13, c14, c15, c16, c17, c18, c19, c20, rfl, hKind, hPackage, hAt, hSub, hVars, hWhere, hParams, hResult, hBody⟩ := TUnit.opn h
  clear h
  have HKind := Lib.hid hKind; clear hKind
  have HPackage := Lib.hid hPackage; clear hPackage
  have HAt := Lib.hid hAt; clear hAt
  have HSub := Lib.hid hSub; clear hSub
  have Hz := Lib.hid hz; clear hz
  have hV0 : Below w.heap.size w (((w.alloc (.cells #[.int .i64 x.fKind, .int .i64 x.fPackage, .int .i64 x.fAt, .int .i64 x.fSub, c4, c5, c6, c7, c8, c9, c10, c11, c12, c13, c14, c15, c16, c17, c18, c19, c20] 315)).alloc (.cells #[.int .i64 0, .int .i64 0, .int .i64 0, .int .i64 0, .slice none 0 0, .slice none 0 0, .slice none 0 0, .int .i64 0, .string ⟨#[]⟩, .slice none 0 0, .int .i64 0, .string ⟨#[]⟩, .string ⟨#[]⟩, .int .i64 0, .int .i64 0, .string ⟨#[]⟩, .slice none 0 0, .slice none 0 0, .slice none 0 0, .slice none 0 0, .slice none 0 0] 138)).alloc (.cells #[.int .i64 x.fKind, .int .i64 x.fPackage, .int .i64 x.fAt, .int .i64 x.fSub, .slice none 0 0, .slice none 0 0, .slice none 0 0, .int .i64 0, .string ⟨#[]⟩, .slice none 0 0, .int .i64 0, .string ⟨#[]⟩, .string ⟨#[]⟩, .int .i64 0, .int .i64 0, .string ⟨#[]⟩, .slice none 0 0, .slice none 0 0, .slice none 0 0, .slice none 0 0, .slice none 0 0] 138)) := (((Below.refl _ _).alloc (Nat.le_refl _) _).alloc (by simp) _).alloc (by simp <;> omega) _
  have hs0 : w.heap.size + 1 + 1 < (((w.alloc (.cells #[.int .i64 x.fKind, .int .i64 x.fPackage, .int .i64 x.fAt, .int .i64 x.fSub, c4, c5, c6, c7, c8, c9, c10, c11, c12, c13, c14, c15, c16, c17, c18, c19, c20] 315)).alloc (.cells #[.int .i64 0, .int .i64 0, .int .i64 0, .int .i64 0, .slice none 0 0, .slice none 0 0, .slice none 0 0, .int .i64 0, .string ⟨#[]⟩, .slice none 0 0, .int .i64 0, .string ⟨#[]⟩, .string ⟨#[]⟩, .int .i64 0, .int .i64 0, .string ⟨#[]⟩, .slice none 0 0, .slice none 0 0, .slice none 0 0, .slice none 0 0, .slice none 0 0] 138)).alloc (.cells #[.int .i64 x.fKind, .int .i64 x.fPackage, .int .i64 x.fAt, .int .i64 x.fSub, .slice none 0 0, .slice none 0 0, .slice none 0 0, .int .i64 0, .string ⟨#[]⟩, .slice none 0 0, .int .i64 0, .string ⟨#[]⟩, .string ⟨#[]⟩, .int .i64 0, .int .i64 0, .string ⟨#[]⟩, .slice none 0 0, .slice none 0 0, .slice none 0 0, .slice none 0 0, .slice none 0 0] 138)).heap.size := by simp
  have HA0 := Lib.hid (show (((w.alloc (.cells #[.int .i64 x.fKind, .int .i64 x.fPackage, .int .i64 x.fAt, .int .i64 x.fSub, c4, c5, c6, c7, c8, c9, c10, c11, c12, c13, c14, c15, c16, c17, c18, c19, c20] 315)).alloc (.cells #[.int .i64 0, .int .i64 0, .int .i64 0, .int .i64 0, .slice none 0 0, .slice none 0 0, .slice none 0 0, .int .i64 0, .string ⟨#[]⟩, .slice none 0 0, .int .i64 0, .string ⟨#[]⟩, .string ⟨#[]⟩, .int .i64 0, .int .i64 0, .string ⟨#[]⟩, .slice none 0 0, .slice none 0 0, .slice none 0 0, .slice none 0 0, .slice none 0 0] 138)).alloc (.cells #[.int .i64 x.fKind, .int .i64 x.fPackage, .int .i64 x.fAt, .int .i64 x.fSub, .slice none 0 0, .slice none 0 0, .slice none 0 0, .int .i64 0, .string ⟨#[]⟩, .slice none 0 0, .int .i64 0, .string ⟨#[]⟩, .string ⟨#[]⟩, .int .i64 0, .int .i64 0, .string ⟨#[]⟩, .slice none 0 0, .slice none 0 0, .slice none 0 0, .slice none 0 0, .slice none 0 0] 138)).heap[w.heap.size]? = some (.cells #[.int .i64 x.fKind, .int .i64 x.fPackage, .int .i64 x.fAt, .int .i64 x.fSub, c4, c5, c6, c7, c8, c9, c10, c11, c12, c13, c14, c15, c16, c17, c18, c19, c20] 315 (0, 0)) from alloc_lt (by simp <;> omega) (alloc_lt (by simp) (alloc_at rfl)))
  have HR0 := Lib.hid (show (((w.alloc (.cells #[.int .i64 x.fKind, .int .i64 x.fPackage, .int .i64 x.fAt, .int .i64 x.fSub, c4, c5, c6, c7, c8, c9, c10, c11, c12, c13, c14, c15, c16, c17, c18, c19, c20] 315)).alloc (.cells #[.int .i64 0, .int .i64 0, .int .i64 0, .int .i64 0, .slice none 0 0, .slice none 0 0, .slice none 0 0, .int .i64 0, .string ⟨#[]⟩, .slice none 0 0, .int .i64 0, .string ⟨#[]⟩, .string ⟨#[]⟩, .int .i64 0, .int .i64 0, .string ⟨#[]⟩, .slice none 0 0, .slice none 0 0, .slice none 0 0, .slice none 0 0, .slice none 0 0] 138)).alloc (.cells #[.int .i64 x.fKind, .int .i64 x.fPackage, .int .i64 x.fAt, .int .i64 x.fSub, .slice none 0 0, .slice none 0 0, .slice none 0 0, .int .i64 0, .string ⟨#[]⟩, .slice none 0 0, .int .i64 0, .string ⟨#[]⟩, .string ⟨#[]⟩, .int .i64 0, .int .i64 0, .string ⟨#[]⟩, .slice none 0 0, .slice none 0 0, .slice none 0 0, .slice none 0 0, .slice none 0 0] 138)).heap[w.heap.size + 1]? = some (.cells #[.int .i64 0, .int .i64 0, .int .i64 0, .int .i64 0, .slice none 0 0, .slice none 0 0, .slice none 0 0, .int .i64 0, .string ⟨#[]⟩, .slice none 0 0, .int .i64 0, .string ⟨#[]⟩, .string ⟨#[]⟩, .int .i64 0, .int .i64 0, .string ⟨#[]⟩, .slice none 0 0, .slice none 0 0, .slice none 0 0, .slice none 0 0, .slice none 0 0] 138 (0, 0)) from alloc_lt (by simp) (alloc_at (by simp)))
  have HG0 := Lib.hid (show (((w.alloc (.cells #[.int .i64 x.fKind, .int .i64 x.fPackage, .int .i64 x.fAt, .int .i64 x.fSub, c4, c5, c6, c7, c8, c9, c10, c11, c12, c13, c14, c15, c16, c17, c18, c19, c20] 315)).alloc (.cells #[.int .i64 0, .int .i64 0, .int .i64 0, .int .i64 0, .slice none 0 0, .slice none 0 0, .slice none 0 0, .int .i64 0, .string ⟨#[]⟩, .slice none 0 0, .int .i64 0, .string ⟨#[]⟩, .string ⟨#[]⟩, .int .i64 0, .int .i64 0, .string ⟨#[]⟩, .slice none 0 0, .slice none 0 0, .slice none 0 0, .slice none 0 0, .slice none 0 0] 138)).alloc (.cells #[.int .i64 x.fKind, .int .i64 x.fPackage, .int .i64 x.fAt, .int .i64 x.fSub, .slice none 0 0, .slice none 0 0, .slice none 0 0, .int .i64 0, .string ⟨#[]⟩, .slice none 0 0, .int .i64 0, .string ⟨#[]⟩, .string ⟨#[]⟩, .int .i64 0, .int .i64 0, .string ⟨#[]⟩, .slice none 0 0, .slice none 0 0, .slice none 0 0, .slice none 0 0, .slice none 0 0] 138)).heap[w.heap.size + 1 + 1]? = some (.cells #[.int .i64 x.fKind, .int .i64 x.fPackage, .int .i64 x.fAt, .int .i64 x.fSub, .slice none 0 0, .slice none 0 0, .slice none 0 0, .int .i64 0, .string ⟨#[]⟩, .slice none 0 0, .int .i64 0, .string ⟨#[]⟩, .string ⟨#[]⟩, .int .i64 0, .int .i64 0, .string ⟨#[]⟩, .slice none 0 0, .slice none 0 0, .slice none 0 0, .slice none 0 0, .slice none 0 0] 138 (0, 0)) from alloc_at (by simp))
  go_enter Tryz.func232, Tryz.ntmps232
  go_wp2_with fail
  refine (toStringS_c x.fVars (by have := Hz.out; rw [TUnit.sz_eq] at this; omega) _ K (fun b hb => Nat.lt_of_lt_of_le (hK b hb) hV0.size) _ (Rep.ext hV0 hK hVars)).mono ?_
  rintro e w1 ⟨a1, p1, b1, rfl, o1, n1, r1, hB1⟩
  have hb1 := hV0.trans (hB1.mono hV0.size)
  have hz1 : w.heap.size + 1 + 1 < w1.heap.size := Nat.lt_of_lt_of_le hs0 hB1.size
  have s1 : ∀ b ∈ b1, w.heap.size + 1 + 1 + 1 ≤ b ∧ b < w1.heap.size := by intro b hb; have := r1 b hb; (try simp at this); omega
  have z1 : w.heap.size + 1 + 1 + 1 ≤ w1.heap.size := by have := hB1.size; (try simp at this); omega
  have HA1' := Lib.hid ((hB1.block (w.heap.size) (by have := hs0; omega)).trans HA0.out)
  have HR1' := Lib.hid ((hB1.block (w.heap.size + 1) (by have := hs0; omega)).trans HR0.out)
  have HG1' := Lib.hid ((hB1.block (w.heap.size + 1 + 1) (by have := hs0; omega)).trans HG0.out)
  clear HA0 HR0 HG0
  have ha1 := Lib.hid (show ((#[.int .i64 x.fKind, .int .i64 x.fPackage, .int .i64 x.fAt, .int .i64 x.fSub, .slice none 0 0, .slice none 0 0, .slice none 0 0, .int .i64 0, .string ⟨#[]⟩, .slice none 0 0, .int .i64 0, .string ⟨#[]⟩, .string ⟨#[]⟩, .int .i64 0, .int .i64 0, .string ⟨#[]⟩, .slice none 0 0, .slice none 0 0, .slice none 0 0, .slice none 0 0, .slice none 0 0] : Array Value).toList.take 4 ++ ([.slice a1 x.fVars.length p1] : List Value) ++ (#[.int .i64 x.fKind, .int .i64 x.fPackage, .int .i64 x.fAt, .int .i64 x.fSub, .slice none 0 0, .slice none 0 0, .slice none 0 0, .int .i64 0, .string ⟨#[]⟩, .slice none 0 0, .int .i64 0, .string ⟨#[]⟩, .string ⟨#[]⟩, .int .i64 0, .int .i64 0, .string ⟨#[]⟩, .slice none 0 0, .slice none 0 0, .slice none 0 0, .slice none 0 0, .slice none 0 0] : Array Value).toList.drop (4 + ([.slice a1 x.fVars.length p1] : List Value).length)).toArray = #[.int .i64 x.fKind, .int .i64 x.fPackage, .int .i64 x.fAt, .int .i64 x.fSub, .slice a1 x.fVars.length p1, .slice none 0 0, .slice none 0 0, .int .i64 0, .string ⟨#[]⟩, .slice none 0 0, .int .i64 0, .string ⟨#[]⟩, .string ⟨#[]⟩, .int .i64 0, .int .i64 0, .string ⟨#[]⟩, .slice none 0 0, .slice none 0 0, .slice none 0 0, .slice none 0 0, .slice none 0 0] from rfl)
  have hf1 := Lib.hid (show 4 < (#[.int .i64 x.fKind, .int .i64 x.fPackage, .int .i64 x.fAt, .int .i64 x.fSub, .slice none 0 0, .slice none 0 0, .slice none 0 0, .int .i64 0, .string ⟨#[]⟩, .slice none 0 0, .int .i64 0, .string ⟨#[]⟩, .string ⟨#[]⟩, .int .i64 0, .int .i64 0, .string ⟨#[]⟩, .slice none 0 0, .slice none 0 0, .slice none 0 0, .slice none 0 0, .slice none 0 0] : Array Value).size from (by decide : 4 < 21))
  go_wp2_with (with_reducible refine stR1 rfl 48 _ _ rfl (w.heap.size + 1 + 1) 4 rfl (.slice a1 x.fVars.length p1) rfl infoT48 rfl (#[.int .i64 x.fKind, .int .i64 x.fPackage, .int .i64 x.fAt, .int .i64 x.fSub, .slice none 0 0, .slice none 0 0, .slice none 0 0, .int .i64 0, .string ⟨#[]⟩, .slice none 0 0, .int .i64 0, .string ⟨#[]⟩, .string ⟨#[]⟩, .int .i64 0, .int .i64 0, .string ⟨#[]⟩, .slice none 0 0, .slice none 0 0, .slice none 0 0, .slice none 0 0, .slice none 0 0] : Array Value) #[.int .i64 x.fKind, .int .i64 x.fPackage, .int .i64 x.fAt, .int .i64 x.fSub, .slice a1 x.fVars.length p1, .slice none 0 0, .slice none 0 0, .int .i64 0, .string ⟨#[]⟩, .slice none 0 0, .int .i64 0, .string ⟨#[]⟩, .string ⟨#[]⟩, .int .i64 0, .int .i64 0, .string ⟨#[]⟩, .slice none 0 0, .slice none 0 0, .slice none 0 0, .slice none 0 0, .slice none 0 0] 138 HG1'.out hf1.out ha1.out ?_)
  intro v1 hp1
  have hV1 := hp1.below hb1 (by omega)
  have hs1 : w.heap.size + 1 + 1 < v1.heap.size := by rw [hp1.size]; exact hz1
  have HA1 := Lib.hid ((hp1.other (w.heap.size) (by omega)).trans HA1'.out)
  have HR1 := Lib.hid ((hp1.other (w.heap.size + 1) (by omega)).trans HR1'.out)
  have HG1 := Lib.hid hp1.row
  clear HA1' HR1' HG1'
  have cA1 := row_cell HA1.out
  have u1 := (Up.refl (w.heap.size + 1 + 1) w1).put hp1 (Nat.le_refl _)
  have y1 : v1.heap.size = w1.heap.size := hp1.size
  go_wp2_with fail
  refine (toBoundS_c x.fWhere (by have := Hz.out; rw [TUnit.sz_eq] at this; omega) _ K (fun b hb => Nat.lt_of_lt_of_le (hK b hb) hV1.size) _ (Rep.ext hV1 hK hWhere)).mono ?_
  rintro e w2 ⟨a2, p2, b2, rfl, o2, n2, r2, hB2⟩
  have hb2 := hV1.trans (hB2.mono hV1.size)
  have hz2 : w.heap.size + 1 + 1 < w2.heap.size := Nat.lt_of_lt_of_le hs1 hB2.size
  have s2 : ∀ b ∈ b2, v1.heap.size ≤ b ∧ b < w2.heap.size := by intro b hb; have := r2 b hb; (try simp at this); omega
  have z2 : v1.heap.size ≤ w2.heap.size := by have := hB2.size; (try simp at this); omega
  have HA2' := Lib.hid ((hB2.block (w.heap.size) (by have := hs1; omega)).trans HA1.out)
  have HR2' := Lib.hid ((hB2.block (w.heap.size + 1) (by have := hs1; omega)).trans HR1.out)
  have HG2' := Lib.hid ((hB2.block (w.heap.size + 1 + 1) (by have := hs1; omega)).trans HG1.out)
  clear HA1 HR1 HG1
  have ha2 := Lib.hid (show ((#[.int .i64 x.fKind, .int .i64 x.fPackage, .int .i64 x.fAt, .int .i64 x.fSub, .slice a1 x.fVars.length p1, .slice none 0 0, .slice none 0 0, .int .i64 0, .string ⟨#[]⟩, .slice none 0 0, .int .i64 0, .string ⟨#[]⟩, .string ⟨#[]⟩, .int .i64 0, .int .i64 0, .string ⟨#[]⟩, .slice none 0 0, .slice none 0 0, .slice none 0 0, .slice none 0 0, .slice none 0 0] : Array Value).toList.take 5 ++ ([.slice a2 x.fWhere.length p2] : List Value) ++ (#[.int .i64 x.fKind, .int .i64 x.fPackage, .int .i64 x.fAt, .int .i64 x.fSub, .slice a1 x.fVars.length p1, .slice none 0 0, .slice none 0 0, .int .i64 0, .string ⟨#[]⟩, .slice none 0 0, .int .i64 0, .string ⟨#[]⟩, .string ⟨#[]⟩, .int .i64 0, .int .i64 0, .string ⟨#[]⟩, .slice none 0 0, .slice none 0 0, .slice none 0 0, .slice none 0 0, .slice none 0 0] : Array Value).toList.drop (5 + ([.slice a2 x.fWhere.length p2] : List Value).length)).toArray = #[.int .i64 x.fKind, .int .i64 x.fPackage, .int .i64 x.fAt, .int .i64 x.fSub, .slice a1 x.fVars.length p1, .slice a2 x.fWhere.length p2, .slice none 0 0, .int .i64 0, .string ⟨#[]⟩, .slice none 0 0, .int .i64 0, .string ⟨#[]⟩, .string ⟨#[]⟩, .int .i64 0, .int .i64 0, .string ⟨#[]⟩, .slice none 0 0, .slice none 0 0, .slice none 0 0, .slice none 0 0, .slice none 0 0] from rfl)
  have hf2 := Lib.hid (show 5 < (#[.int .i64 x.fKind, .int .i64 x.fPackage, .int .i64 x.fAt, .int .i64 x.fSub, .slice a1 x.fVars.length p1, .slice none 0 0, .slice none 0 0, .int .i64 0, .string ⟨#[]⟩, .slice none 0 0, .int .i64 0, .string ⟨#[]⟩, .string ⟨#[]⟩, .int .i64 0, .int .i64 0, .string ⟨#[]⟩, .slice none 0 0, .slice none 0 0, .slice none 0 0, .slice none 0 0, .slice none 0 0] : Array Value).size from (by decide : 5 < 21))
  go_wp2_with (with_reducible refine stR1 rfl 130 _ _ rfl (w.heap.size + 1 + 1) 5 rfl (.slice a2 x.fWhere.length p2) rfl infoT130 rfl (#[.int .i64 x.fKind, .int .i64 x.fPackage, .int .i64 x.fAt, .int .i64 x.fSub, .slice a1 x.fVars.length p1, .slice none 0 0, .slice none 0 0, .int .i64 0, .string ⟨#[]⟩, .slice none 0 0, .int .i64 0, .string ⟨#[]⟩, .string ⟨#[]⟩, .int .i64 0, .int .i64 0, .string ⟨#[]⟩, .slice none 0 0, .slice none 0 0, .slice none 0 0, .slice none 0 0, .slice none 0 0] : Array Value) #[.int .i64 x.fKind, .int .i64 x.fPackage, .int .i64 x.fAt, .int .i64 x.fSub, .slice a1 x.fVars.length p1, .slice a2 x.fWhere.length p2, .slice none 0 0, .int .i64 0, .string ⟨#[]⟩, .slice none 0 0, .int .i64 0, .string ⟨#[]⟩, .string ⟨#[]⟩, .int .i64 0, .int .i64 0, .string ⟨#[]⟩, .slice none 0 0, .slice none 0 0, .slice none 0 0, .slice none 0 0, .slice none 0 0] 138 HG2'.out hf2.out ha2.out ?_)
  intro v2 hp2
  have hV2 := hp2.below hb2 (by omega)
  have hs2 : w.heap.size + 1 + 1 < v2.heap.size := by rw [hp2.size]; exact hz2
  have HA2 := Lib.hid ((hp2.other (w.heap.size) (by omega)).trans HA2'.out)
  have HR2 := Lib.hid ((hp2.other (w.heap.size + 1) (by omega)).trans HR2'.out)
  have HG2 := Lib.hid hp2.row
  clear HA2' HR2' HG2'
  have cA2 := row_cell HA2.out
  clear cA1
  have u1 := (u1.below hB2).put hp2 (Nat.le_refl _)
  have u2 := (Up.refl (w.heap.size + 1 + 1) w2).put hp2 (Nat.le_refl _)
  have y2 : v2.heap.size = w2.heap.size := hp2.size
  go_wp2_with fail
  refine (toParamS_c x.fParams (by have := Hz.out; rw [TUnit.sz_eq] at this; omega) _ K (fun b hb => Nat.lt_of_lt_of_le (hK b hb) hV2.size) _ (Rep.ext hV2 hK hParams)).mono ?_
  rintro e w3 ⟨a3, p3, b3, rfl, o3, n3, r3, hB3⟩
  have hb3 := hV2.trans (hB3.mono hV2.size)
  have hz3 : w.heap.size + 1 + 1 < w3.heap.size := Nat.lt_of_lt_of_le hs2 hB3.size
  have s3 : ∀ b ∈ b3, v2.heap.size ≤ b ∧ b < w3.heap.size := by intro b hb; have := r3 b hb; (try simp at this); omega
  have z3 : v2.heap.size ≤ w3.heap.size := by have := hB3.size; (try simp at this); omega
  have HA3' := Lib.hid ((hB3.block (w.heap.size) (by have := hs2; omega)).trans HA2.out)
  have HR3' := Lib.hid ((hB3.block (w.heap.size + 1) (by have := hs2; omega)).trans HR2.out)
  have HG3' := Lib.hid ((hB3.block (w.heap.size + 1 + 1) (by have := hs2; omega)).trans HG2.out)
  clear HA2 HR2 HG2
  have ha3 := Lib.hid (show ((#[.int .i64 x.fKind, .int .i64 x.fPackage, .int .i64 x.fAt, .int .i64 x.fSub, .slice a1 x.fVars.length p1, .slice a2 x.fWhere.length p2, .slice none 0 0, .int .i64 0, .string ⟨#[]⟩, .slice none 0 0, .int .i64 0, .string ⟨#[]⟩, .string ⟨#[]⟩, .int .i64 0, .int .i64 0, .string ⟨#[]⟩, .slice none 0 0, .slice none 0 0, .slice none 0 0, .slice none 0 0, .slice none 0 0] : Array Value).toList.take 6 ++ ([.slice a3 x.fParams.length p3] : List Value) ++ (#[.int .i64 x.fKind, .int .i64 x.fPackage, .int .i64 x.fAt, .int .i64 x.fSub, .slice a1 x.fVars.length p1, .slice a2 x.fWhere.length p2, .slice none 0 0, .int .i64 0, .string ⟨#[]⟩, .slice none 0 0, .int .i64 0, .string ⟨#[]⟩, .string ⟨#[]⟩, .int .i64 0, .int .i64 0, .string ⟨#[]⟩, .slice none 0 0, .slice none 0 0, .slice none 0 0, .slice none 0 0, .slice none 0 0] : Array Value).toList.drop (6 + ([.slice a3 x.fParams.length p3] : List Value).length)).toArray = #[.int .i64 x.fKind, .int .i64 x.fPackage, .int .i64 x.fAt, .int .i64 x.fSub, .slice a1 x.fVars.length p1, .slice a2 x.fWhere.length p2, .slice a3 x.fParams.length p3, .int .i64 0, .string ⟨#[]⟩, .slice none 0 0, .int .i64 0, .string ⟨#[]⟩, .string ⟨#[]⟩, .int .i64 0, .int .i64 0, .string ⟨#[]⟩, .slice none 0 0, .slice none 0 0, .slice none 0 0, .slice none 0 0, .slice none 0 0] from rfl)
  have hf3 := Lib.hid (show 6 < (#[.int .i64 x.fKind, .int .i64 x.fPackage, .int .i64 x.fAt, .int .i64 x.fSub, .slice a1 x.fVars.length p1, .slice a2 x.fWhere.length p2, .slice none 0 0, .int .i64 0, .string ⟨#[]⟩, .slice none 0 0, .int .i64 0, .string ⟨#[]⟩, .string ⟨#[]⟩, .int .i64 0, .int .i64 0, .string ⟨#[]⟩, .slice none 0 0, .slice none 0 0, .slice none 0 0, .slice none 0 0, .slice none 0 0] : Array Value).size from (by decide : 6 < 21))
  go_wp2_with (with_reducible refine stR1 rfl 131 _ _ rfl (w.heap.size + 1 + 1) 6 rfl (.slice a3 x.fParams.length p3) rfl infoT131 rfl (#[.int .i64 x.fKind, .int .i64 x.fPackage, .int .i64 x.fAt, .int .i64 x.fSub, .slice a1 x.fVars.length p1, .slice a2 x.fWhere.length p2, .slice none 0 0, .int .i64 0, .string ⟨#[]⟩, .slice none 0 0, .int .i64 0, .string ⟨#[]⟩, .string ⟨#[]⟩, .int .i64 0, .int .i64 0, .string ⟨#[]⟩, .slice none 0 0, .slice none 0 0, .slice none 0 0, .slice none 0 0, .slice none 0 0] : Array Value) #[.int .i64 x.fKind, .int .i64 x.fPackage, .int .i64 x.fAt, .int .i64 x.fSub, .slice a1 x.fVars.length p1, .slice a2 x.fWhere.length p2, .slice a3 x.fParams.length p3, .int .i64 0, .string ⟨#[]⟩, .slice none 0 0, .int .i64 0, .string ⟨#[]⟩, .string ⟨#[]⟩, .int .i64 0, .int .i64 0, .string ⟨#[]⟩, .slice none 0 0, .slice none 0 0, .slice none 0 0, .slice none 0 0, .slice none 0 0] 138 HG3'.out hf3.out ha3.out ?_)
  intro v3 hp3
  have hV3 := hp3.below hb3 (by omega)
  have hs3 : w.heap.size + 1 + 1 < v3.heap.size := by rw [hp3.size]; exact hz3
  have HA3 := Lib.hid ((hp3.other (w.heap.size) (by omega)).trans HA3'.out)
  have HR3 := Lib.hid ((hp3.other (w.heap.size + 1) (by omega)).trans HR3'.out)
  have HG3 := Lib.hid hp3.row
  clear HA3' HR3' HG3'
  have cA3 := row_cell HA3.out
  clear cA2
  have u1 := (u1.below hB3).put hp3 (Nat.le_refl _)
  have u2 := (u2.below hB3).put hp3 (Nat.le_refl _)
  have u3 := (Up.refl (w.heap.size + 1 + 1) w3).put hp3 (Nat.le_refl _)
  have y3 : v3.heap.size = w3.heap.size := hp3.size
  go_wp2_with fail
  refine (toType_c x.fResult (by have := Hz.out; rw [TUnit.sz_eq] at this; omega) _ K (fun b hb => Nat.lt_of_lt_of_le (hK b hb) hV3.size) _ (Rep.ext hV3 hK hResult)).mono ?_
  rintro e w4 ⟨cs4, b4, rfl, o4, n4, r4, hB4⟩
  obtain ⟨d7, d8, d9, rfl⟩ := len3 ((Rep.length (K := fun _ => True) _ _ (Own.rep _ _ _ o4 (fun _ _ => trivial))).trans (TType.width _))
  have one4 := Rep.one (K := fun _ => True) _ _ (Own.rep _ _ _ o4 (fun _ _ => trivial))
  have hb4 := hV3.trans (hB4.mono hV3.size)
  have hz4 : w.heap.size + 1 + 1 < w4.heap.size := Nat.lt_of_lt_of_le hs3 hB4.size
  have s4 : ∀ b ∈ b4, v3.heap.size ≤ b ∧ b < w4.heap.size := by intro b hb; have := r4 b hb; (try simp at this); omega
  have z4 : v3.heap.size ≤ w4.heap.size := by have := hB4.size; (try simp at this); omega
  have HA4' := Lib.hid ((hB4.block (w.heap.size) (by have := hs3; omega)).trans HA3.out)
  have HR4' := Lib.hid ((hB4.block (w.heap.size + 1) (by have := hs3; omega)).trans HR3.out)
  have HG4' := Lib.hid ((hB4.block (w.heap.size + 1 + 1) (by have := hs3; omega)).trans HG3.out)
  clear HA3 HR3 HG3
  have ha4 := Lib.hid (show ((#[.int .i64 x.fKind, .int .i64 x.fPackage, .int .i64 x.fAt, .int .i64 x.fSub, .slice a1 x.fVars.length p1, .slice a2 x.fWhere.length p2, .slice a3 x.fParams.length p3, .int .i64 0, .string ⟨#[]⟩, .slice none 0 0, .int .i64 0, .string ⟨#[]⟩, .string ⟨#[]⟩, .int .i64 0, .int .i64 0, .string ⟨#[]⟩, .slice none 0 0, .slice none 0 0, .slice none 0 0, .slice none 0 0, .slice none 0 0] : Array Value).toList.take 7 ++ ([d7, d8, d9] : List Value) ++ (#[.int .i64 x.fKind, .int .i64 x.fPackage, .int .i64 x.fAt, .int .i64 x.fSub, .slice a1 x.fVars.length p1, .slice a2 x.fWhere.length p2, .slice a3 x.fParams.length p3, .int .i64 0, .string ⟨#[]⟩, .slice none 0 0, .int .i64 0, .string ⟨#[]⟩, .string ⟨#[]⟩, .int .i64 0, .int .i64 0, .string ⟨#[]⟩, .slice none 0 0, .slice none 0 0, .slice none 0 0, .slice none 0 0, .slice none 0 0] : Array Value).toList.drop (7 + ([d7, d8, d9] : List Value).length)).toArray = #[.int .i64 x.fKind, .int .i64 x.fPackage, .int .i64 x.fAt, .int .i64 x.fSub, .slice a1 x.fVars.length p1, .slice a2 x.fWhere.length p2, .slice a3 x.fParams.length p3, d7, d8, d9, .int .i64 0, .string ⟨#[]⟩, .string ⟨#[]⟩, .int .i64 0, .int .i64 0, .string ⟨#[]⟩, .slice none 0 0, .slice none 0 0, .slice none 0 0, .slice none 0 0, .slice none 0 0] from rfl)
  have hf4 := Lib.hid (show 7 + ([d7, d8, d9] : List Value).length ≤ (#[.int .i64 x.fKind, .int .i64 x.fPackage, .int .i64 x.fAt, .int .i64 x.fSub, .slice a1 x.fVars.length p1, .slice a2 x.fWhere.length p2, .slice a3 x.fParams.length p3, .int .i64 0, .string ⟨#[]⟩, .slice none 0 0, .int .i64 0, .string ⟨#[]⟩, .string ⟨#[]⟩, .int .i64 0, .int .i64 0, .string ⟨#[]⟩, .slice none 0 0, .slice none 0 0, .slice none 0 0, .slice none 0 0, .slice none 0 0] : Array Value).size from (by decide : 7 + 3 ≤ 21))
  have hi4 := Lib.hid (show (Tryz.prog.info? 88).map (·.size) = some ([d7, d8, d9] : List Value).length from infoT88)
  go_wp2_with (with_reducible refine stR rfl 88 _ _ rfl (w.heap.size + 1 + 1) 7 rfl ([d7, d8, d9] : List Value) rfl hi4.out one4 (#[.int .i64 x.fKind, .int .i64 x.fPackage, .int .i64 x.fAt, .int .i64 x.fSub, .slice a1 x.fVars.length p1, .slice a2 x.fWhere.length p2, .slice a3 x.fParams.length p3, .int .i64 0, .string ⟨#[]⟩, .slice none 0 0, .int .i64 0, .string ⟨#[]⟩, .string ⟨#[]⟩, .int .i64 0, .int .i64 0, .string ⟨#[]⟩, .slice none 0 0, .slice none 0 0, .slice none 0 0, .slice none 0 0, .slice none 0 0] : Array Value) #[.int .i64 x.fKind, .int .i64 x.fPackage, .int .i64 x.fAt, .int .i64 x.fSub, .slice a1 x.fVars.length p1, .slice a2 x.fWhere.length p2, .slice a3 x.fParams.length p3, d7, d8, d9, .int .i64 0, .string ⟨#[]⟩, .string ⟨#[]⟩, .int .i64 0, .int .i64 0, .string ⟨#[]⟩, .slice none 0 0, .slice none 0 0, .slice none 0 0, .slice none 0 0, .slice none 0 0] 138 HG4'.out hf4.out ha4.out ?_)
  intro v4 hp4
  have hV4 := hp4.below hb4 (by omega)
  have hs4 : w.heap.size + 1 + 1 < v4.heap.size := by rw [hp4.size]; exact hz4
  have HA4 := Lib.hid ((hp4.other (w.heap.size) (by omega)).trans HA4'.out)
  have HR4 := Lib.hid ((hp4.other (w.heap.size + 1) (by omega)).trans HR4'.out)
  have HG4 := Lib.hid hp4.row
  clear HA4' HR4' HG4'
  have cA4 := row_cell HA4.out
  clear cA3
  have u1 := (u1.below hB4).put hp4 (Nat.le_refl _)
  have u2 := (u2.below hB4).put hp4 (Nat.le_refl _)
  have u3 := (u3.below hB4).put hp4 (Nat.le_refl _)
  have u4 := (Up.refl (w.heap.size + 1 + 1) w4).put hp4 (Nat.le_refl _)
  have y4 : v4.heap.size = w4.heap.size := hp4.size
  go_wp2_with fail
  refine (toCore_c x.fBody (by have := Hz.out; rw [TUnit.sz_eq] at this; omega) _ K (fun b hb => Nat.lt_of_lt_of_le (hK b hb) hV4.size) _ (Rep.ext hV4 hK hBody)).mono ?_
  rintro e w5 ⟨cs5, b5, rfl, o5, n5, r5, hB5⟩
  obtain ⟨d10, d11, d12, d13, d14, d15, d16, d17, d18, d19, d20, rfl⟩ := len11 ((Rep.length (K := fun _ => True) _ _ (Own.rep _ _ _ o5 (fun _ _ => trivial))).trans (TCore.width _))
  have one5 := Rep.one (K := fun _ => True) _ _ (Own.rep _ _ _ o5 (fun _ _ => trivial))
  have hb5 := hV4.trans (hB5.mono hV4.size)
  have hz5 : w.heap.size + 1 + 1 < w5.heap.size := Nat.lt_of_lt_of_le hs4 hB5.size
  have s5 : ∀ b ∈ b5, v4.heap.size ≤ b ∧ b < w5.heap.size := by intro b hb; have := r5 b hb; (try simp at this); omega
  have z5 : v4.heap.size ≤ w5.heap.size := by have := hB5.size; (try simp at this); omega
  have HA5' := Lib.hid ((hB5.block (w.heap.size) (by have := hs4; omega)).trans HA4.out)
  have HR5' := Lib.hid ((hB5.block (w.heap.size + 1) (by have := hs4; omega)).trans HR4.out)
  have HG5' := Lib.hid ((hB5.block (w.heap.size + 1 + 1) (by have := hs4; omega)).trans HG4.out)
  clear HA4 HR4 HG4
  have ha5 := Lib.hid (show ((#[.int .i64 x.fKind, .int .i64 x.fPackage, .int .i64 x.fAt, .int .i64 x.fSub, .slice a1 x.fVars.length p1, .slice a2 x.fWhere.length p2, .slice a3 x.fParams.length p3, d7, d8, d9, .int .i64 0, .string ⟨#[]⟩, .string ⟨#[]⟩, .int .i64 0, .int .i64 0, .string ⟨#[]⟩, .slice none 0 0, .slice none 0 0, .slice none 0 0, .slice none 0 0, .slice none 0 0] : Array Value).toList.take 10 ++ ([d10, d11, d12, d13, d14, d15, d16, d17, d18, d19, d20] : List Value) ++ (#[.int .i64 x.fKind, .int .i64 x.fPackage, .int .i64 x.fAt, .int .i64 x.fSub, .slice a1 x.fVars.length p1, .slice a2 x.fWhere.length p2, .slice a3 x.fParams.length p3, d7, d8, d9, .int .i64 0, .string ⟨#[]⟩, .string ⟨#[]⟩, .int .i64 0, .int .i64 0, .string ⟨#[]⟩, .slice none 0 0, .slice none 0 0, .slice none 0 0, .slice none 0 0, .slice none 0 0] : Array Value).toList.drop (10 + ([d10, d11, d12, d13, d14, d15, d16, d17, d18, d19, d20] : List Value).length)).toArray = #[.int .i64 x.fKind, .int .i64 x.fPackage, .int .i64 x.fAt, .int .i64 x.fSub, .slice a1 x.fVars.length p1, .slice a2 x.fWhere.length p2, .slice a3 x.fParams.length p3, d7, d8, d9, d10, d11, d12, d13, d14, d15, d16, d17, d18, d19, d20] from rfl)
  have hf5 := Lib.hid (show 10 + ([d10, d11, d12, d13, d14, d15, d16, d17, d18, d19, d20] : List Value).length ≤ (#[.int .i64 x.fKind, .int .i64 x.fPackage, .int .i64 x.fAt, .int .i64 x.fSub, .slice a1 x.fVars.length p1, .slice a2 x.fWhere.length p2, .slice a3 x.fParams.length p3, d7, d8, d9, .int .i64 0, .string ⟨#[]⟩, .string ⟨#[]⟩, .int .i64 0, .int .i64 0, .string ⟨#[]⟩, .slice none 0 0, .slice none 0 0, .slice none 0 0, .slice none 0 0, .slice none 0 0] : Array Value).size from (by decide : 10 + 11 ≤ 21))
  have hi5 := Lib.hid (show (Tryz.prog.info? 136).map (·.size) = some ([d10, d11, d12, d13, d14, d15, d16, d17, d18, d19, d20] : List Value).length from infoT136)
  go_wp2_with (with_reducible refine stR rfl 136 _ _ rfl (w.heap.size + 1 + 1) 10 rfl ([d10, d11, d12, d13, d14, d15, d16, d17, d18, d19, d20] : List Value) rfl hi5.out one5 (#[.int .i64 x.fKind, .int .i64 x.fPackage, .int .i64 x.fAt, .int .i64 x.fSub, .slice a1 x.fVars.length p1, .slice a2 x.fWhere.length p2, .slice a3 x.fParams.length p3, d7, d8, d9, .int .i64 0, .string ⟨#[]⟩, .string ⟨#[]⟩, .int .i64 0, .int .i64 0, .string ⟨#[]⟩, .slice none 0 0, .slice none 0 0, .slice none 0 0, .slice none 0 0, .slice none 0 0] : Array Value) #[.int .i64 x.fKind, .int .i64 x.fPackage, .int .i64 x.fAt, .int .i64 x.fSub, .slice a1 x.fVars.length p1, .slice a2 x.fWhere.length p2, .slice a3 x.fParams.length p3, d7, d8, d9, d10, d11, d12, d13, d14, d15, d16, d17, d18, d19, d20] 138 HG5'.out hf5.out ha5.out ?_)
  intro v5 hp5
  have hV5 := hp5.below hb5 (by omega)
  have hs5 : w.heap.size + 1 + 1 < v5.heap.size := by rw [hp5.size]; exact hz5
  have HA5 := Lib.hid ((hp5.other (w.heap.size) (by omega)).trans HA5'.out)
  have HR5 := Lib.hid ((hp5.other (w.heap.size + 1) (by omega)).trans HR5'.out)
  have HG5 := Lib.hid hp5.row
  clear HA5' HR5' HG5'
  have cA5 := row_cell HA5.out
  clear cA4
  have u1 := (u1.below hB5).put hp5 (Nat.le_refl _)
  have u2 := (u2.below hB5).put hp5 (Nat.le_refl _)
  have u3 := (u3.below hB5).put hp5 (Nat.le_refl _)
  have u4 := (u4.below hB5).put hp5 (Nat.le_refl _)
  have u5 := (Up.refl (w.heap.size + 1 + 1) w5).put hp5 (Nat.le_refl _)
  have y5 : v5.heap.size = w5.heap.size := hp5.size
  have OO := TUnit.mk_own HKind.out HPackage.out HAt.out HSub.out (u1.own o1 s1 (by omega)) (u2.own o2 s2 (by omega)) (u3.own o3 s3 (by omega)) (u4.own o4 s4 (by omega)) (u5.own o5 s5 (by omega))
  have hone := Rep.one (K := fun _ => True) _ _ (Own.rep _ _ _ OO (fun _ _ => trivial))
  have hG := row_cells (cs := [.int .i64 x.fKind, .int .i64 x.fPackage, .int .i64 x.fAt, .int .i64 x.fSub, .slice a1 x.fVars.length p1, .slice a2 x.fWhere.length p2, .slice a3 x.fParams.length p3, d7, d8, d9, d10, d11, d12, d13, d14, d15, d16, d17, d18, d19, d20]) HG5.out
  have haf := Lib.hid (show ((#[.int .i64 0, .int .i64 0, .int .i64 0, .int .i64 0, .slice none 0 0, .slice none 0 0, .slice none 0 0, .int .i64 0, .string ⟨#[]⟩, .slice none 0 0, .int .i64 0, .string ⟨#[]⟩, .string ⟨#[]⟩, .int .i64 0, .int .i64 0, .string ⟨#[]⟩, .slice none 0 0, .slice none 0 0, .slice none 0 0, .slice none 0 0, .slice none 0 0] : Array Value).toList.take 0 ++ ([.int .i64 x.fKind, .int .i64 x.fPackage, .int .i64 x.fAt, .int .i64 x.fSub, .slice a1 x.fVars.length p1, .slice a2 x.fWhere.length p2, .slice a3 x.fParams.length p3, d7, d8, d9, d10, d11, d12, d13, d14, d15, d16, d17, d18, d19, d20] : List Value) ++ (#[.int .i64 0, .int .i64 0, .int .i64 0, .int .i64 0, .slice none 0 0, .slice none 0 0, .slice none 0 0, .int .i64 0, .string ⟨#[]⟩, .slice none 0 0, .int .i64 0, .string ⟨#[]⟩, .string ⟨#[]⟩, .int .i64 0, .int .i64 0, .string ⟨#[]⟩, .slice none 0 0, .slice none 0 0, .slice none 0 0, .slice none 0 0, .slice none 0 0] : Array Value).toList.drop (0 + ([.int .i64 x.fKind, .int .i64 x.fPackage, .int .i64 x.fAt, .int .i64 x.fSub, .slice a1 x.fVars.length p1, .slice a2 x.fWhere.length p2, .slice a3 x.fParams.length p3, d7, d8, d9, d10, d11, d12, d13, d14, d15, d16, d17, d18, d19, d20] : List Value).length)).toArray = #[.int .i64 x.fKind, .int .i64 x.fPackage, .int .i64 x.fAt, .int .i64 x.fSub, .slice a1 x.fVars.length p1, .slice a2 x.fWhere.length p2, .slice a3 x.fParams.length p3, d7, d8, d9, d10, d11, d12, d13, d14, d15, d16, d17, d18, d19, d20] from rfl)
  have hff := Lib.hid (show 0 + ([.int .i64 x.fKind, .int .i64 x.fPackage, .int .i64 x.fAt, .int .i64 x.fSub, .slice a1 x.fVars.length p1, .slice a2 x.fWhere.length p2, .slice a3 x.fParams.length p3, d7, d8, d9, d10, d11, d12, d13, d14, d15, d16, d17, d18, d19, d20] : List Value).length ≤ (#[.int .i64 0, .int .i64 0, .int .i64 0, .int .i64 0, .slice none 0 0, .slice none 0 0, .slice none 0 0, .int .i64 0, .string ⟨#[]⟩, .slice none 0 0, .int .i64 0, .string ⟨#[]⟩, .string ⟨#[]⟩, .int .i64 0, .int .i64 0, .string ⟨#[]⟩, .slice none 0 0, .slice none 0 0, .slice none 0 0, .slice none 0 0, .slice none 0 0] : Array Value).size from (by decide : 0 + 21 ≤ 21))
  have hif := Lib.hid (show (Tryz.prog.info? 138).map (·.size) = some ([.int .i64 x.fKind, .int .i64 x.fPackage, .int .i64 x.fAt, .int .i64 x.fSub, .slice a1 x.fVars.length p1, .slice a2 x.fWhere.length p2, .slice a3 x.fParams.length p3, d7, d8, d9, d10, d11, d12, d13, d14, d15, d16, d17, d18, d19, d20] : List Value).length from infoT138)
  go_wp2_with (first | (with_reducible refine ld rfl 138 _ rfl (w.heap.size + 1 + 1) _ rfl [.int .i64 x.fKind, .int .i64 x.fPackage, .int .i64 x.fAt, .int .i64 x.fSub, .slice a1 x.fVars.length p1, .slice a2 x.fWhere.length p2, .slice a3 x.fParams.length p3, d7, d8, d9, d10, d11, d12, d13, d14, d15, d16, d17, d18, d19, d20] hG _ Tryz.underlying138 hif.out ?_) | (with_reducible refine stR rfl 138 _ _ rfl (w.heap.size + 1) 0 rfl [.int .i64 x.fKind, .int .i64 x.fPackage, .int .i64 x.fAt, .int .i64 x.fSub, .slice a1 x.fVars.length p1, .slice a2 x.fWhere.length p2, .slice a3 x.fParams.length p3, d7, d8, d9, d10, d11, d12, d13, d14, d15, d16, d17, d18, d19, d20] rfl hif.out hone (#[.int .i64 0, .int .i64 0, .int .i64 0, .int .i64 0, .slice none 0 0, .slice none 0 0, .slice none 0 0, .int .i64 0, .string ⟨#[]⟩, .slice none 0 0, .int .i64 0, .string ⟨#[]⟩, .string ⟨#[]⟩, .int .i64 0, .int .i64 0, .string ⟨#[]⟩, .slice none 0 0, .slice none 0 0, .slice none 0 0, .slice none 0 0, .slice none 0 0] : Array Value) #[.int .i64 x.fKind, .int .i64 x.fPackage, .int .i64 x.fAt, .int .i64 x.fSub, .slice a1 x.fVars.length p1, .slice a2 x.fWhere.length p2, .slice a3 x.fParams.length p3, d7, d8, d9, d10, d11, d12, d13, d14, d15, d16, d17, d18, d19, d20] 138 HR5.out hff.out haf.out ?_))
  intro vf hpf
  have hV := hpf.below hV5 (by omega)
  have u1 := u1.put hpf (by omega)
  have u2 := u2.put hpf (by omega)
  have u3 := u3.put hpf (by omega)
  have u4 := u4.put hpf (by omega)
  have u5 := u5.put hpf (by omega)
  have cR := row_cells (cs := [.int .i64 x.fKind, .int .i64 x.fPackage, .int .i64 x.fAt, .int .i64 x.fSub, .slice a1 x.fVars.length p1, .slice a2 x.fWhere.length p2, .slice a3 x.fParams.length p3, d7, d8, d9, d10, d11, d12, d13, d14, d15, d16, d17, d18, d19, d20]) hpf.row
  have yf := hpf.size
  have j5 := join2 n5 s5 List.nodup_nil (b2 := []) (mid := w5.heap.size) (hi := w5.heap.size) (by simp) z5 (Nat.le_refl _)
  have j4 := join2 n4 s4 j5.1 (fun b hb => (by have := j5.2 b hb; omega : w4.heap.size ≤ b ∧ b < w5.heap.size)) z4 (by omega)
  have j3 := join2 n3 s3 j4.1 (fun b hb => (by have := j4.2 b hb; omega : w3.heap.size ≤ b ∧ b < w5.heap.size)) z3 (by omega)
  have j2 := join2 n2 s2 j3.1 (fun b hb => (by have := j3.2 b hb; omega : w2.heap.size ≤ b ∧ b < w5.heap.size)) z2 (by omega)
  have j1 := join2 n1 s1 j2.1 (fun b hb => (by have := j2.2 b hb; omega : w1.heap.size ≤ b ∧ b < w5.heap.size)) z1 (by omega)
  go_wp2
  refine bodyPost_ret (v := .agg #[.int .i64 x.fKind, .int .i64 x.fPackage, .int .i64 x.fAt, .int .i64 x.fSub, .slice a1 x.fVars.length p1, .slice a2 x.fWhere.length p2, .slice a3 x.fParams.length p3, d7, d8, d9, d10, d11, d12, d13, d14, d15, d16, d17, d18, d19, d20]) (run_res Tryz.results232 (w.heap.size + 1) rfl [.int .i64 x.fKind, .int .i64 x.fPackage, .int .i64 x.fAt, .int .i64 x.fSub, .slice a1 x.fVars.length p1, .slice a2 x.fWhere.length p2, .slice a3 x.fParams.length p3, d7, d8, d9, d10, d11, d12, d13, d14, d15, d16, d17, d18, d19, d20] cR _ Tryz.underlying138 hif.out) rfl ⟨[.int .i64 x.fKind, .int .i64 x.fPackage, .int .i64 x.fAt, .int .i64 x.fSub, .slice a1 x.fVars.length p1, .slice a2 x.fWhere.length p2, .slice a3 x.fParams.length p3, d7, d8, d9, d10, d11, d12, d13, d14, d15, d16, d17, d18, d19, d20], _, rfl, TUnit.mk_own HKind.out HPackage.out HAt.out HSub.out (u1.own o1 s1 (by omega)) (u2.own o2 s2 (by omega)) (u3.own o3 s3 (by omega)) (u4.own o4 s4 (by omega)) (u5.own o5 s5 (by omega)), j1.1, ?_, hV⟩
  intro b hb
  have := j1.2 b hb
  omega
set_option maxRecDepth 100000 in
set_option maxHeartbeats 1000000 in
theorem toUnitS_c (l : List TUnit) : ∀ (_ : szs TUnit.sz l ≤ 1048576) (w : World) (K : Nat → Prop) (_ : ∀ b, K b → b < w.heap.size) (v : Value) (_ : Rep w K (.sl (l.map TUnit.enc)) [v]),
    Calls Tryz.prog 192 #[v] w fun e w' => ∃ a cap bs, e = .returned (.slice a l.length cap) ∧ Own w' (.sl (l.map TUnit.enc)) [.slice a l.length cap] bs ∧ bs.Nodup ∧ (∀ b ∈ bs, w.heap.size ≤ b ∧ b < w'.heap.size) ∧ Below w.heap.size w w' := by
  intro hz w K hK v h
  have hlen : l.length ≤ 1048576 := by unfold szs at hz; omega
  obtain ⟨a, cap, rfl, hc, hm, -, hE⟩ := open_sl TUnit.width h
  unfold maxLen at hm
  clear h
  obtain ⟨i0, h2, hz0, hz1, hz2⟩ := info_parts zinfo138
  go_enter Tryz.func192, Tryz.ntmps192
  go_wp2_with (at_make; refine wpList_make_full _ rfl _ _ 65 rfl w.heap.size 138 i0 _ 21 Tryz.underlying65 h2 hz0 hz1 _ _ _ _ l.length rfl rfl rfl rfl (by rw [hz2]; omega) (by unfold maxLen; omega) (Nat.le_refl _) ?_)
  intro wm hown hgr
  have hB0 : Below w.heap.size w wm := (Below.refl _ _).grown hgr (Nat.le_refl _) (by simp)
  have hR : l.length = 0 ∨ RowOf wm w.heap.size 138 (l.length * 21) := (rowOf_made hown).symm
  clear hown hgr
  go_wp2
  go_loopw [4] (fun i wr => ∃ (k : Nat) (r : List Nat), k ≤ l.length ∧ i = .int .i64 k ∧ (l.length = 0 ∨ RowOf wr w.heap.size 138 (l.length * 21)) ∧ OwnE wr ((l.take k).map TUnit.enc) w.heap.size 0 r ∧ r.Nodup ∧ (∀ b ∈ r, w.heap.size + 1 ≤ b ∧ b < wr.heap.size) ∧ Below w.heap.size w wr) (fun i _ => l.length - (intOf i).toNat)
  case atStart => exact ⟨0, [], Nat.zero_le _, rfl, hR, by simp only [List.take_zero, List.map_nil, OwnE], List.nodup_nil, by simp, hB0⟩
  case round =>
    clear hR hB0
    obtain ⟨k, r, hk, rfl, hR, h1, n1, r1, hB⟩ := hrel
    by_cases hlt : k < l.length
    · obtain ⟨b, off, rfl, hKb, cs, hcs, hr⟩ := hE k hlt
      have hr' := Rep.ext hB hK hr
      have hcs' := hcs.ext hB (hK b hKb)
      have hK' : ∀ b, K b → b < wr.heap.size := fun b h => Nat.lt_of_lt_of_le (hK b h) hB.size
      have hR' : RowOf wr w.heap.size 138 (l.length * 21) := by rcases hR with h | h <;> first | omega | exact h
      have hroom : k * 21 + 21 ≤ l.length * 21 := by have := Nat.mul_le_mul_right 21 (show k + 1 ≤ l.length from hlt); rw [Nat.add_mul] at this; omega
      clear hE hcs hr hR
      have hi : (Tryz.prog.info? 315).map (·.size) = some cs.length := by rw [Rep.length _ _ hr', TUnit.width]; exact infoT315
      have hmem : l[k] ∈ l := List.getElem_mem hlt
      go_wp2_with (with_reducible refine ld rfl 315 _ rfl b _ rfl cs hcs' _ Tryz.underlying315 hi ?_)
      refine (toUnit_c l[k] (by have := szL_le TUnit.sz hmem; unfold szs at hz; omega) _ K hK' _ hr').mono ?_
      rintro e w1 ⟨cs', bs, rfl, o1, n2, r2, hB1⟩
      have hg : w.heap.size < wr.heap.size := hR'.lt
      obtain ⟨cur, hcur, hsz⟩ := hR'.below hB1 hg
      have Hcur := Lib.hid hcur
      have Hsz := Lib.hid hsz
      clear hcur hsz
      have hl' := (Rep.length (K := fun _ => True) _ _ (Own.rep _ _ _ o1 (fun _ _ => trivial))).trans (TUnit.width _)
      have hone := Rep.one (K := fun _ => True) _ _ (Own.rep _ _ _ o1 (fun _ _ => trivial))
      have hi' : (Tryz.prog.info? 138).map (·.size) = some cs'.length := by rw [hl']; exact infoT138
      have Hl' := Lib.hid hl'
      clear hl'
      go_wp2_with (with_reducible refine stA rfl 138 _ _ rfl w.heap.size (k * 21) rfl cs' rfl hi' hone cur 138 Hcur.out (by rw [Hl'.out, Hsz.out]; omega) ?_)
      intro w2 hst
      have R2 : RowOf w2 w.heap.size 138 (l.length * 21) := RowOf.stored ⟨cur, Hcur.out, Hsz.out⟩ hst
      have hrow := row_step TUnit.width hlt h1 n1 r1 hg hB1 o1 n2 r2 hst
      have hB2 := hst.below (hB.trans (hB1.mono hB.size)) (Nat.le_refl _)
      obtain ⟨h1', n1', r1'⟩ := hrow
      have A1 := Lib.hid h1'; have A2 := Lib.hid n1'; have A3 := Lib.hid r1'; have A4 := Lib.hid hB2; have A5 := Lib.hid R2
      clear h1' n1' r1' hB2 R2 h1 n1 r1 hB
      go_wp2
      go_roundw
      case rel => exact ⟨k + 1, _, hlt, by go_num, .inr A5.out, A1.out, A2.out, A3.out, A4.out⟩
      case measure => simp [intOf]; omega
    · obtain rfl : k = l.length := by omega
      rw [List.take_length] at h1
      go_wp2
      go_ret
      rcases hR with h | h
      · exact ⟨_, _, [], rfl, own_nil (List.length_eq_zero_iff.1 h) (by unfold maxLen; omega) (by simp), List.nodup_nil, by simp, hB⟩
      · obtain ⟨bs, o1, n2, r2⟩ := row_done (by unfold maxLen; omega) h h1 n1 r1
        exact ⟨_, _, bs, rfl, o1, n2, r2, hB⟩
theorem infoT284 : (Tryz.prog.info? 284).map (·.size) = some 6 := by kernel_rfl
theorem zinfo284 : (Tryz.prog.info? 284).map (fun i => (i.zero, i.size, i.bytes)) = some (some (.agg #[.int .i64 0, .int .i64 0, .int .i64 0, .int .i64 0, .int .i64 0, .int .i64 0]), 6, 48) := by kernel_rfl
theorem infoT318 : (Tryz.prog.info? 318).map (·.size) = some 6 := by kernel_rfl
set_option maxRecDepth 100000 in
set_option maxHeartbeats 1000000 in
theorem toUnitError_c (x : TUnitError) : ∀ (w : World) (K : Nat → Prop) (_ : ∀ b, K b → b < w.heap.size) (cs : List Value) (_ : Rep w K x.enc cs),
    Calls Tryz.prog 233 #[.agg cs.toArray] w fun e w' => ∃ cs' bs, e = .returned (.agg cs'.toArray) ∧ Own w' x.enc cs' bs ∧ bs.Nodup ∧ (∀ b ∈ bs, w.heap.size ≤ b ∧ b < w'.heap.size) ∧ Below w.heap.size w w' := by
  intro w K hK cs h
  obtain ⟨rfl, hKind, hPackage, hAt, hSub, hCode, hNode⟩ := TUnitError.opn h
  clear h
  have HKind := Lib.hid hKind; clear hKind
  have HPackage := Lib.hid hPackage; clear hPackage
  have HAt := Lib.hid hAt; clear hAt
  have HSub := Lib.hid hSub; clear hSub
  have HCode := Lib.hid hCode; clear hCode
  have HNode := Lib.hid hNode; clear hNode
  go_enter Tryz.func233, Tryz.ntmps233
  go_wp2
  refine bodyPost_ret (v := .agg #[.int .i64 x.fKind, .int .i64 x.fPackage, .int .i64 x.fAt, .int .i64 x.fSub, .int .i64 x.fCode, .int .i64 x.fNode]) (by simp [results, Tryz.results233, go_sem]) rfl ⟨[.int .i64 x.fKind, .int .i64 x.fPackage, .int .i64 x.fAt, .int .i64 x.fSub, .int .i64 x.fCode, .int .i64 x.fNode], [], rfl, ?_, List.nodup_nil, by simp, ?_⟩
  · exact TUnitError.mk_own HKind.out HPackage.out HAt.out HSub.out HCode.out HNode.out
  · exact (((Below.refl _ _).alloc (Nat.le_refl _) _).alloc (by simp) _).alloc (by simp <;> omega) _
set_option maxRecDepth 100000 in
set_option maxHeartbeats 1000000 in
theorem toUnitErrorS_c (l : List TUnitError) : ∀ (_ : szs (fun _ => 0) l ≤ 1048576) (w : World) (K : Nat → Prop) (_ : ∀ b, K b → b < w.heap.size) (v : Value) (_ : Rep w K (.sl (l.map TUnitError.enc)) [v]),
    Calls Tryz.prog 193 #[v] w fun e w' => ∃ a cap bs, e = .returned (.slice a l.length cap) ∧ Own w' (.sl (l.map TUnitError.enc)) [.slice a l.length cap] bs ∧ bs.Nodup ∧ (∀ b ∈ bs, w.heap.size ≤ b ∧ b < w'.heap.size) ∧ Below w.heap.size w w' := by
  intro hz w K hK v h
  have hlen : l.length ≤ 1048576 := by unfold szs at hz; omega
  obtain ⟨a, cap, rfl, hc, hm, -, hE⟩ := open_sl TUnitError.width h
  unfold maxLen at hm
  clear h
  obtain ⟨i0, h2, hz0, hz1, hz2⟩ := info_parts zinfo284
  go_enter Tryz.func193, Tryz.ntmps193
  go_wp2_with (at_make; refine wpList_make_full _ rfl _ _ 125 rfl w.heap.size 284 i0 _ 6 Tryz.underlying125 h2 hz0 hz1 _ _ _ _ l.length rfl rfl rfl rfl (by rw [hz2]; omega) (by unfold maxLen; omega) (Nat.le_refl _) ?_)
  intro wm hown hgr
  have hB0 : Below w.heap.size w wm := (Below.refl _ _).grown hgr (Nat.le_refl _) (by simp)
  have hR : l.length = 0 ∨ RowOf wm w.heap.size 284 (l.length * 6) := (rowOf_made hown).symm
  clear hown hgr
  go_wp2
  go_loopw [4] (fun i wr => ∃ (k : Nat) (r : List Nat), k ≤ l.length ∧ i = .int .i64 k ∧ (l.length = 0 ∨ RowOf wr w.heap.size 284 (l.length * 6)) ∧ OwnE wr ((l.take k).map TUnitError.enc) w.heap.size 0 r ∧ r.Nodup ∧ (∀ b ∈ r, w.heap.size + 1 ≤ b ∧ b < wr.heap.size) ∧ Below w.heap.size w wr) (fun i _ => l.length - (intOf i).toNat)
  case atStart => exact ⟨0, [], Nat.zero_le _, rfl, hR, by simp only [List.take_zero, List.map_nil, OwnE], List.nodup_nil, by simp, hB0⟩
  case round =>
    clear hR hB0
    obtain ⟨k, r, hk, rfl, hR, h1, n1, r1, hB⟩ := hrel
    by_cases hlt : k < l.length
    · obtain ⟨b, off, rfl, hKb, cs, hcs, hr⟩ := hE k hlt
      have hr' := Rep.ext hB hK hr
      have hcs' := hcs.ext hB (hK b hKb)
      have hK' : ∀ b, K b → b < wr.heap.size := fun b h => Nat.lt_of_lt_of_le (hK b h) hB.size
      have hR' : RowOf wr w.heap.size 284 (l.length * 6) := by rcases hR with h | h <;> first | omega | exact h
      have hroom : k * 6 + 6 ≤ l.length * 6 := by have := Nat.mul_le_mul_right 6 (show k + 1 ≤ l.length from hlt); rw [Nat.add_mul] at this; omega
      clear hE hcs hr hR
      have hi : (Tryz.prog.info? 318).map (·.size) = some cs.length := by rw [Rep.length _ _ hr', TUnitError.width]; exact infoT318
      have hmem : l[k] ∈ l := List.getElem_mem hlt
      go_wp2_with (with_reducible refine ld rfl 318 _ rfl b _ rfl cs hcs' _ Tryz.underlying318 hi ?_)
      refine (toUnitError_c l[k] _ K hK' _ hr').mono ?_
      rintro e w1 ⟨cs', bs, rfl, o1, n2, r2, hB1⟩
      have hg : w.heap.size < wr.heap.size := hR'.lt
      obtain ⟨cur, hcur, hsz⟩ := hR'.below hB1 hg
      have Hcur := Lib.hid hcur
      have Hsz := Lib.hid hsz
      clear hcur hsz
      have hl' := (Rep.length (K := fun _ => True) _ _ (Own.rep _ _ _ o1 (fun _ _ => trivial))).trans (TUnitError.width _)
      have hone := Rep.one (K := fun _ => True) _ _ (Own.rep _ _ _ o1 (fun _ _ => trivial))
      have hi' : (Tryz.prog.info? 284).map (·.size) = some cs'.length := by rw [hl']; exact infoT284
      have Hl' := Lib.hid hl'
      clear hl'
      go_wp2_with (with_reducible refine stA rfl 284 _ _ rfl w.heap.size (k * 6) rfl cs' rfl hi' hone cur 284 Hcur.out (by rw [Hl'.out, Hsz.out]; omega) ?_)
      intro w2 hst
      have R2 : RowOf w2 w.heap.size 284 (l.length * 6) := RowOf.stored ⟨cur, Hcur.out, Hsz.out⟩ hst
      have hrow := row_step TUnitError.width hlt h1 n1 r1 hg hB1 o1 n2 r2 hst
      have hB2 := hst.below (hB.trans (hB1.mono hB.size)) (Nat.le_refl _)
      obtain ⟨h1', n1', r1'⟩ := hrow
      have A1 := Lib.hid h1'; have A2 := Lib.hid n1'; have A3 := Lib.hid r1'; have A4 := Lib.hid hB2; have A5 := Lib.hid R2
      clear h1' n1' r1' hB2 R2 h1 n1 r1 hB
      go_wp2
      go_roundw
      case rel => exact ⟨k + 1, _, hlt, by go_num, .inr A5.out, A1.out, A2.out, A3.out, A4.out⟩
      case measure => simp [intOf]; omega
    · obtain rfl : k = l.length := by omega
      rw [List.take_length] at h1
      go_wp2
      go_ret
      rcases hR with h | h
      · exact ⟨_, _, [], rfl, own_nil (List.length_eq_zero_iff.1 h) (by unfold maxLen; omega) (by simp), List.nodup_nil, by simp, hB⟩
      · obtain ⟨bs, o1, n2, r2⟩ := row_done (by unfold maxLen; omega) h h1 n1 r1
        exact ⟨_, _, bs, rfl, o1, n2, r2, hB⟩
theorem infoT127 : (Tryz.prog.info? 127).map (·.size) = some 4 := by kernel_rfl
theorem zinfo127 : (Tryz.prog.info? 127).map (fun i => (i.zero, i.size, i.bytes)) = some (some (.agg #[.string ⟨#[]⟩, .string ⟨#[]⟩, .slice none 0 0, .slice none 0 0]), 4, 80) := by kernel_rfl
theorem infoT221 : (Tryz.prog.info? 221).map (·.size) = some 4 := by kernel_rfl
set_option maxRecDepth 100000 in
set_option maxHeartbeats 1000000 in
theorem toBuiltPackage_c (x : TBuiltPackage) : ∀ (_ : x.sz ≤ 1048576) (w : World) (K : Nat → Prop) (_ : ∀ b, K b → b < w.heap.size) (cs : List Value) (_ : Rep w K x.enc cs),
    Calls Tryz.prog 133 #[.agg cs.toArray] w fun e w' => ∃ cs' bs, e = .returned (.agg cs'.toArray) ∧ Own w' x.enc cs' bs ∧ bs.Nodup ∧ (∀ b ∈ bs, w.heap.size ≤ b ∧ b < w'.heap.size) ∧ Below w.heap.size w w' := by
  intro hz w K hK cs h
  obtain ⟨c2, c3, rfl, hName, hKey, hUnits, hErrors⟩ := TBuiltPackage.opn h
  clear h
  have HName := Lib.hid hName; clear hName
  have HKey := Lib.hid hKey; clear hKey
  have Hz := Lib.hid hz; clear hz
  have hV0 : Below w.heap.size w (((w.alloc (.cells #[.string x.fName, .string x.fKey, c2, c3] 221)).alloc (.cells #[.string ⟨#[]⟩, .string ⟨#[]⟩, .slice none 0 0, .slice none 0 0] 127)).alloc (.cells #[.string x.fName, .string x.fKey, .slice none 0 0, .slice none 0 0] 127)) := (((Below.refl _ _).alloc (Nat.le_refl _) _).alloc (by simp) _).alloc (by simp <;> omega) _
  have hs0 : w.heap.size + 1 + 1 < (((w.alloc (.cells #[.string x.fName, .string x.fKey, c2, c3] 221)).alloc (.cells #[.string ⟨#[]⟩, .string ⟨#[]⟩, .slice none 0 0, .slice none 0 0] 127)).alloc (.cells #[.string x.fName, .string x.fKey, .slice none 0 0, .slice none 0 0] 127)).heap.size := by simp
  go_enter Tryz.func133, Tryz.ntmps133
  go_wp2_with fail
  refine (toUnitS_c x.fUnits (by have := Hz.out; rw [TBuiltPackage.sz_eq] at this; omega) _ K (fun b hb => Nat.lt_of_lt_of_le (hK b hb) hV0.size) _ (Rep.ext hV0 hK hUnits)).mono ?_
  rintro e w1 ⟨a1, p1, b1, rfl, o1, n1, r1, hB1⟩
  have hb1 := hV0.trans (hB1.mono hV0.size)
  have hc1 := (bcell hB1).1
  have hf1 := (bcell hB1).2
  have hz1 : w.heap.size + 1 + 1 < w1.heap.size := Nat.lt_of_lt_of_le hs0 hB1.size
  have hy1 : w.heap.size < w1.heap.size := by omega
  have hx1 : w.heap.size + 1 < w1.heap.size := by omega
  have s1 : ∀ b ∈ b1, w.heap.size + 1 + 1 + 1 ≤ b ∧ b < w1.heap.size := by intro b hb; have := r1 b hb; simp at this; omega
  have z1 : w.heap.size + 1 + 1 + 1 ≤ w1.heap.size := by have := hB1.size; simp at this; omega
  have hV1 := hb1 |>.setCell (p := ⟨w.heap.size + 1 + 1, 2, none⟩) (by show w.heap.size ≤ w.heap.size + 1 + 1; omega) (.slice a1 x.fUnits.length p1)
  have hs1 : w.heap.size + 1 + 1 < _ := Nat.lt_of_lt_of_le hz1 ((Up.refl (w.heap.size + 1 + 1) w1) |>.setCell ⟨w.heap.size + 1 + 1, 2, none⟩ (Nat.le_refl _) (.slice a1 x.fUnits.length p1)).size
  have u1 := (Up.refl (w.heap.size + 1 + 1) w1) |>.setCell ⟨w.heap.size + 1 + 1, 2, none⟩ (Nat.le_refl _) (.slice a1 x.fUnits.length p1)
  go_wp2_with fail
  refine (toUnitErrorS_c x.fErrors (by have := Hz.out; rw [TBuiltPackage.sz_eq] at this; omega) _ K (fun b hb => Nat.lt_of_lt_of_le (hK b hb) hV1.size) _ (Rep.ext hV1 hK hErrors)).mono ?_
  rintro e w2 ⟨a2, p2, b2, rfl, o2, n2, r2, hB2⟩
  have hb2 := hV1.trans (hB2.mono hV1.size)
  have hc2 := (bcell hB2).1
  have hf2 := (bcell hB2).2
  have hz2 : w.heap.size + 1 + 1 < w2.heap.size := Nat.lt_of_lt_of_le hs1 hB2.size
  have hy2 : w.heap.size < w2.heap.size := by omega
  have hx2 : w.heap.size + 1 < w2.heap.size := by omega
  have s2 : ∀ b ∈ b2, w1.heap.size ≤ b ∧ b < w2.heap.size := by intro b hb; have := r2 b hb; simp at this; omega
  have z2 : w1.heap.size ≤ w2.heap.size := by have := hB2.size; simp at this; omega
  have u1 := u1.below hB2
  go_wp2
  have hV := hb2 |>.setCell (p := ⟨w.heap.size + 1 + 1, 3, none⟩) (by show w.heap.size ≤ w.heap.size + 1 + 1; omega) (.slice a2 x.fErrors.length p2) |>.setCell (p := ⟨w.heap.size + 1, 0, none⟩) (by show w.heap.size ≤ w.heap.size + 1; omega) (.string x.fName) |>.setCell (p := ⟨w.heap.size + 1, 1, none⟩) (by show w.heap.size ≤ w.heap.size + 1; omega) (.string x.fKey) |>.setCell (p := ⟨w.heap.size + 1, 2, none⟩) (by show w.heap.size ≤ w.heap.size + 1; omega) (.slice a1 x.fUnits.length p1) |>.setCell (p := ⟨w.heap.size + 1, 3, none⟩) (by show w.heap.size ≤ w.heap.size + 1; omega) (.slice a2 x.fErrors.length p2)
  have u1 := u1 |>.setCell ⟨w.heap.size + 1 + 1, 3, none⟩ (by show w.heap.size + 1 + 1 ≤ w.heap.size + 1 + 1; omega) (.slice a2 x.fErrors.length p2) |>.setCell ⟨w.heap.size + 1, 0, none⟩ (by show w.heap.size + 1 ≤ w.heap.size + 1 + 1; omega) (.string x.fName) |>.setCell ⟨w.heap.size + 1, 1, none⟩ (by show w.heap.size + 1 ≤ w.heap.size + 1 + 1; omega) (.string x.fKey) |>.setCell ⟨w.heap.size + 1, 2, none⟩ (by show w.heap.size + 1 ≤ w.heap.size + 1 + 1; omega) (.slice a1 x.fUnits.length p1) |>.setCell ⟨w.heap.size + 1, 3, none⟩ (by show w.heap.size + 1 ≤ w.heap.size + 1 + 1; omega) (.slice a2 x.fErrors.length p2)
  have u2 := (Up.refl (w.heap.size + 1 + 1) w2) |>.setCell ⟨w.heap.size + 1 + 1, 3, none⟩ (by show w.heap.size + 1 + 1 ≤ w.heap.size + 1 + 1; omega) (.slice a2 x.fErrors.length p2) |>.setCell ⟨w.heap.size + 1, 0, none⟩ (by show w.heap.size + 1 ≤ w.heap.size + 1 + 1; omega) (.string x.fName) |>.setCell ⟨w.heap.size + 1, 1, none⟩ (by show w.heap.size + 1 ≤ w.heap.size + 1 + 1; omega) (.string x.fKey) |>.setCell ⟨w.heap.size + 1, 2, none⟩ (by show w.heap.size + 1 ≤ w.heap.size + 1 + 1; omega) (.slice a1 x.fUnits.length p1) |>.setCell ⟨w.heap.size + 1, 3, none⟩ (by show w.heap.size + 1 ≤ w.heap.size + 1 + 1; omega) (.slice a2 x.fErrors.length p2)
  have j2 := join2 n2 s2 List.nodup_nil (b2 := []) (mid := w2.heap.size) (hi := w2.heap.size) (by simp) z2 (Nat.le_refl _)
  have j1 := join2 n1 s1 j2.1 j2.2 z1 (by omega)
  refine bodyPost_ret (v := .agg #[.string x.fName, .string x.fKey, .slice a1 x.fUnits.length p1, .slice a2 x.fErrors.length p2]) (by simp [results, Tryz.results133, go_sem, *]) rfl ⟨[.string x.fName, .string x.fKey, .slice a1 x.fUnits.length p1, .slice a2 x.fErrors.length p2], _, rfl, TBuiltPackage.mk_own HName.out HKey.out (u1.own o1 s1 (by omega)) (u2.own o2 s2 (by omega)), j1.1, ?_, hV⟩
  intro b hb
  have := j1.2 b hb
  simp
  omega
set_option maxRecDepth 100000 in
set_option maxHeartbeats 1000000 in
theorem toBuiltPackageS_c (l : List TBuiltPackage) : ∀ (_ : szs TBuiltPackage.sz l ≤ 1048576) (w : World) (K : Nat → Prop) (_ : ∀ b, K b → b < w.heap.size) (v : Value) (_ : Rep w K (.sl (l.map TBuiltPackage.enc)) [v]),
    Calls Tryz.prog 71 #[v] w fun e w' => ∃ a cap bs, e = .returned (.slice a l.length cap) ∧ Own w' (.sl (l.map TBuiltPackage.enc)) [.slice a l.length cap] bs ∧ bs.Nodup ∧ (∀ b ∈ bs, w.heap.size ≤ b ∧ b < w'.heap.size) ∧ Below w.heap.size w w' := by
  intro hz w K hK v h
  have hlen : l.length ≤ 1048576 := by unfold szs at hz; omega
  obtain ⟨a, cap, rfl, hc, hm, -, hE⟩ := open_sl TBuiltPackage.width h
  unfold maxLen at hm
  clear h
  obtain ⟨i0, h2, hz0, hz1, hz2⟩ := info_parts zinfo127
  go_enter Tryz.func71, Tryz.ntmps71
  go_wp2_with (at_make; refine wpList_make_full _ rfl _ _ 67 rfl w.heap.size 127 i0 _ 4 Tryz.underlying67 h2 hz0 hz1 _ _ _ _ l.length rfl rfl rfl rfl (by rw [hz2]; omega) (by unfold maxLen; omega) (Nat.le_refl _) ?_)
  intro wm hown hgr
  have hB0 : Below w.heap.size w wm := (Below.refl _ _).grown hgr (Nat.le_refl _) (by simp)
  have hR : l.length = 0 ∨ RowOf wm w.heap.size 127 (l.length * 4) := (rowOf_made hown).symm
  clear hown hgr
  go_wp2
  go_loopw [4] (fun i wr => ∃ (k : Nat) (r : List Nat), k ≤ l.length ∧ i = .int .i64 k ∧ (l.length = 0 ∨ RowOf wr w.heap.size 127 (l.length * 4)) ∧ OwnE wr ((l.take k).map TBuiltPackage.enc) w.heap.size 0 r ∧ r.Nodup ∧ (∀ b ∈ r, w.heap.size + 1 ≤ b ∧ b < wr.heap.size) ∧ Below w.heap.size w wr) (fun i _ => l.length - (intOf i).toNat)
  case atStart => exact ⟨0, [], Nat.zero_le _, rfl, hR, by simp only [List.take_zero, List.map_nil, OwnE], List.nodup_nil, by simp, hB0⟩
  case round =>
    clear hR hB0
    obtain ⟨k, r, hk, rfl, hR, h1, n1, r1, hB⟩ := hrel
    by_cases hlt : k < l.length
    · obtain ⟨b, off, rfl, hKb, cs, hcs, hr⟩ := hE k hlt
      have hr' := Rep.ext hB hK hr
      have hcs' := hcs.ext hB (hK b hKb)
      have hK' : ∀ b, K b → b < wr.heap.size := fun b h => Nat.lt_of_lt_of_le (hK b h) hB.size
      have hR' : RowOf wr w.heap.size 127 (l.length * 4) := by rcases hR with h | h <;> first | omega | exact h
      have hroom : k * 4 + 4 ≤ l.length * 4 := by have := Nat.mul_le_mul_right 4 (show k + 1 ≤ l.length from hlt); rw [Nat.add_mul] at this; omega
      clear hE hcs hr hR
      have hi : (Tryz.prog.info? 221).map (·.size) = some cs.length := by rw [Rep.length _ _ hr', TBuiltPackage.width]; exact infoT221
      have hmem : l[k] ∈ l := List.getElem_mem hlt
      go_wp2_with (with_reducible refine ld rfl 221 _ rfl b _ rfl cs hcs' _ Tryz.underlying221 hi ?_)
      refine (toBuiltPackage_c l[k] (by have := szL_le TBuiltPackage.sz hmem; unfold szs at hz; omega) _ K hK' _ hr').mono ?_
      rintro e w1 ⟨cs', bs, rfl, o1, n2, r2, hB1⟩
      have hg : w.heap.size < wr.heap.size := hR'.lt
      obtain ⟨cur, hcur, hsz⟩ := hR'.below hB1 hg
      have Hcur := Lib.hid hcur
      have Hsz := Lib.hid hsz
      clear hcur hsz
      have hl' := (Rep.length (K := fun _ => True) _ _ (Own.rep _ _ _ o1 (fun _ _ => trivial))).trans (TBuiltPackage.width _)
      have hone := Rep.one (K := fun _ => True) _ _ (Own.rep _ _ _ o1 (fun _ _ => trivial))
      have hi' : (Tryz.prog.info? 127).map (·.size) = some cs'.length := by rw [hl']; exact infoT127
      have Hl' := Lib.hid hl'
      clear hl'
      go_wp2_with (with_reducible refine stA rfl 127 _ _ rfl w.heap.size (k * 4) rfl cs' rfl hi' hone cur 127 Hcur.out (by rw [Hl'.out, Hsz.out]; omega) ?_)
      intro w2 hst
      have R2 : RowOf w2 w.heap.size 127 (l.length * 4) := RowOf.stored ⟨cur, Hcur.out, Hsz.out⟩ hst
      have hrow := row_step TBuiltPackage.width hlt h1 n1 r1 hg hB1 o1 n2 r2 hst
      have hB2 := hst.below (hB.trans (hB1.mono hB.size)) (Nat.le_refl _)
      obtain ⟨h1', n1', r1'⟩ := hrow
      have A1 := Lib.hid h1'; have A2 := Lib.hid n1'; have A3 := Lib.hid r1'; have A4 := Lib.hid hB2; have A5 := Lib.hid R2
      clear h1' n1' r1' hB2 R2 h1 n1 r1 hB
      go_wp2
      go_roundw
      case rel => exact ⟨k + 1, _, hlt, by go_num, .inr A5.out, A1.out, A2.out, A3.out, A4.out⟩
      case measure => simp [intOf]; omega
    · obtain rfl : k = l.length := by omega
      rw [List.take_length] at h1
      go_wp2
      go_ret
      rcases hR with h | h
      · exact ⟨_, _, [], rfl, own_nil (List.length_eq_zero_iff.1 h) (by unfold maxLen; omega) (by simp), List.nodup_nil, by simp, hB⟩
      · obtain ⟨bs, o1, n2, r2⟩ := row_done (by unfold maxLen; omega) h h1 n1 r1
        exact ⟨_, _, bs, rfl, o1, n2, r2, hB⟩
set_option maxRecDepth 100000 in
set_option maxHeartbeats 1000000 in
theorem toBuild_c (x : TBuild) : ∀ (_ : x.sz ≤ 1048576) (w : World) (K : Nat → Prop) (_ : ∀ b, K b → b < w.heap.size) (cs : List Value) (_ : Rep w K x.enc cs),
    Calls Tryz.prog 26 #[.agg cs.toArray] w fun e w' => ∃ cs' bs, e = .returned (.agg cs'.toArray) ∧ Own w' x.enc cs' bs ∧ bs.Nodup ∧ (∀ b ∈ bs, w.heap.size ≤ b ∧ b < w'.heap.size) ∧ Below w.heap.size w w' := by
  intro hz w K hK cs h
  obtain ⟨c0, rfl, hPackages⟩ := TBuild.opn h
  clear h
  have Hz := Lib.hid hz; clear hz
  have hV0 : Below w.heap.size w (((w.alloc (.cells #[c0] 63)).alloc (.cells #[.slice none 0 0] 69)).alloc (.cells #[.slice none 0 0] 69)) := (((Below.refl _ _).alloc (Nat.le_refl _) _).alloc (by simp) _).alloc (by simp <;> omega) _
  have hs0 : w.heap.size + 1 + 1 < (((w.alloc (.cells #[c0] 63)).alloc (.cells #[.slice none 0 0] 69)).alloc (.cells #[.slice none 0 0] 69)).heap.size := by simp
  go_enter Tryz.func26, Tryz.ntmps26
  go_wp2_with fail
  refine (toBuiltPackageS_c x.fPackages (by have := Hz.out; rw [TBuild.sz_eq] at this; omega) _ K (fun b hb => Nat.lt_of_lt_of_le (hK b hb) hV0.size) _ (Rep.ext hV0 hK hPackages)).mono ?_
  rintro e w1 ⟨a1, p1, b1, rfl, o1, n1, r1, hB1⟩
  have hb1 := hV0.trans (hB1.mono hV0.size)
  have hc1 := (bcell hB1).1
  have hf1 := (bcell hB1).2
  have hz1 : w.heap.size + 1 + 1 < w1.heap.size := Nat.lt_of_lt_of_le hs0 hB1.size
  have hy1 : w.heap.size < w1.heap.size := by omega
  have hx1 : w.heap.size + 1 < w1.heap.size := by omega
  have s1 : ∀ b ∈ b1, w.heap.size + 1 + 1 + 1 ≤ b ∧ b < w1.heap.size := by intro b hb; have := r1 b hb; simp at this; omega
  have z1 : w.heap.size + 1 + 1 + 1 ≤ w1.heap.size := by have := hB1.size; simp at this; omega
  go_wp2
  have hV := hb1 |>.setCell (p := ⟨w.heap.size + 1 + 1, 0, none⟩) (by show w.heap.size ≤ w.heap.size + 1 + 1; omega) (.slice a1 x.fPackages.length p1) |>.setCell (p := ⟨w.heap.size + 1, 0, none⟩) (by show w.heap.size ≤ w.heap.size + 1; omega) (.slice a1 x.fPackages.length p1)
  have u1 := (Up.refl (w.heap.size + 1 + 1) w1) |>.setCell ⟨w.heap.size + 1 + 1, 0, none⟩ (by show w.heap.size + 1 + 1 ≤ w.heap.size + 1 + 1; omega) (.slice a1 x.fPackages.length p1) |>.setCell ⟨w.heap.size + 1, 0, none⟩ (by show w.heap.size + 1 ≤ w.heap.size + 1 + 1; omega) (.slice a1 x.fPackages.length p1)
  have j1 := join2 n1 s1 List.nodup_nil (b2 := []) (mid := w1.heap.size) (hi := w1.heap.size) (by simp) z1 (Nat.le_refl _)
  refine bodyPost_ret (v := .agg #[.slice a1 x.fPackages.length p1]) (by simp [results, Tryz.results26, go_sem, *]) rfl ⟨[.slice a1 x.fPackages.length p1], _, rfl, TBuild.mk_own (u1.own o1 s1 (by omega)), j1.1, ?_, hV⟩
  intro b hb
  have := j1.2 b hb
  simp
  omega
end Go.Proofs.YtkmiecgcibjkbaaGreat
