/- The functions to.. of the laws: each copies a value into memory of its own. Condition: the value's size is at most 1048576. -/
import Derived.Test.YtkmiecgcibjkbaaGreatTypes
namespace Go.Proofs.YtkmiecgcibjkbaaGreat
open Go.RowKit
theorem infoT9 : (Tryz.prog.info? 9).map (·.size) = some 1 := by kernel_rfl
theorem zinfo9 : (Tryz.prog.info? 9).map (fun i => (i.zero, i.size, i.bytes)) = some (some (.string ⟨#[]⟩), 1, 16) := by kernel_rfl
set_option maxRecDepth 100000 in
set_option maxHeartbeats 1000000 in
theorem toStringS_c (l : List ByteArray) : ∀ (_ : szs ByteArray.size l ≤ 1048576) (w : World) (K : Nat → Prop) (_ : ∀ b, K b → b < w.heap.size) (v : Value) (_ : Rep w K (.sl (l.map encS)) [v]),
  Calls Tryz.prog 158 #[v] w fun e w' => ∃ a cap bs, e = .returned (.slice a l.length cap) ∧ Own w' (.sl (l.map encS)) [.slice a l.length cap] bs ∧ bs.Nodup ∧ (∀ b ∈ bs, w.heap.size ≤ b ∧ b < w'.heap.size) ∧ Below w.heap.size w w' := by
 intro hz w K hK v h
 have hlen : l.length ≤ 1048576 := by unfold szs at hz; omega
 obtain ⟨a, cap, rfl, hc, hm, -, hE⟩ := open_sl encS_w h
 unfold maxLen at hm
 clear h
 obtain ⟨i0, h2, hz0, hz1, hz2⟩ := info_parts zinfo9
 go_enter Tryz.func158, Tryz.ntmps158
 go_wp2_with (at_make; refine wpList_make_full _ rfl _ _ 48 rfl w.heap.size 9 i0 _ 1 Tryz.underlying48 h2 hz0 hz1 _ _ _ _ l.length rfl rfl rfl rfl (by rw [hz2]; omega) (by unfold maxLen; omega) (Nat.le_refl _) ?_)
 intro wm hown hgr
 have hB0 : Below w.heap.size w wm := (Below.refl _ _).grown hgr (Nat.le_refl _) (by simp)
 have hR : l.length = 0 ∨ RowOf wm w.heap.size 9 (l.length * 1) := (rowOf_made hown).symm
 clear hown hgr
 go_wp2
 go_loopw [4] (fun i wr => ∃ (k : Nat) (r : List Nat), k ≤ l.length ∧ i = .int .i64 k ∧ (l.length = 0 ∨ RowOf wr w.heap.size 9 (l.length * 1)) ∧ OwnE wr ((l.take k).map encS) w.heap.size 0 r ∧ r.Nodup ∧ (∀ b ∈ r, w.heap.size + 1 ≤ b ∧ b < wr.heap.size) ∧ Below w.heap.size w wr) (fun i _ => l.length - (intOf i).toNat)
 case atStart => exact ⟨0, [], Nat.zero_le _, rfl, hR, by simp only [List.take_zero, List.map_nil, OwnE], List.nodup_nil, by simp, hB0⟩
 case round =>
  clear hR hB0
  obtain ⟨k, r, hk, rfl, hR, h1, n1, r1, hB⟩ := hrel
  by_cases hlt : k < l.length
  ·obtain ⟨b, off, rfl, hKb, cs, hcs, hr⟩ := hE k hlt
   have hr' := Rep.ext hB hK hr
   have hcs' := hcs.ext hB (hK b hKb)
   have hK' : ∀ b, K b → b < wr.heap.size := fun b h => Nat.lt_of_lt_of_le (hK b h) hB.size
   have hR' : RowOf wr w.heap.size 9 (l.length * 1) := by rcases hR with h | h <;> first | omega | exact h
   have hroom : k * 1 + 1 ≤ l.length * 1 := by have := Nat.mul_le_mul_right 1 (show k + 1 ≤ l.length from hlt); rw [Nat.add_mul] at this; omega
   clear hE hcs hr hR
   have hrr := hr'
   simp only [encS, Rep] at hr'
   obtain ⟨rfl, hok⟩ := hr'
   have g0 : wr.cell? ⟨b, off + k, none⟩ = some (.string l[k]) := by simpa using hcs' 0 _ rfl
   have Hok := Lib.hid hok
   clear hcs' hok
   obtain ⟨cur, hcur, hsz⟩ := hR'
   have Hcur := Lib.hid hcur
   have Hsz := Lib.hid hsz
   clear hcur hsz
   go_wp2_with (with_reducible refine st1 rfl 9 _ _ rfl w.heap.size k rfl (.string l[k]) rfl infoT9 rfl cur 9 Hcur.out (by rw [Hsz.out]; omega) ?_)
   intro w2 hst
   have hst' : Stored wr w2 w.heap.size (k * 1) [.string l[k]] := by simpa using hst
   have R2 : RowOf w2 w.heap.size 9 (l.length * 1) := RowOf.stored ⟨cur, Hcur.out, Hsz.out⟩ hst
   have hg : w.heap.size < wr.heap.size := RowOf.lt ⟨cur, Hcur.out, rfl⟩
   have hrow := row_step encS_w hlt h1 n1 r1 hg (Below.refl _ _) (ownS Hok.out) List.nodup_nil (by simp) hst'
   have hB2 := hst.below hB (Nat.le_refl _)
   obtain ⟨h1', n1', r1'⟩ := hrow
   have A1 := Lib.hid h1'; have A2 := Lib.hid n1'; have A3 := Lib.hid r1'; have A4 := Lib.hid hB2; have A5 := Lib.hid R2
   clear h1' n1' r1' hB2 R2 h1 n1 r1 hB
   go_wp2
   go_roundw
   case rel => exact ⟨k + 1, _, hlt, by go_num, .inr A5.out, A1.out, A2.out, A3.out, A4.out⟩
   case measure => simp [intOf]; omega
  ·obtain rfl : k = l.length := by omega
   rw [List.take_length] at h1
   go_wp2
   go_ret
   rcases hR with h | h
   ·exact ⟨_, _, [], rfl, own_nil (List.length_eq_zero_iff.1 h) (by unfold maxLen; omega) (by simp), List.nodup_nil, by simp, hB⟩
   ·obtain ⟨bs, o1, n2, r2⟩ := row_done (by unfold maxLen; omega) h h1 n1 r1
    exact ⟨_, _, bs, rfl, o1, n2, r2, hB⟩
set_option maxRecDepth 100000 in
set_option maxHeartbeats 1000000 in
theorem toInstanceRef_c (x : TInstanceRef) : ∀ (w : World) (K : Nat → Prop) (_ : ∀ b, K b → b < w.heap.size) (cs : List Value) (_ : Rep w K x.enc cs),
  Calls Tryz.prog 256 #[.agg cs.toArray] w fun e w' => ∃ cs' bs, e = .returned (.agg cs'.toArray) ∧ Own w' x.enc cs' bs ∧ bs.Nodup ∧ (∀ b ∈ bs, w.heap.size ≤ b ∧ b < w'.heap.size) ∧ Below w.heap.size w w' := by
 intro w K hK cs h
 obtain ⟨rfl, hPackage, hAt⟩ := TInstanceRef.opn h
 clear h
 have HPackage := Lib.hid hPackage; clear hPackage
 have HAt := Lib.hid hAt; clear hAt
 go_enter Tryz.func256, Tryz.ntmps256
 go_wp2
 refine bodyPost_ret (v := .agg #[.int .i64 x.fPackage, .int .i64 x.fAt]) (by simp [results, Tryz.results256, go_sem]) rfl ⟨[.int .i64 x.fPackage, .int .i64 x.fAt], [], rfl, ?_, List.nodup_nil, by simp, ?_⟩
 ·exact TInstanceRef.mk_own HPackage.out HAt.out
 ·exact (((Below.refl _ _).alloc (Nat.le_refl _) _).alloc (by simp) _).alloc (by simp <;> omega) _
theorem infoT240 : (Tryz.prog.info? 240).map (·.size) = some 5 := by kernel_rfl
theorem zinfo240 : (Tryz.prog.info? 240).map (fun i => (i.zero, i.size, i.bytes)) = some (some (.agg #[.int .i64 0, .int .i64 0, .int .i64 0, .int .i64 0, .slice none 0 0]), 5, 56) := by kernel_rfl
theorem infoT325 : (Tryz.prog.info? 325).map (·.size) = some 5 := by kernel_rfl
def ToEvidence (N : Nat) : Prop := ∀ (x : TEvidence), SizeOf.sizeOf x < N → ∀ (_ : x.sz ≤ 1048576) (w : World) (K : Nat → Prop) (_ : ∀ b, K b → b < w.heap.size) (cs : List Value) (_ : Rep w K x.enc cs),
  Calls Tryz.prog 241 #[.agg cs.toArray] w fun e w' => ∃ cs' bs, e = .returned (.agg cs'.toArray) ∧ Own w' x.enc cs' bs ∧ bs.Nodup ∧ (∀ b ∈ bs, w.heap.size ≤ b ∧ b < w'.heap.size) ∧ Below w.heap.size w w'
def ToEvidenceS (N : Nat) : Prop := ∀ (l : List TEvidence), SizeOf.sizeOf l < N → ∀ (_ : szs TEvidence.sz l ≤ 1048576) (w : World) (K : Nat → Prop) (_ : ∀ b, K b → b < w.heap.size) (v : Value) (_ : Rep w K (.sl (l.map TEvidence.enc)) [v]),
  Calls Tryz.prog 207 #[v] w fun e w' => ∃ a cap bs, e = .returned (.slice a l.length cap) ∧ Own w' (.sl (l.map TEvidence.enc)) [.slice a l.length cap] bs ∧ bs.Nodup ∧ (∀ b ∈ bs, w.heap.size ≤ b ∧ b < w'.heap.size) ∧ Below w.heap.size w w'
set_option maxRecDepth 100000 in
set_option maxHeartbeats 1000000 in
theorem stepToEvidence (N : Nat) (_iToEvidence : ToEvidence N) (iToEvidenceS : ToEvidenceS N) : ToEvidence (N + 1) := by
 intro x hN hz w K hK cs h
 obtain ⟨c2, c3, c4, rfl, hKind, hN, hAt, hArgs⟩ := TEvidence.opn h
 clear h
 have HKind := Lib.hid hKind; clear hKind
 have HN := Lib.hid hN; clear hN
 have Hz := Lib.hid hz; clear hz
 have hV0 : Below w.heap.size w (((w.alloc (.cells #[.int .i64 x.fKind, .int .i64 x.fN, c2, c3, c4] 325)).alloc (.cells #[.int .i64 0, .int .i64 0, .int .i64 0, .int .i64 0, .slice none 0 0] 240)).alloc (.cells #[.int .i64 x.fKind, .int .i64 x.fN, .int .i64 0, .int .i64 0, .slice none 0 0] 240)) := (((Below.refl _ _).alloc (Nat.le_refl _) _).alloc (by simp) _).alloc (by simp <;> omega) _
 have hs0 : w.heap.size + 1 + 1 < (((w.alloc (.cells #[.int .i64 x.fKind, .int .i64 x.fN, c2, c3, c4] 325)).alloc (.cells #[.int .i64 0, .int .i64 0, .int .i64 0, .int .i64 0, .slice none 0 0] 240)).alloc (.cells #[.int .i64 x.fKind, .int .i64 x.fN, .int .i64 0, .int .i64 0, .slice none 0 0] 240)).heap.size := by simp
 go_enter Tryz.func241, Tryz.ntmps241
 go_wp2_with fail
 refine (toInstanceRef_c x.fAt _ K (fun b hb => Nat.lt_of_lt_of_le (hK b hb) hV0.size) _ (Rep.ext hV0 hK hAt)).mono ?_
 rintro e w1 ⟨cs1, b1, rfl, o1, n1, r1, hB1⟩
 obtain ⟨d2, d3, rfl⟩ := len2 ((Rep.length (K := fun _ => True) _ _ (Own.rep _ _ _ o1 (fun _ _ => trivial))).trans (TInstanceRef.width _))
 have one1 := Rep.one (K := fun _ => True) _ _ (Own.rep _ _ _ o1 (fun _ _ => trivial))
 have qd2 := st_one (one1 d2 (by simp))
 have qd3 := st_one (one1 d3 (by simp))
 have hb1 := hV0.trans (hB1.mono hV0.size)
 have hc1 := (bcell hB1).1
 have hf1 := (bcell hB1).2
 have hz1 : w.heap.size + 1 + 1 < w1.heap.size := Nat.lt_of_lt_of_le hs0 hB1.size
 have hy1 : w.heap.size < w1.heap.size := by omega
 have hx1 : w.heap.size + 1 < w1.heap.size := by omega
 have s1 : ∀ b ∈ b1, w.heap.size + 1 + 1 + 1 ≤ b ∧ b < w1.heap.size := by intro b hb; have := r1 b hb; simp at this; omega
 have z1 : w.heap.size + 1 + 1 + 1 ≤ w1.heap.size := by have := hB1.size; simp at this; omega
 have hV1 := hb1 |>.setCell (p := ⟨w.heap.size + 1 + 1, 2, none⟩) (by show w.heap.size ≤ w.heap.size + 1 + 1; omega) (d2) |>.setCell (p := ⟨w.heap.size + 1 + 1, 3, none⟩) (by show w.heap.size ≤ w.heap.size + 1 + 1; omega) (d3)
 have hs1 : w.heap.size + 1 + 1 < _ := Nat.lt_of_lt_of_le hz1 ((Up.refl (w.heap.size + 1 + 1) w1) |>.setCell ⟨w.heap.size + 1 + 1, 2, none⟩ (Nat.le_refl _) (d2) |>.setCell ⟨w.heap.size + 1 + 1, 3, none⟩ (Nat.le_refl _) (d3)).size
 have u1 := (Up.refl (w.heap.size + 1 + 1) w1) |>.setCell ⟨w.heap.size + 1 + 1, 2, none⟩ (Nat.le_refl _) (d2) |>.setCell ⟨w.heap.size + 1 + 1, 3, none⟩ (Nat.le_refl _) (d3)
 go_wp2_with fail
 refine (iToEvidenceS x.fArgs (by have := TEvidence.lt_fArgs x; omega) (by have := Hz.out; rw [TEvidence.sz_eq] at this; omega) _ K (fun b hb => Nat.lt_of_lt_of_le (hK b hb) hV1.size) _ (Rep.ext hV1 hK hArgs)).mono ?_
 rintro e w2 ⟨a2, p2, b2, rfl, o2, n2, r2, hB2⟩
 have hb2 := hV1.trans (hB2.mono hV1.size)
 have hc2 := (bcell hB2).1
 have hf2 := (bcell hB2).2
 have hz2 : w.heap.size + 1 + 1 < w2.heap.size := Nat.lt_of_lt_of_le hs1 hB2.size
 have hy2 : w.heap.size < w2.heap.size := by omega
 have hx2 : w.heap.size + 1 < w2.heap.size := by omega
 have s2 : ∀ b ∈ b2, w1.heap.size ≤ b ∧ b < w2.heap.size := by intro b hb; have := r2 b hb; simp at this; omega
 have z2 : w1.heap.size ≤ w2.heap.size := by have := hB2.size; simp at this; omega
 have u1 := u1.below hB2
 go_wp2
 have hV := hb2 |>.setCell (p := ⟨w.heap.size + 1 + 1, 4, none⟩) (by show w.heap.size ≤ w.heap.size + 1 + 1; omega) (.slice a2 x.fArgs.length p2) |>.setCell (p := ⟨w.heap.size + 1, 0, none⟩) (by show w.heap.size ≤ w.heap.size + 1; omega) (.int .i64 x.fKind) |>.setCell (p := ⟨w.heap.size + 1, 1, none⟩) (by show w.heap.size ≤ w.heap.size + 1; omega) (.int .i64 x.fN) |>.setCell (p := ⟨w.heap.size + 1, 2, none⟩) (by show w.heap.size ≤ w.heap.size + 1; omega) (d2) |>.setCell (p := ⟨w.heap.size + 1, 3, none⟩) (by show w.heap.size ≤ w.heap.size + 1; omega) (d3) |>.setCell (p := ⟨w.heap.size + 1, 4, none⟩) (by show w.heap.size ≤ w.heap.size + 1; omega) (.slice a2 x.fArgs.length p2)
 have u1 := u1 |>.setCell ⟨w.heap.size + 1 + 1, 4, none⟩ (by show w.heap.size + 1 + 1 ≤ w.heap.size + 1 + 1; omega) (.slice a2 x.fArgs.length p2) |>.setCell ⟨w.heap.size + 1, 0, none⟩ (by show w.heap.size + 1 ≤ w.heap.size + 1 + 1; omega) (.int .i64 x.fKind) |>.setCell ⟨w.heap.size + 1, 1, none⟩ (by show w.heap.size + 1 ≤ w.heap.size + 1 + 1; omega) (.int .i64 x.fN) |>.setCell ⟨w.heap.size + 1, 2, none⟩ (by show w.heap.size + 1 ≤ w.heap.size + 1 + 1; omega) (d2) |>.setCell ⟨w.heap.size + 1, 3, none⟩ (by show w.heap.size + 1 ≤ w.heap.size + 1 + 1; omega) (d3) |>.setCell ⟨w.heap.size + 1, 4, none⟩ (by show w.heap.size + 1 ≤ w.heap.size + 1 + 1; omega) (.slice a2 x.fArgs.length p2)
 have u2 := (Up.refl (w.heap.size + 1 + 1) w2) |>.setCell ⟨w.heap.size + 1 + 1, 4, none⟩ (by show w.heap.size + 1 + 1 ≤ w.heap.size + 1 + 1; omega) (.slice a2 x.fArgs.length p2) |>.setCell ⟨w.heap.size + 1, 0, none⟩ (by show w.heap.size + 1 ≤ w.heap.size + 1 + 1; omega) (.int .i64 x.fKind) |>.setCell ⟨w.heap.size + 1, 1, none⟩ (by show w.heap.size + 1 ≤ w.heap.size + 1 + 1; omega) (.int .i64 x.fN) |>.setCell ⟨w.heap.size + 1, 2, none⟩ (by show w.heap.size + 1 ≤ w.heap.size + 1 + 1; omega) (d2) |>.setCell ⟨w.heap.size + 1, 3, none⟩ (by show w.heap.size + 1 ≤ w.heap.size + 1 + 1; omega) (d3) |>.setCell ⟨w.heap.size + 1, 4, none⟩ (by show w.heap.size + 1 ≤ w.heap.size + 1 + 1; omega) (.slice a2 x.fArgs.length p2)
 have j2 := join2 n2 s2 List.nodup_nil (b2 := []) (mid := w2.heap.size) (hi := w2.heap.size) (by simp) z2 (Nat.le_refl _)
 have j1 := join2 n1 s1 j2.1 j2.2 z1 (by omega)
 refine bodyPost_ret (v := .agg #[.int .i64 x.fKind, .int .i64 x.fN, d2, d3, .slice a2 x.fArgs.length p2]) (by simp [results, Tryz.results241, go_sem, *]) rfl ⟨[.int .i64 x.fKind, .int .i64 x.fN, d2, d3, .slice a2 x.fArgs.length p2], _, rfl, TEvidence.mk_own HKind.out HN.out (u1.own o1 s1 (by omega)) (u2.own o2 s2 (by omega)), j1.1, ?_, hV⟩
 intro b hb
 have := j1.2 b hb
 simp
 omega
set_option maxRecDepth 100000 in
set_option maxHeartbeats 1000000 in
theorem stepToEvidenceS (N : Nat) (iToEvidence : ToEvidence N) (_iToEvidenceS : ToEvidenceS N) : ToEvidenceS (N + 1) := by
 intro l hN hz w K hK v h
 have hlen : l.length ≤ 1048576 := by unfold szs at hz; omega
 obtain ⟨a, cap, rfl, hc, hm, -, hE⟩ := open_sl TEvidence.width h
 unfold maxLen at hm
 clear h
 obtain ⟨i0, h2, hz0, hz1, hz2⟩ := info_parts zinfo240
 go_enter Tryz.func207, Tryz.ntmps207
 go_wp2_with (at_make; refine wpList_make_full _ rfl _ _ 132 rfl w.heap.size 240 i0 _ 5 Tryz.underlying132 h2 hz0 hz1 _ _ _ _ l.length rfl rfl rfl rfl (by rw [hz2]; omega) (by unfold maxLen; omega) (Nat.le_refl _) ?_)
 intro wm hown hgr
 have hB0 : Below w.heap.size w wm := (Below.refl _ _).grown hgr (Nat.le_refl _) (by simp)
 have hR : l.length = 0 ∨ RowOf wm w.heap.size 240 (l.length * 5) := (rowOf_made hown).symm
 clear hown hgr
 go_wp2
 go_loopw [4] (fun i wr => ∃ (k : Nat) (r : List Nat), k ≤ l.length ∧ i = .int .i64 k ∧ (l.length = 0 ∨ RowOf wr w.heap.size 240 (l.length * 5)) ∧ OwnE wr ((l.take k).map TEvidence.enc) w.heap.size 0 r ∧ r.Nodup ∧ (∀ b ∈ r, w.heap.size + 1 ≤ b ∧ b < wr.heap.size) ∧ Below w.heap.size w wr) (fun i _ => l.length - (intOf i).toNat)
 case atStart => exact ⟨0, [], Nat.zero_le _, rfl, hR, by simp only [List.take_zero, List.map_nil, OwnE], List.nodup_nil, by simp, hB0⟩
 case round =>
  clear hR hB0
  obtain ⟨k, r, hk, rfl, hR, h1, n1, r1, hB⟩ := hrel
  by_cases hlt : k < l.length
  ·obtain ⟨b, off, rfl, hKb, cs, hcs, hr⟩ := hE k hlt
   have hr' := Rep.ext hB hK hr
   have hcs' := hcs.ext hB (hK b hKb)
   have hK' : ∀ b, K b → b < wr.heap.size := fun b h => Nat.lt_of_lt_of_le (hK b h) hB.size
   have hR' : RowOf wr w.heap.size 240 (l.length * 5) := by rcases hR with h | h <;> first | omega | exact h
   have hroom : k * 5 + 5 ≤ l.length * 5 := by have := Nat.mul_le_mul_right 5 (show k + 1 ≤ l.length from hlt); rw [Nat.add_mul] at this; omega
   clear hE hcs hr hR
   have hi : (Tryz.prog.info? 325).map (·.size) = some cs.length := by rw [Rep.length _ _ hr', TEvidence.width]; exact infoT325
   have hmem : l[k] ∈ l := List.getElem_mem hlt
   go_wp2_with (with_reducible refine ld rfl 325 _ rfl b _ rfl cs hcs' _ Tryz.underlying325 hi ?_)
   refine (iToEvidence l[k] (by have := List.sizeOf_lt_of_mem hmem; omega) (by have := szL_le TEvidence.sz hmem; unfold szs at hz; omega) _ K hK' _ hr').mono ?_
   rintro e w1 ⟨cs', bs, rfl, o1, n2, r2, hB1⟩
   have hg : w.heap.size < wr.heap.size := hR'.lt
   obtain ⟨cur, hcur, hsz⟩ := hR'.below hB1 hg
   have Hcur := Lib.hid hcur
   have Hsz := Lib.hid hsz
   clear hcur hsz
   have hl' := (Rep.length (K := fun _ => True) _ _ (Own.rep _ _ _ o1 (fun _ _ => trivial))).trans (TEvidence.width _)
   have hone := Rep.one (K := fun _ => True) _ _ (Own.rep _ _ _ o1 (fun _ _ => trivial))
   have hi' : (Tryz.prog.info? 240).map (·.size) = some cs'.length := by rw [hl']; exact infoT240
   have Hl' := Lib.hid hl'
   clear hl'
   go_wp2_with (with_reducible refine stA rfl 240 _ _ rfl w.heap.size (k * 5) rfl cs' rfl hi' hone cur 240 Hcur.out (by rw [Hl'.out, Hsz.out]; omega) ?_)
   intro w2 hst
   have R2 : RowOf w2 w.heap.size 240 (l.length * 5) := RowOf.stored ⟨cur, Hcur.out, Hsz.out⟩ hst
   have hrow := row_step TEvidence.width hlt h1 n1 r1 hg hB1 o1 n2 r2 hst
   have hB2 := hst.below (hB.trans (hB1.mono hB.size)) (Nat.le_refl _)
   obtain ⟨h1', n1', r1'⟩ := hrow
   have A1 := Lib.hid h1'; have A2 := Lib.hid n1'; have A3 := Lib.hid r1'; have A4 := Lib.hid hB2; have A5 := Lib.hid R2
   clear h1' n1' r1' hB2 R2 h1 n1 r1 hB
   go_wp2
   go_roundw
   case rel => exact ⟨k + 1, _, hlt, by go_num, .inr A5.out, A1.out, A2.out, A3.out, A4.out⟩
   case measure => simp [intOf]; omega
  ·obtain rfl : k = l.length := by omega
   rw [List.take_length] at h1
   go_wp2
   go_ret
   rcases hR with h | h
   ·exact ⟨_, _, [], rfl, own_nil (List.length_eq_zero_iff.1 h) (by unfold maxLen; omega) (by simp), List.nodup_nil, by simp, hB⟩
   ·obtain ⟨bs, o1, n2, r2⟩ := row_done (by unfold maxLen; omega) h h1 n1 r1
    exact ⟨_, _, bs, rfl, o1, n2, r2, hB⟩
theorem toEvidence_all : ∀ N : Nat, ToEvidence N ∧ ToEvidenceS N
 | 0 => ⟨fun _ h => absurd h (Nat.not_lt_zero _), fun _ h => absurd h (Nat.not_lt_zero _)⟩
 | N + 1 => by
  obtain ⟨i0, i1⟩ := toEvidence_all N
  exact ⟨stepToEvidence N i0 i1, stepToEvidenceS N i0 i1⟩
theorem toEvidence_c (x : TEvidence) : ∀ (_ : x.sz ≤ 1048576) (w : World) (K : Nat → Prop) (_ : ∀ b, K b → b < w.heap.size) (cs : List Value) (_ : Rep w K x.enc cs),
  Calls Tryz.prog 241 #[.agg cs.toArray] w fun e w' => ∃ cs' bs, e = .returned (.agg cs'.toArray) ∧ Own w' x.enc cs' bs ∧ bs.Nodup ∧ (∀ b ∈ bs, w.heap.size ≤ b ∧ b < w'.heap.size) ∧ Below w.heap.size w w' := (toEvidence_all (SizeOf.sizeOf x + 1)).1 x (Nat.lt_succ_self _)
theorem toEvidenceS_c (l : List TEvidence) : ∀ (_ : szs TEvidence.sz l ≤ 1048576) (w : World) (K : Nat → Prop) (_ : ∀ b, K b → b < w.heap.size) (v : Value) (_ : Rep w K (.sl (l.map TEvidence.enc)) [v]),
  Calls Tryz.prog 207 #[v] w fun e w' => ∃ a cap bs, e = .returned (.slice a l.length cap) ∧ Own w' (.sl (l.map TEvidence.enc)) [.slice a l.length cap] bs ∧ bs.Nodup ∧ (∀ b ∈ bs, w.heap.size ≤ b ∧ b < w'.heap.size) ∧ Below w.heap.size w w' := (toEvidence_all (SizeOf.sizeOf l + 1)).2 l (Nat.lt_succ_self _)
theorem infoT95 : (Tryz.prog.info? 95).map (·.size) = some 3 := by kernel_rfl
theorem zinfo95 : (Tryz.prog.info? 95).map (fun i => (i.zero, i.size, i.bytes)) = some (some (.agg #[.string ⟨#[]⟩, .string ⟨#[]⟩, .int .i64 0]), 3, 40) := by kernel_rfl
theorem infoT289 : (Tryz.prog.info? 289).map (·.size) = some 3 := by kernel_rfl
set_option maxRecDepth 100000 in
set_option maxHeartbeats 1000000 in
theorem toMethodEntry_c (x : TMethodEntry) : ∀ (_ : x.sz ≤ 1048576) (w : World) (K : Nat → Prop) (_ : ∀ b, K b → b < w.heap.size) (cs : List Value) (_ : Rep w K x.enc cs),
  Calls Tryz.prog 210 #[.agg cs.toArray] w fun e w' => ∃ cs' bs, e = .returned (.agg cs'.toArray) ∧ Own w' x.enc cs' bs ∧ bs.Nodup ∧ (∀ b ∈ bs, w.heap.size ≤ b ∧ b < w'.heap.size) ∧ Below w.heap.size w w' := by
 intro hz w K hK cs h
 obtain ⟨rfl, hTrait, hName, hSpecialization⟩ := TMethodEntry.opn h
 clear h
 have HTrait := Lib.hid hTrait; clear hTrait
 have HName := Lib.hid hName; clear hName
 have HSpecialization := Lib.hid hSpecialization; clear hSpecialization
 have Hz := Lib.hid hz; clear hz
 go_enter Tryz.func210, Tryz.ntmps210
 go_wp2
 refine bodyPost_ret (v := .agg #[.string x.fTrait, .string x.fName, .int .i64 x.fSpecialization]) (by simp [results, Tryz.results210, go_sem]) rfl ⟨[.string x.fTrait, .string x.fName, .int .i64 x.fSpecialization], [], rfl, ?_, List.nodup_nil, by simp, ?_⟩
 ·exact TMethodEntry.mk_own HTrait.out HName.out HSpecialization.out
 ·exact (((Below.refl _ _).alloc (Nat.le_refl _) _).alloc (by simp) _).alloc (by simp <;> omega) _
set_option maxRecDepth 100000 in
set_option maxHeartbeats 1000000 in
theorem toMethodEntryS_c (l : List TMethodEntry) : ∀ (_ : szs TMethodEntry.sz l ≤ 1048576) (w : World) (K : Nat → Prop) (_ : ∀ b, K b → b < w.heap.size) (v : Value) (_ : Rep w K (.sl (l.map TMethodEntry.enc)) [v]),
  Calls Tryz.prog 161 #[v] w fun e w' => ∃ a cap bs, e = .returned (.slice a l.length cap) ∧ Own w' (.sl (l.map TMethodEntry.enc)) [.slice a l.length cap] bs ∧ bs.Nodup ∧ (∀ b ∈ bs, w.heap.size ≤ b ∧ b < w'.heap.size) ∧ Below w.heap.size w w' := by
 intro hz w K hK v h
 have hlen : l.length ≤ 1048576 := by unfold szs at hz; omega
 obtain ⟨a, cap, rfl, hc, hm, -, hE⟩ := open_sl TMethodEntry.width h
 unfold maxLen at hm
 clear h
 obtain ⟨i0, h2, hz0, hz1, hz2⟩ := info_parts zinfo95
 go_enter Tryz.func161, Tryz.ntmps161
 go_wp2_with (at_make; refine wpList_make_full _ rfl _ _ 89 rfl w.heap.size 95 i0 _ 3 Tryz.underlying89 h2 hz0 hz1 _ _ _ _ l.length rfl rfl rfl rfl (by rw [hz2]; omega) (by unfold maxLen; omega) (Nat.le_refl _) ?_)
 intro wm hown hgr
 have hB0 : Below w.heap.size w wm := (Below.refl _ _).grown hgr (Nat.le_refl _) (by simp)
 have hR : l.length = 0 ∨ RowOf wm w.heap.size 95 (l.length * 3) := (rowOf_made hown).symm
 clear hown hgr
 go_wp2
 go_loopw [4] (fun i wr => ∃ (k : Nat) (r : List Nat), k ≤ l.length ∧ i = .int .i64 k ∧ (l.length = 0 ∨ RowOf wr w.heap.size 95 (l.length * 3)) ∧ OwnE wr ((l.take k).map TMethodEntry.enc) w.heap.size 0 r ∧ r.Nodup ∧ (∀ b ∈ r, w.heap.size + 1 ≤ b ∧ b < wr.heap.size) ∧ Below w.heap.size w wr) (fun i _ => l.length - (intOf i).toNat)
 case atStart => exact ⟨0, [], Nat.zero_le _, rfl, hR, by simp only [List.take_zero, List.map_nil, OwnE], List.nodup_nil, by simp, hB0⟩
 case round =>
  clear hR hB0
  obtain ⟨k, r, hk, rfl, hR, h1, n1, r1, hB⟩ := hrel
  by_cases hlt : k < l.length
  ·obtain ⟨b, off, rfl, hKb, cs, hcs, hr⟩ := hE k hlt
   have hr' := Rep.ext hB hK hr
   have hcs' := hcs.ext hB (hK b hKb)
   have hK' : ∀ b, K b → b < wr.heap.size := fun b h => Nat.lt_of_lt_of_le (hK b h) hB.size
   have hR' : RowOf wr w.heap.size 95 (l.length * 3) := by rcases hR with h | h <;> first | omega | exact h
   have hroom : k * 3 + 3 ≤ l.length * 3 := by have := Nat.mul_le_mul_right 3 (show k + 1 ≤ l.length from hlt); rw [Nat.add_mul] at this; omega
   clear hE hcs hr hR
   have hi : (Tryz.prog.info? 289).map (·.size) = some cs.length := by rw [Rep.length _ _ hr', TMethodEntry.width]; exact infoT289
   have hmem : l[k] ∈ l := List.getElem_mem hlt
   go_wp2_with (with_reducible refine ld rfl 289 _ rfl b _ rfl cs hcs' _ Tryz.underlying289 hi ?_)
   refine (toMethodEntry_c l[k] (by have := szL_le TMethodEntry.sz hmem; unfold szs at hz; omega) _ K hK' _ hr').mono ?_
   rintro e w1 ⟨cs', bs, rfl, o1, n2, r2, hB1⟩
   have hg : w.heap.size < wr.heap.size := hR'.lt
   obtain ⟨cur, hcur, hsz⟩ := hR'.below hB1 hg
   have Hcur := Lib.hid hcur
   have Hsz := Lib.hid hsz
   clear hcur hsz
   have hl' := (Rep.length (K := fun _ => True) _ _ (Own.rep _ _ _ o1 (fun _ _ => trivial))).trans (TMethodEntry.width _)
   have hone := Rep.one (K := fun _ => True) _ _ (Own.rep _ _ _ o1 (fun _ _ => trivial))
   have hi' : (Tryz.prog.info? 95).map (·.size) = some cs'.length := by rw [hl']; exact infoT95
   have Hl' := Lib.hid hl'
   clear hl'
   go_wp2_with (with_reducible refine stA rfl 95 _ _ rfl w.heap.size (k * 3) rfl cs' rfl hi' hone cur 95 Hcur.out (by rw [Hl'.out, Hsz.out]; omega) ?_)
   intro w2 hst
   have R2 : RowOf w2 w.heap.size 95 (l.length * 3) := RowOf.stored ⟨cur, Hcur.out, Hsz.out⟩ hst
   have hrow := row_step TMethodEntry.width hlt h1 n1 r1 hg hB1 o1 n2 r2 hst
   have hB2 := hst.below (hB.trans (hB1.mono hB.size)) (Nat.le_refl _)
   obtain ⟨h1', n1', r1'⟩ := hrow
   have A1 := Lib.hid h1'; have A2 := Lib.hid n1'; have A3 := Lib.hid r1'; have A4 := Lib.hid hB2; have A5 := Lib.hid R2
   clear h1' n1' r1' hB2 R2 h1 n1 r1 hB
   go_wp2
   go_roundw
   case rel => exact ⟨k + 1, _, hlt, by go_num, .inr A5.out, A1.out, A2.out, A3.out, A4.out⟩
   case measure => simp [intOf]; omega
  ·obtain rfl : k = l.length := by omega
   rw [List.take_length] at h1
   go_wp2
   go_ret
   rcases hR with h | h
   ·exact ⟨_, _, [], rfl, own_nil (List.length_eq_zero_iff.1 h) (by unfold maxLen; omega) (by simp), List.nodup_nil, by simp, hB⟩
   ·obtain ⟨bs, o1, n2, r2⟩ := row_done (by unfold maxLen; omega) h h1 n1 r1
    exact ⟨_, _, bs, rfl, o1, n2, r2, hB⟩
theorem infoT88 : (Tryz.prog.info? 88).map (·.size) = some 3 := by kernel_rfl
theorem zinfo88 : (Tryz.prog.info? 88).map (fun i => (i.zero, i.size, i.bytes)) = some (some (.agg #[.int .i64 0, .string ⟨#[]⟩, .slice none 0 0]), 3, 48) := by kernel_rfl
theorem infoT150 : (Tryz.prog.info? 150).map (·.size) = some 3 := by kernel_rfl
def ToType (N : Nat) : Prop := ∀ (x : TType), SizeOf.sizeOf x < N → ∀ (_ : x.sz ≤ 1048576) (w : World) (K : Nat → Prop) (_ : ∀ b, K b → b < w.heap.size) (cs : List Value) (_ : Rep w K x.enc cs),
  Calls Tryz.prog 160 #[.agg cs.toArray] w fun e w' => ∃ cs' bs, e = .returned (.agg cs'.toArray) ∧ Own w' x.enc cs' bs ∧ bs.Nodup ∧ (∀ b ∈ bs, w.heap.size ≤ b ∧ b < w'.heap.size) ∧ Below w.heap.size w w'
def ToTypeS (N : Nat) : Prop := ∀ (l : List TType), SizeOf.sizeOf l < N → ∀ (_ : szs TType.sz l ≤ 1048576) (w : World) (K : Nat → Prop) (_ : ∀ b, K b → b < w.heap.size) (v : Value) (_ : Rep w K (.sl (l.map TType.enc)) [v]),
  Calls Tryz.prog 157 #[v] w fun e w' => ∃ a cap bs, e = .returned (.slice a l.length cap) ∧ Own w' (.sl (l.map TType.enc)) [.slice a l.length cap] bs ∧ bs.Nodup ∧ (∀ b ∈ bs, w.heap.size ≤ b ∧ b < w'.heap.size) ∧ Below w.heap.size w w'
set_option maxRecDepth 100000 in
set_option maxHeartbeats 1000000 in
theorem stepToType (N : Nat) (_iToType : ToType N) (iToTypeS : ToTypeS N) : ToType (N + 1) := by
 intro x hN hz w K hK cs h
 obtain ⟨c2, rfl, hKind, hName, hArgs⟩ := TType.opn h
 clear h
 have HKind := Lib.hid hKind; clear hKind
 have HName := Lib.hid hName; clear hName
 have Hz := Lib.hid hz; clear hz
 have hV0 : Below w.heap.size w (((w.alloc (.cells #[.int .i64 x.fKind, .string x.fName, c2] 150)).alloc (.cells #[.int .i64 0, .string ⟨#[]⟩, .slice none 0 0] 88)).alloc (.cells #[.int .i64 x.fKind, .string x.fName, .slice none 0 0] 88)) := (((Below.refl _ _).alloc (Nat.le_refl _) _).alloc (by simp) _).alloc (by simp <;> omega) _
 have hs0 : w.heap.size + 1 + 1 < (((w.alloc (.cells #[.int .i64 x.fKind, .string x.fName, c2] 150)).alloc (.cells #[.int .i64 0, .string ⟨#[]⟩, .slice none 0 0] 88)).alloc (.cells #[.int .i64 x.fKind, .string x.fName, .slice none 0 0] 88)).heap.size := by simp
 go_enter Tryz.func160, Tryz.ntmps160
 go_wp2_with fail
 refine (iToTypeS x.fArgs (by have := TType.lt_fArgs x; omega) (by have := Hz.out; rw [TType.sz_eq] at this; omega) _ K (fun b hb => Nat.lt_of_lt_of_le (hK b hb) hV0.size) _ (Rep.ext hV0 hK hArgs)).mono ?_
 rintro e w1 ⟨a1, p1, b1, rfl, o1, n1, r1, hB1⟩
 have hb1 := hV0.trans (hB1.mono hV0.size)
 have hc1 := (bcell hB1).1
 have hf1 := (bcell hB1).2
 have hz1 : w.heap.size + 1 + 1 < w1.heap.size := Nat.lt_of_lt_of_le hs0 hB1.size
 have hy1 : w.heap.size < w1.heap.size := by omega
 have hx1 : w.heap.size + 1 < w1.heap.size := by omega
 have s1 : ∀ b ∈ b1, w.heap.size + 1 + 1 + 1 ≤ b ∧ b < w1.heap.size := by intro b hb; have := r1 b hb; simp at this; omega
 have z1 : w.heap.size + 1 + 1 + 1 ≤ w1.heap.size := by have := hB1.size; simp at this; omega
 go_wp2
 have hV := hb1 |>.setCell (p := ⟨w.heap.size + 1 + 1, 2, none⟩) (by show w.heap.size ≤ w.heap.size + 1 + 1; omega) (.slice a1 x.fArgs.length p1) |>.setCell (p := ⟨w.heap.size + 1, 0, none⟩) (by show w.heap.size ≤ w.heap.size + 1; omega) (.int .i64 x.fKind) |>.setCell (p := ⟨w.heap.size + 1, 1, none⟩) (by show w.heap.size ≤ w.heap.size + 1; omega) (.string x.fName) |>.setCell (p := ⟨w.heap.size + 1, 2, none⟩) (by show w.heap.size ≤ w.heap.size + 1; omega) (.slice a1 x.fArgs.length p1)
 have u1 := (Up.refl (w.heap.size + 1 + 1) w1) |>.setCell ⟨w.heap.size + 1 + 1, 2, none⟩ (by show w.heap.size + 1 + 1 ≤ w.heap.size + 1 + 1; omega) (.slice a1 x.fArgs.length p1) |>.setCell ⟨w.heap.size + 1, 0, none⟩ (by show w.heap.size + 1 ≤ w.heap.size + 1 + 1; omega) (.int .i64 x.fKind) |>.setCell ⟨w.heap.size + 1, 1, none⟩ (by show w.heap.size + 1 ≤ w.heap.size + 1 + 1; omega) (.string x.fName) |>.setCell ⟨w.heap.size + 1, 2, none⟩ (by show w.heap.size + 1 ≤ w.heap.size + 1 + 1; omega) (.slice a1 x.fArgs.length p1)
 have j1 := join2 n1 s1 List.nodup_nil (b2 := []) (mid := w1.heap.size) (hi := w1.heap.size) (by simp) z1 (Nat.le_refl _)
 refine bodyPost_ret (v := .agg #[.int .i64 x.fKind, .string x.fName, .slice a1 x.fArgs.length p1]) (by simp [results, Tryz.results160, go_sem, *]) rfl ⟨[.int .i64 x.fKind, .string x.fName, .slice a1 x.fArgs.length p1], _, rfl, TType.mk_own HKind.out HName.out (u1.own o1 s1 (by omega)), j1.1, ?_, hV⟩
 intro b hb
 have := j1.2 b hb
 simp
 omega
set_option maxRecDepth 100000 in
set_option maxHeartbeats 1000000 in
theorem stepToTypeS (N : Nat) (iToType : ToType N) (_iToTypeS : ToTypeS N) : ToTypeS (N + 1) := by
 intro l hN hz w K hK v h
 have hlen : l.length ≤ 1048576 := by unfold szs at hz; omega
 obtain ⟨a, cap, rfl, hc, hm, -, hE⟩ := open_sl TType.width h
 unfold maxLen at hm
 clear h
 obtain ⟨i0, h2, hz0, hz1, hz2⟩ := info_parts zinfo88
 go_enter Tryz.func157, Tryz.ntmps157
 go_wp2_with (at_make; refine wpList_make_full _ rfl _ _ 86 rfl w.heap.size 88 i0 _ 3 Tryz.underlying86 h2 hz0 hz1 _ _ _ _ l.length rfl rfl rfl rfl (by rw [hz2]; omega) (by unfold maxLen; omega) (Nat.le_refl _) ?_)
 intro wm hown hgr
 have hB0 : Below w.heap.size w wm := (Below.refl _ _).grown hgr (Nat.le_refl _) (by simp)
 have hR : l.length = 0 ∨ RowOf wm w.heap.size 88 (l.length * 3) := (rowOf_made hown).symm
 clear hown hgr
 go_wp2
 go_loopw [4] (fun i wr => ∃ (k : Nat) (r : List Nat), k ≤ l.length ∧ i = .int .i64 k ∧ (l.length = 0 ∨ RowOf wr w.heap.size 88 (l.length * 3)) ∧ OwnE wr ((l.take k).map TType.enc) w.heap.size 0 r ∧ r.Nodup ∧ (∀ b ∈ r, w.heap.size + 1 ≤ b ∧ b < wr.heap.size) ∧ Below w.heap.size w wr) (fun i _ => l.length - (intOf i).toNat)
 case atStart => exact ⟨0, [], Nat.zero_le _, rfl, hR, by simp only [List.take_zero, List.map_nil, OwnE], List.nodup_nil, by simp, hB0⟩
 case round =>
  clear hR hB0
  obtain ⟨k, r, hk, rfl, hR, h1, n1, r1, hB⟩ := hrel
  by_cases hlt : k < l.length
  ·obtain ⟨b, off, rfl, hKb, cs, hcs, hr⟩ := hE k hlt
   have hr' := Rep.ext hB hK hr
   have hcs' := hcs.ext hB (hK b hKb)
   have hK' : ∀ b, K b → b < wr.heap.size := fun b h => Nat.lt_of_lt_of_le (hK b h) hB.size
   have hR' : RowOf wr w.heap.size 88 (l.length * 3) := by rcases hR with h | h <;> first | omega | exact h
   have hroom : k * 3 + 3 ≤ l.length * 3 := by have := Nat.mul_le_mul_right 3 (show k + 1 ≤ l.length from hlt); rw [Nat.add_mul] at this; omega
   clear hE hcs hr hR
   have hi : (Tryz.prog.info? 150).map (·.size) = some cs.length := by rw [Rep.length _ _ hr', TType.width]; exact infoT150
   have hmem : l[k] ∈ l := List.getElem_mem hlt
   go_wp2_with (with_reducible refine ld rfl 150 _ rfl b _ rfl cs hcs' _ Tryz.underlying150 hi ?_)
   refine (iToType l[k] (by have := List.sizeOf_lt_of_mem hmem; omega) (by have := szL_le TType.sz hmem; unfold szs at hz; omega) _ K hK' _ hr').mono ?_
   rintro e w1 ⟨cs', bs, rfl, o1, n2, r2, hB1⟩
   have hg : w.heap.size < wr.heap.size := hR'.lt
   obtain ⟨cur, hcur, hsz⟩ := hR'.below hB1 hg
   have Hcur := Lib.hid hcur
   have Hsz := Lib.hid hsz
   clear hcur hsz
   have hl' := (Rep.length (K := fun _ => True) _ _ (Own.rep _ _ _ o1 (fun _ _ => trivial))).trans (TType.width _)
   have hone := Rep.one (K := fun _ => True) _ _ (Own.rep _ _ _ o1 (fun _ _ => trivial))
   have hi' : (Tryz.prog.info? 88).map (·.size) = some cs'.length := by rw [hl']; exact infoT88
   have Hl' := Lib.hid hl'
   clear hl'
   go_wp2_with (with_reducible refine stA rfl 88 _ _ rfl w.heap.size (k * 3) rfl cs' rfl hi' hone cur 88 Hcur.out (by rw [Hl'.out, Hsz.out]; omega) ?_)
   intro w2 hst
   have R2 : RowOf w2 w.heap.size 88 (l.length * 3) := RowOf.stored ⟨cur, Hcur.out, Hsz.out⟩ hst
   have hrow := row_step TType.width hlt h1 n1 r1 hg hB1 o1 n2 r2 hst
   have hB2 := hst.below (hB.trans (hB1.mono hB.size)) (Nat.le_refl _)
   obtain ⟨h1', n1', r1'⟩ := hrow
   have A1 := Lib.hid h1'; have A2 := Lib.hid n1'; have A3 := Lib.hid r1'; have A4 := Lib.hid hB2; have A5 := Lib.hid R2
   clear h1' n1' r1' hB2 R2 h1 n1 r1 hB
   go_wp2
   go_roundw
   case rel => exact ⟨k + 1, _, hlt, by go_num, .inr A5.out, A1.out, A2.out, A3.out, A4.out⟩
   case measure => simp [intOf]; omega
  ·obtain rfl : k = l.length := by omega
   rw [List.take_length] at h1
   go_wp2
   go_ret
   rcases hR with h | h
   ·exact ⟨_, _, [], rfl, own_nil (List.length_eq_zero_iff.1 h) (by unfold maxLen; omega) (by simp), List.nodup_nil, by simp, hB⟩
   ·obtain ⟨bs, o1, n2, r2⟩ := row_done (by unfold maxLen; omega) h h1 n1 r1
    exact ⟨_, _, bs, rfl, o1, n2, r2, hB⟩
theorem toType_all : ∀ N : Nat, ToType N ∧ ToTypeS N
 | 0 => ⟨fun _ h => absurd h (Nat.not_lt_zero _), fun _ h => absurd h (Nat.not_lt_zero _)⟩
 | N + 1 => by
  obtain ⟨i0, i1⟩ := toType_all N
  exact ⟨stepToType N i0 i1, stepToTypeS N i0 i1⟩
theorem toType_c (x : TType) : ∀ (_ : x.sz ≤ 1048576) (w : World) (K : Nat → Prop) (_ : ∀ b, K b → b < w.heap.size) (cs : List Value) (_ : Rep w K x.enc cs),
  Calls Tryz.prog 160 #[.agg cs.toArray] w fun e w' => ∃ cs' bs, e = .returned (.agg cs'.toArray) ∧ Own w' x.enc cs' bs ∧ bs.Nodup ∧ (∀ b ∈ bs, w.heap.size ≤ b ∧ b < w'.heap.size) ∧ Below w.heap.size w w' := (toType_all (SizeOf.sizeOf x + 1)).1 x (Nat.lt_succ_self _)
theorem toTypeS_c (l : List TType) : ∀ (_ : szs TType.sz l ≤ 1048576) (w : World) (K : Nat → Prop) (_ : ∀ b, K b → b < w.heap.size) (v : Value) (_ : Rep w K (.sl (l.map TType.enc)) [v]),
  Calls Tryz.prog 157 #[v] w fun e w' => ∃ a cap bs, e = .returned (.slice a l.length cap) ∧ Own w' (.sl (l.map TType.enc)) [.slice a l.length cap] bs ∧ bs.Nodup ∧ (∀ b ∈ bs, w.heap.size ≤ b ∧ b < w'.heap.size) ∧ Below w.heap.size w w' := (toType_all (SizeOf.sizeOf l + 1)).2 l (Nat.lt_succ_self _)
theorem infoT242 : (Tryz.prog.info? 242).map (·.size) = some 13 := by kernel_rfl
theorem zinfo242 : (Tryz.prog.info? 242).map (fun i => (i.zero, i.size, i.bytes)) = some (some (.agg #[.string ⟨#[]⟩, .slice none 0 0, .int .i64 0, .string ⟨#[]⟩, .string ⟨#[]⟩, .int .i64 0, .int .i64 0, .string ⟨#[]⟩, .slice none 0 0, .slice none 0 0, .slice none 0 0, .slice none 0 0, .slice none 0 0]), 13, 232) := by kernel_rfl
theorem infoT328 : (Tryz.prog.info? 328).map (·.size) = some 13 := by kernel_rfl
theorem infoT136 : (Tryz.prog.info? 136).map (·.size) = some 11 := by kernel_rfl
theorem zinfo136 : (Tryz.prog.info? 136).map (fun i => (i.zero, i.size, i.bytes)) = some (some (.agg #[.int .i64 0, .string ⟨#[]⟩, .string ⟨#[]⟩, .int .i64 0, .int .i64 0, .string ⟨#[]⟩, .slice none 0 0, .slice none 0 0, .slice none 0 0, .slice none 0 0, .slice none 0 0]), 11, 192) := by kernel_rfl
theorem infoT155 : (Tryz.prog.info? 155).map (·.size) = some 11 := by kernel_rfl
def ToCoreArm (N : Nat) : Prop := ∀ (x : TCoreArm), SizeOf.sizeOf x < N → ∀ (_ : x.sz ≤ 1048576) (w : World) (K : Nat → Prop) (_ : ∀ b, K b → b < w.heap.size) (cs : List Value) (_ : Rep w K x.enc cs),
  Calls Tryz.prog 242 #[.agg cs.toArray] w fun e w' => ∃ cs' bs, e = .returned (.agg cs'.toArray) ∧ Own w' x.enc cs' bs ∧ bs.Nodup ∧ (∀ b ∈ bs, w.heap.size ≤ b ∧ b < w'.heap.size) ∧ Below w.heap.size w w'
def ToCoreArmS (N : Nat) : Prop := ∀ (l : List TCoreArm), SizeOf.sizeOf l < N → ∀ (_ : szs TCoreArm.sz l ≤ 1048576) (w : World) (K : Nat → Prop) (_ : ∀ b, K b → b < w.heap.size) (v : Value) (_ : Rep w K (.sl (l.map TCoreArm.enc)) [v]),
  Calls Tryz.prog 209 #[v] w fun e w' => ∃ a cap bs, e = .returned (.slice a l.length cap) ∧ Own w' (.sl (l.map TCoreArm.enc)) [.slice a l.length cap] bs ∧ bs.Nodup ∧ (∀ b ∈ bs, w.heap.size ≤ b ∧ b < w'.heap.size) ∧ Below w.heap.size w w'
def ToCore (N : Nat) : Prop := ∀ (x : TCore), SizeOf.sizeOf x < N → ∀ (_ : x.sz ≤ 1048576) (w : World) (K : Nat → Prop) (_ : ∀ b, K b → b < w.heap.size) (cs : List Value) (_ : Rep w K x.enc cs),
  Calls Tryz.prog 159 #[.agg cs.toArray] w fun e w' => ∃ cs' bs, e = .returned (.agg cs'.toArray) ∧ Own w' x.enc cs' bs ∧ bs.Nodup ∧ (∀ b ∈ bs, w.heap.size ≤ b ∧ b < w'.heap.size) ∧ Below w.heap.size w w'
def ToCoreS (N : Nat) : Prop := ∀ (l : List TCore), SizeOf.sizeOf l < N → ∀ (_ : szs TCore.sz l ≤ 1048576) (w : World) (K : Nat → Prop) (_ : ∀ b, K b → b < w.heap.size) (v : Value) (_ : Rep w K (.sl (l.map TCore.enc)) [v]),
  Calls Tryz.prog 208 #[v] w fun e w' => ∃ a cap bs, e = .returned (.slice a l.length cap) ∧ Own w' (.sl (l.map TCore.enc)) [.slice a l.length cap] bs ∧ bs.Nodup ∧ (∀ b ∈ bs, w.heap.size ≤ b ∧ b < w'.heap.size) ∧ Below w.heap.size w w'
set_option maxRecDepth 100000 in
set_option maxHeartbeats 1000000 in
theorem stepToCoreArm (N : Nat) (_iToCoreArm : ToCoreArm N) (_iToCoreArmS : ToCoreArmS N) (iToCore : ToCore N) (_iToCoreS : ToCoreS N) : ToCoreArm (N + 1) := by
 intro x hN hz w K hK cs h
 obtain ⟨c1, c2, c3, c4, c5, c6, c7, c8, c9, c10, c11, c12, rfl, hConstructor, hVars, hBody⟩ := TCoreArm.opn h
 clear h
 have HConstructor := Lib.hid hConstructor; clear hConstructor
 have Hz := Lib.hid hz; clear hz
 have hV0 : Below w.heap.size w (((w.alloc (.cells #[.string x.fConstructor, c1, c2, c3, c4, c5, c6, c7, c8, c9, c10, c11, c12] 328)).alloc (.cells #[.string ⟨#[]⟩, .slice none 0 0, .int .i64 0, .string ⟨#[]⟩, .string ⟨#[]⟩, .int .i64 0, .int .i64 0, .string ⟨#[]⟩, .slice none 0 0, .slice none 0 0, .slice none 0 0, .slice none 0 0, .slice none 0 0] 242)).alloc (.cells #[.string x.fConstructor, .slice none 0 0, .int .i64 0, .string ⟨#[]⟩, .string ⟨#[]⟩, .int .i64 0, .int .i64 0, .string ⟨#[]⟩, .slice none 0 0, .slice none 0 0, .slice none 0 0, .slice none 0 0, .slice none 0 0] 242)) := (((Below.refl _ _).alloc (Nat.le_refl _) _).alloc (by simp) _).alloc (by simp <;> omega) _
 have hs0 : w.heap.size + 1 + 1 < (((w.alloc (.cells #[.string x.fConstructor, c1, c2, c3, c4, c5, c6, c7, c8, c9, c10, c11, c12] 328)).alloc (.cells #[.string ⟨#[]⟩, .slice none 0 0, .int .i64 0, .string ⟨#[]⟩, .string ⟨#[]⟩, .int .i64 0, .int .i64 0, .string ⟨#[]⟩, .slice none 0 0, .slice none 0 0, .slice none 0 0, .slice none 0 0, .slice none 0 0] 242)).alloc (.cells #[.string x.fConstructor, .slice none 0 0, .int .i64 0, .string ⟨#[]⟩, .string ⟨#[]⟩, .int .i64 0, .int .i64 0, .string ⟨#[]⟩, .slice none 0 0, .slice none 0 0, .slice none 0 0, .slice none 0 0, .slice none 0 0] 242)).heap.size := by simp
 go_enter Tryz.func242, Tryz.ntmps242
 go_wp2_with fail
 refine (toStringS_c x.fVars (by have := Hz.out; rw [TCoreArm.sz_eq] at this; omega) _ K (fun b hb => Nat.lt_of_lt_of_le (hK b hb) hV0.size) _ (Rep.ext hV0 hK hVars)).mono ?_
 rintro e w1 ⟨a1, p1, b1, rfl, o1, n1, r1, hB1⟩
 have hb1 := hV0.trans (hB1.mono hV0.size)
 have hc1 := (bcell hB1).1
 have hf1 := (bcell hB1).2
 have hz1 : w.heap.size + 1 + 1 < w1.heap.size := Nat.lt_of_lt_of_le hs0 hB1.size
 have hy1 : w.heap.size < w1.heap.size := by omega
 have hx1 : w.heap.size + 1 < w1.heap.size := by omega
 have s1 : ∀ b ∈ b1, w.heap.size + 1 + 1 + 1 ≤ b ∧ b < w1.heap.size := by intro b hb; have := r1 b hb; simp at this; omega
 have z1 : w.heap.size + 1 + 1 + 1 ≤ w1.heap.size := by have := hB1.size; simp at this; omega
 have hV1 := hb1 |>.setCell (p := ⟨w.heap.size + 1 + 1, 1, none⟩) (by show w.heap.size ≤ w.heap.size + 1 + 1; omega) (.slice a1 x.fVars.length p1)
 have hs1 : w.heap.size + 1 + 1 < _ := Nat.lt_of_lt_of_le hz1 ((Up.refl (w.heap.size + 1 + 1) w1) |>.setCell ⟨w.heap.size + 1 + 1, 1, none⟩ (Nat.le_refl _) (.slice a1 x.fVars.length p1)).size
 have u1 := (Up.refl (w.heap.size + 1 + 1) w1) |>.setCell ⟨w.heap.size + 1 + 1, 1, none⟩ (Nat.le_refl _) (.slice a1 x.fVars.length p1)
 go_wp2_with fail
 refine (iToCore x.fBody (by have := TCoreArm.lt_fBody x; omega) (by have := Hz.out; rw [TCoreArm.sz_eq] at this; omega) _ K (fun b hb => Nat.lt_of_lt_of_le (hK b hb) hV1.size) _ (Rep.ext hV1 hK hBody)).mono ?_
 rintro e w2 ⟨cs2, b2, rfl, o2, n2, r2, hB2⟩
 obtain ⟨d2, d3, d4, d5, d6, d7, d8, d9, d10, d11, d12, rfl⟩ := len11 ((Rep.length (K := fun _ => True) _ _ (Own.rep _ _ _ o2 (fun _ _ => trivial))).trans (TCore.width _))
 have one2 := Rep.one (K := fun _ => True) _ _ (Own.rep _ _ _ o2 (fun _ _ => trivial))
 have qd2 := st_one (one2 d2 (by simp))
 have qd3 := st_one (one2 d3 (by simp))
 have qd4 := st_one (one2 d4 (by simp))
 have qd5 := st_one (one2 d5 (by simp))
 have qd6 := st_one (one2 d6 (by simp))
 have qd7 := st_one (one2 d7 (by simp))
 have qd8 := st_one (one2 d8 (by simp))
 have qd9 := st_one (one2 d9 (by simp))
 have qd10 := st_one (one2 d10 (by simp))
 have qd11 := st_one (one2 d11 (by simp))
 have qd12 := st_one (one2 d12 (by simp))
 have hb2 := hV1.trans (hB2.mono hV1.size)
 have hc2 := (bcell hB2).1
 have hf2 := (bcell hB2).2
 have hz2 : w.heap.size + 1 + 1 < w2.heap.size := Nat.lt_of_lt_of_le hs1 hB2.size
 have hy2 : w.heap.size < w2.heap.size := by omega
 have hx2 : w.heap.size + 1 < w2.heap.size := by omega
 have s2 : ∀ b ∈ b2, w1.heap.size ≤ b ∧ b < w2.heap.size := by intro b hb; have := r2 b hb; simp at this; omega
 have z2 : w1.heap.size ≤ w2.heap.size := by have := hB2.size; simp at this; omega
 have u1 := u1.below hB2
 go_wp2
 have hV := hb2 |>.setCell (p := ⟨w.heap.size + 1 + 1, 2, none⟩) (by show w.heap.size ≤ w.heap.size + 1 + 1; omega) (d2) |>.setCell (p := ⟨w.heap.size + 1 + 1, 3, none⟩) (by show w.heap.size ≤ w.heap.size + 1 + 1; omega) (d3) |>.setCell (p := ⟨w.heap.size + 1 + 1, 4, none⟩) (by show w.heap.size ≤ w.heap.size + 1 + 1; omega) (d4) |>.setCell (p := ⟨w.heap.size + 1 + 1, 5, none⟩) (by show w.heap.size ≤ w.heap.size + 1 + 1; omega) (d5) |>.setCell (p := ⟨w.heap.size + 1 + 1, 6, none⟩) (by show w.heap.size ≤ w.heap.size + 1 + 1; omega) (d6) |>.setCell (p := ⟨w.heap.size + 1 + 1, 7, none⟩) (by show w.heap.size ≤ w.heap.size + 1 + 1; omega) (d7) |>.setCell (p := ⟨w.heap.size + 1 + 1, 8, none⟩) (by show w.heap.size ≤ w.heap.size + 1 + 1; omega) (d8) |>.setCell (p := ⟨w.heap.size + 1 + 1, 9, none⟩) (by show w.heap.size ≤ w.heap.size + 1 + 1; omega) (d9) |>.setCell (p := ⟨w.heap.size + 1 + 1, 10, none⟩) (by show w.heap.size ≤ w.heap.size + 1 + 1; omega) (d10) |>.setCell (p := ⟨w.heap.size + 1 + 1, 11, none⟩) (by show w.heap.size ≤ w.heap.size + 1 + 1; omega) (d11) |>.setCell (p := ⟨w.heap.size + 1 + 1, 12, none⟩) (by show w.heap.size ≤ w.heap.size + 1 + 1; omega) (d12) |>.setCell (p := ⟨w.heap.size + 1, 0, none⟩) (by show w.heap.size ≤ w.heap.size + 1; omega) (.string x.fConstructor) |>.setCell (p := ⟨w.heap.size + 1, 1, none⟩) (by show w.heap.size ≤ w.heap.size + 1; omega) (.slice a1 x.fVars.length p1) |>.setCell (p := ⟨w.heap.size + 1, 2, none⟩) (by show w.heap.size ≤ w.heap.size + 1; omega) (d2) |>.setCell (p := ⟨w.heap.size + 1, 3, none⟩) (by show w.heap.size ≤ w.heap.size + 1; omega) (d3) |>.setCell (p := ⟨w.heap.size + 1, 4, none⟩) (by show w.heap.size ≤ w.heap.size + 1; omega) (d4) |>.setCell (p := ⟨w.heap.size + 1, 5, none⟩) (by show w.heap.size ≤ w.heap.size + 1; omega) (d5) |>.setCell (p := ⟨w.heap.size + 1, 6, none⟩) (by show w.heap.size ≤ w.heap.size + 1; omega) (d6) |>.setCell (p := ⟨w.heap.size + 1, 7, none⟩) (by show w.heap.size ≤ w.heap.size + 1; omega) (d7) |>.setCell (p := ⟨w.heap.size + 1, 8, none⟩) (by show w.heap.size ≤ w.heap.size + 1; omega) (d8) |>.setCell (p := ⟨w.heap.size + 1, 9, none⟩) (by show w.heap.size ≤ w.heap.size + 1; omega) (d9) |>.setCell (p := ⟨w.heap.size + 1, 10, none⟩) (by show w.heap.size ≤ w.heap.size + 1; omega) (d10) |>.setCell (p := ⟨w.heap.size + 1, 11, none⟩) (by show w.heap.size ≤ w.heap.size + 1; omega) (d11) |>.setCell (p := ⟨w.heap.size + 1, 12, none⟩) (by show w.heap.size ≤ w.heap.size + 1; omega) (d12)
 have u1 := u1 |>.setCell ⟨w.heap.size + 1 + 1, 2, none⟩ (by show w.heap.size + 1 + 1 ≤ w.heap.size + 1 + 1; omega) (d2) |>.setCell ⟨w.heap.size + 1 + 1, 3, none⟩ (by show w.heap.size + 1 + 1 ≤ w.heap.size + 1 + 1; omega) (d3) |>.setCell ⟨w.heap.size + 1 + 1, 4, none⟩ (by show w.heap.size + 1 + 1 ≤ w.heap.size + 1 + 1; omega) (d4) |>.setCell ⟨w.heap.size + 1 + 1, 5, none⟩ (by show w.heap.size + 1 + 1 ≤ w.heap.size + 1 + 1; omega) (d5) |>.setCell ⟨w.heap.size + 1 + 1, 6, none⟩ (by show w.heap.size + 1 + 1 ≤ w.heap.size + 1 + 1; omega) (d6) |>.setCell ⟨w.heap.size + 1 + 1, 7, none⟩ (by show w.heap.size + 1 + 1 ≤ w.heap.size + 1 + 1; omega) (d7) |>.setCell ⟨w.heap.size + 1 + 1, 8, none⟩ (by show w.heap.size + 1 + 1 ≤ w.heap.size + 1 + 1; omega) (d8) |>.setCell ⟨w.heap.size + 1 + 1, 9, none⟩ (by show w.heap.size + 1 + 1 ≤ w.heap.size + 1 + 1; omega) (d9) |>.setCell ⟨w.heap.size + 1 + 1, 10, none⟩ (by show w.heap.size + 1 + 1 ≤ w.heap.size + 1 + 1; omega) (d10) |>.setCell ⟨w.heap.size + 1 + 1, 11, none⟩ (by show w.heap.size + 1 + 1 ≤ w.heap.size + 1 + 1; omega) (d11) |>.setCell ⟨w.heap.size + 1 + 1, 12, none⟩ (by show w.heap.size + 1 + 1 ≤ w.heap.size + 1 + 1; omega) (d12) |>.setCell ⟨w.heap.size + 1, 0, none⟩ (by show w.heap.size + 1 ≤ w.heap.size + 1 + 1; omega) (.string x.fConstructor) |>.setCell ⟨w.heap.size + 1, 1, none⟩ (by show w.heap.size + 1 ≤ w.heap.size + 1 + 1; omega) (.slice a1 x.fVars.length p1) |>.setCell ⟨w.heap.size + 1, 2, none⟩ (by show w.heap.size + 1 ≤ w.heap.size + 1 + 1; omega) (d2) |>.setCell ⟨w.heap.size + 1, 3, none⟩ (by show w.heap.size + 1 ≤ w.heap.size + 1 + 1; omega) (d3) |>.setCell ⟨w.heap.size + 1, 4, none⟩ (by show w.heap.size + 1 ≤ w.heap.size + 1 + 1; omega) (d4) |>.setCell ⟨w.heap.size + 1, 5, none⟩ (by show w.heap.size + 1 ≤ w.heap.size + 1 + 1; omega) (d5) |>.setCell ⟨w.heap.size + 1, 6, none⟩ (by show w.heap.size + 1 ≤ w.heap.size + 1 + 1; omega) (d6) |>.setCell ⟨w.heap.size + 1, 7, none⟩ (by show w.heap.size + 1 ≤ w.heap.size + 1 + 1; omega) (d7) |>.setCell ⟨w.heap.size + 1, 8, none⟩ (by show w.heap.size + 1 ≤ w.heap.size + 1 + 1; omega) (d8) |>.setCell ⟨w.heap.size + 1, 9, none⟩ (by show w.heap.size + 1 ≤ w.heap.size + 1 + 1; omega) (d9) |>.setCell ⟨w.heap.size + 1, 10, none⟩ (by show w.heap.size + 1 ≤ w.heap.size + 1 + 1; omega) (d10) |>.setCell ⟨w.heap.size + 1, 11, none⟩ (by show w.heap.size + 1 ≤ w.heap.size + 1 + 1; omega) (d11) |>.setCell ⟨w.heap.size + 1, 12, none⟩ (by show w.heap.size + 1 ≤ w.heap.size + 1 + 1; omega) (d12)
 have u2 := (Up.refl (w.heap.size + 1 + 1) w2) |>.setCell ⟨w.heap.size + 1 + 1, 2, none⟩ (by show w.heap.size + 1 + 1 ≤ w.heap.size + 1 + 1; omega) (d2) |>.setCell ⟨w.heap.size + 1 + 1, 3, none⟩ (by show w.heap.size + 1 + 1 ≤ w.heap.size + 1 + 1; omega) (d3) |>.setCell ⟨w.heap.size + 1 + 1, 4, none⟩ (by show w.heap.size + 1 + 1 ≤ w.heap.size + 1 + 1; omega) (d4) |>.setCell ⟨w.heap.size + 1 + 1, 5, none⟩ (by show w.heap.size + 1 + 1 ≤ w.heap.size + 1 + 1; omega) (d5) |>.setCell ⟨w.heap.size + 1 + 1, 6, none⟩ (by show w.heap.size + 1 + 1 ≤ w.heap.size + 1 + 1; omega) (d6) |>.setCell ⟨w.heap.size + 1 + 1, 7, none⟩ (by show w.heap.size + 1 + 1 ≤ w.heap.size + 1 + 1; omega) (d7) |>.setCell ⟨w.heap.size + 1 + 1, 8, none⟩ (by show w.heap.size + 1 + 1 ≤ w.heap.size + 1 + 1; omega) (d8) |>.setCell ⟨w.heap.size + 1 + 1, 9, none⟩ (by show w.heap.size + 1 + 1 ≤ w.heap.size + 1 + 1; omega) (d9) |>.setCell ⟨w.heap.size + 1 + 1, 10, none⟩ (by show w.heap.size + 1 + 1 ≤ w.heap.size + 1 + 1; omega) (d10) |>.setCell ⟨w.heap.size + 1 + 1, 11, none⟩ (by show w.heap.size + 1 + 1 ≤ w.heap.size + 1 + 1; omega) (d11) |>.setCell ⟨w.heap.size + 1 + 1, 12, none⟩ (by show w.heap.size + 1 + 1 ≤ w.heap.size + 1 + 1; omega) (d12) |>.setCell ⟨w.heap.size + 1, 0, none⟩ (by show w.heap.size + 1 ≤ w.heap.size + 1 + 1; omega) (.string x.fConstructor) |>.setCell ⟨w.heap.size + 1, 1, none⟩ (by show w.heap.size + 1 ≤ w.heap.size + 1 + 1; omega) (.slice a1 x.fVars.length p1) |>.setCell ⟨w.heap.size + 1, 2, none⟩ (by show w.heap.size + 1 ≤ w.heap.size + 1 + 1; omega) (d2) |>.setCell ⟨w.heap.size + 1, 3, none⟩ (by show w.heap.size + 1 ≤ w.heap.size + 1 + 1; omega) (d3) |>.setCell ⟨w.heap.size + 1, 4, none⟩ (by show w.heap.size + 1 ≤ w.heap.size + 1 + 1; omega) (d4) |>.setCell ⟨w.heap.size + 1, 5, none⟩ (by show w.heap.size + 1 ≤ w.heap.size + 1 + 1; omega) (d5) |>.setCell ⟨w.heap.size + 1, 6, none⟩ (by show w.heap.size + 1 ≤ w.heap.size + 1 + 1; omega) (d6) |>.setCell ⟨w.heap.size + 1, 7, none⟩ (by show w.heap.size + 1 ≤ w.heap.size + 1 + 1; omega) (d7) |>.setCell ⟨w.heap.size + 1, 8, none⟩ (by show w.heap.size + 1 ≤ w.heap.size + 1 + 1; omega) (d8) |>.setCell ⟨w.heap.size + 1, 9, none⟩ (by show w.heap.size + 1 ≤ w.heap.size + 1 + 1; omega) (d9) |>.setCell ⟨w.heap.size + 1, 10, none⟩ (by show w.heap.size + 1 ≤ w.heap.size + 1 + 1; omega) (d10) |>.setCell ⟨w.heap.size + 1, 11, none⟩ (by show w.heap.size + 1 ≤ w.heap.size + 1 + 1; omega) (d11) |>.setCell ⟨w.heap.size + 1, 12, none⟩ (by show w.heap.size + 1 ≤ w.heap.size + 1 + 1; omega) (d12)
 have j2 := join2 n2 s2 List.nodup_nil (b2 := []) (mid := w2.heap.size) (hi := w2.heap.size) (by simp) z2 (Nat.le_refl _)
 have j1 := join2 n1 s1 j2.1 j2.2 z1 (by omega)
 refine bodyPost_ret (v := .agg #[.string x.fConstructor, .slice a1 x.fVars.length p1, d2, d3, d4, d5, d6, d7, d8, d9, d10, d11, d12]) (by simp [results, Tryz.results242, go_sem, *]) rfl ⟨[.string x.fConstructor, .slice a1 x.fVars.length p1, d2, d3, d4, d5, d6, d7, d8, d9, d10, d11, d12], _, rfl, TCoreArm.mk_own HConstructor.out (u1.own o1 s1 (by omega)) (u2.own o2 s2 (by omega)), j1.1, ?_, hV⟩
 intro b hb
 have := j1.2 b hb
 simp
 omega
set_option maxRecDepth 100000 in
set_option maxHeartbeats 1000000 in
theorem stepToCoreArmS (N : Nat) (iToCoreArm : ToCoreArm N) (_iToCoreArmS : ToCoreArmS N) (_iToCore : ToCore N) (_iToCoreS : ToCoreS N) : ToCoreArmS (N + 1) := by
 intro l hN hz w K hK v h
 have hlen : l.length ≤ 1048576 := by unfold szs at hz; omega
 obtain ⟨a, cap, rfl, hc, hm, -, hE⟩ := open_sl TCoreArm.width h
 unfold maxLen at hm
 clear h
 obtain ⟨i0, h2, hz0, hz1, hz2⟩ := info_parts zinfo242
 go_enter Tryz.func209, Tryz.ntmps209
 go_wp2_with (at_make; refine wpList_make_full _ rfl _ _ 134 rfl w.heap.size 242 i0 _ 13 Tryz.underlying134 h2 hz0 hz1 _ _ _ _ l.length rfl rfl rfl rfl (by rw [hz2]; omega) (by unfold maxLen; omega) (Nat.le_refl _) ?_)
 intro wm hown hgr
 have hB0 : Below w.heap.size w wm := (Below.refl _ _).grown hgr (Nat.le_refl _) (by simp)
 have hR : l.length = 0 ∨ RowOf wm w.heap.size 242 (l.length * 13) := (rowOf_made hown).symm
 clear hown hgr
 go_wp2
 go_loopw [4] (fun i wr => ∃ (k : Nat) (r : List Nat), k ≤ l.length ∧ i = .int .i64 k ∧ (l.length = 0 ∨ RowOf wr w.heap.size 242 (l.length * 13)) ∧ OwnE wr ((l.take k).map TCoreArm.enc) w.heap.size 0 r ∧ r.Nodup ∧ (∀ b ∈ r, w.heap.size + 1 ≤ b ∧ b < wr.heap.size) ∧ Below w.heap.size w wr) (fun i _ => l.length - (intOf i).toNat)
 case atStart => exact ⟨0, [], Nat.zero_le _, rfl, hR, by simp only [List.take_zero, List.map_nil, OwnE], List.nodup_nil, by simp, hB0⟩
 case round =>
  clear hR hB0
  obtain ⟨k, r, hk, rfl, hR, h1, n1, r1, hB⟩ := hrel
  by_cases hlt : k < l.length
  ·obtain ⟨b, off, rfl, hKb, cs, hcs, hr⟩ := hE k hlt
   have hr' := Rep.ext hB hK hr
   have hcs' := hcs.ext hB (hK b hKb)
   have hK' : ∀ b, K b → b < wr.heap.size := fun b h => Nat.lt_of_lt_of_le (hK b h) hB.size
   have hR' : RowOf wr w.heap.size 242 (l.length * 13) := by rcases hR with h | h <;> first | omega | exact h
   have hroom : k * 13 + 13 ≤ l.length * 13 := by have := Nat.mul_le_mul_right 13 (show k + 1 ≤ l.length from hlt); rw [Nat.add_mul] at this; omega
   clear hE hcs hr hR
   have hi : (Tryz.prog.info? 328).map (·.size) = some cs.length := by rw [Rep.length _ _ hr', TCoreArm.width]; exact infoT328
   have hmem : l[k] ∈ l := List.getElem_mem hlt
   go_wp2_with (with_reducible refine ld rfl 328 _ rfl b _ rfl cs hcs' _ Tryz.underlying328 hi ?_)
   refine (iToCoreArm l[k] (by have := List.sizeOf_lt_of_mem hmem; omega) (by have := szL_le TCoreArm.sz hmem; unfold szs at hz; omega) _ K hK' _ hr').mono ?_
   rintro e w1 ⟨cs', bs, rfl, o1, n2, r2, hB1⟩
   have hg : w.heap.size < wr.heap.size := hR'.lt
   obtain ⟨cur, hcur, hsz⟩ := hR'.below hB1 hg
   have Hcur := Lib.hid hcur
   have Hsz := Lib.hid hsz
   clear hcur hsz
   have hl' := (Rep.length (K := fun _ => True) _ _ (Own.rep _ _ _ o1 (fun _ _ => trivial))).trans (TCoreArm.width _)
   have hone := Rep.one (K := fun _ => True) _ _ (Own.rep _ _ _ o1 (fun _ _ => trivial))
   have hi' : (Tryz.prog.info? 242).map (·.size) = some cs'.length := by rw [hl']; exact infoT242
   have Hl' := Lib.hid hl'
   clear hl'
   go_wp2_with (with_reducible refine stA rfl 242 _ _ rfl w.heap.size (k * 13) rfl cs' rfl hi' hone cur 242 Hcur.out (by rw [Hl'.out, Hsz.out]; omega) ?_)
   intro w2 hst
   have R2 : RowOf w2 w.heap.size 242 (l.length * 13) := RowOf.stored ⟨cur, Hcur.out, Hsz.out⟩ hst
   have hrow := row_step TCoreArm.width hlt h1 n1 r1 hg hB1 o1 n2 r2 hst
   have hB2 := hst.below (hB.trans (hB1.mono hB.size)) (Nat.le_refl _)
   obtain ⟨h1', n1', r1'⟩ := hrow
   have A1 := Lib.hid h1'; have A2 := Lib.hid n1'; have A3 := Lib.hid r1'; have A4 := Lib.hid hB2; have A5 := Lib.hid R2
   clear h1' n1' r1' hB2 R2 h1 n1 r1 hB
   go_wp2
   go_roundw
   case rel => exact ⟨k + 1, _, hlt, by go_num, .inr A5.out, A1.out, A2.out, A3.out, A4.out⟩
   case measure => simp [intOf]; omega
  ·obtain rfl : k = l.length := by omega
   rw [List.take_length] at h1
   go_wp2
   go_ret
   rcases hR with h | h
   ·exact ⟨_, _, [], rfl, own_nil (List.length_eq_zero_iff.1 h) (by unfold maxLen; omega) (by simp), List.nodup_nil, by simp, hB⟩
   ·obtain ⟨bs, o1, n2, r2⟩ := row_done (by unfold maxLen; omega) h h1 n1 r1
    exact ⟨_, _, bs, rfl, o1, n2, r2, hB⟩
set_option maxRecDepth 100000 in
set_option maxHeartbeats 1000000 in
theorem stepToCore (N : Nat) (_iToCoreArm : ToCoreArm N) (iToCoreArmS : ToCoreArmS N) (_iToCore : ToCore N) (iToCoreS : ToCoreS N) : ToCore (N + 1) := by
 intro x hN hz w K hK cs h
 obtain ⟨c4, c5, c6, c7, c8, c9, c10, rfl, hKind, hTrait, hName, hN, hType, hTypeArgs, hEvidence, hArgs, hArms⟩ := TCore.opn h
 clear h
 have HKind := Lib.hid hKind; clear hKind
 have HTrait := Lib.hid hTrait; clear hTrait
 have HName := Lib.hid hName; clear hName
 have HN := Lib.hid hN; clear hN
 have Hz := Lib.hid hz; clear hz
 have hV0 : Below w.heap.size w (((w.alloc (.cells #[.int .i64 x.fKind, .string x.fTrait, .string x.fName, .int .i64 x.fN, c4, c5, c6, c7, c8, c9, c10] 155)).alloc (.cells #[.int .i64 0, .string ⟨#[]⟩, .string ⟨#[]⟩, .int .i64 0, .int .i64 0, .string ⟨#[]⟩, .slice none 0 0, .slice none 0 0, .slice none 0 0, .slice none 0 0, .slice none 0 0] 136)).alloc (.cells #[.int .i64 x.fKind, .string x.fTrait, .string x.fName, .int .i64 x.fN, .int .i64 0, .string ⟨#[]⟩, .slice none 0 0, .slice none 0 0, .slice none 0 0, .slice none 0 0, .slice none 0 0] 136)) := (((Below.refl _ _).alloc (Nat.le_refl _) _).alloc (by simp) _).alloc (by simp <;> omega) _
 have hs0 : w.heap.size + 1 + 1 < (((w.alloc (.cells #[.int .i64 x.fKind, .string x.fTrait, .string x.fName, .int .i64 x.fN, c4, c5, c6, c7, c8, c9, c10] 155)).alloc (.cells #[.int .i64 0, .string ⟨#[]⟩, .string ⟨#[]⟩, .int .i64 0, .int .i64 0, .string ⟨#[]⟩, .slice none 0 0, .slice none 0 0, .slice none 0 0, .slice none 0 0, .slice none 0 0] 136)).alloc (.cells #[.int .i64 x.fKind, .string x.fTrait, .string x.fName, .int .i64 x.fN, .int .i64 0, .string ⟨#[]⟩, .slice none 0 0, .slice none 0 0, .slice none 0 0, .slice none 0 0, .slice none 0 0] 136)).heap.size := by simp
 go_enter Tryz.func159, Tryz.ntmps159
 go_wp2_with fail
 refine (toType_c x.fType (by have := Hz.out; rw [TCore.sz_eq] at this; omega) _ K (fun b hb => Nat.lt_of_lt_of_le (hK b hb) hV0.size) _ (Rep.ext hV0 hK hType)).mono ?_
 rintro e w1 ⟨cs1, b1, rfl, o1, n1, r1, hB1⟩
 obtain ⟨d4, d5, d6, rfl⟩ := len3 ((Rep.length (K := fun _ => True) _ _ (Own.rep _ _ _ o1 (fun _ _ => trivial))).trans (TType.width _))
 have one1 := Rep.one (K := fun _ => True) _ _ (Own.rep _ _ _ o1 (fun _ _ => trivial))
 have qd4 := st_one (one1 d4 (by simp))
 have qd5 := st_one (one1 d5 (by simp))
 have qd6 := st_one (one1 d6 (by simp))
 have hb1 := hV0.trans (hB1.mono hV0.size)
 have hc1 := (bcell hB1).1
 have hf1 := (bcell hB1).2
 have hz1 : w.heap.size + 1 + 1 < w1.heap.size := Nat.lt_of_lt_of_le hs0 hB1.size
 have hy1 : w.heap.size < w1.heap.size := by omega
 have hx1 : w.heap.size + 1 < w1.heap.size := by omega
 have s1 : ∀ b ∈ b1, w.heap.size + 1 + 1 + 1 ≤ b ∧ b < w1.heap.size := by intro b hb; have := r1 b hb; simp at this; omega
 have z1 : w.heap.size + 1 + 1 + 1 ≤ w1.heap.size := by have := hB1.size; simp at this; omega
 have hV1 := hb1 |>.setCell (p := ⟨w.heap.size + 1 + 1, 4, none⟩) (by show w.heap.size ≤ w.heap.size + 1 + 1; omega) (d4) |>.setCell (p := ⟨w.heap.size + 1 + 1, 5, none⟩) (by show w.heap.size ≤ w.heap.size + 1 + 1; omega) (d5) |>.setCell (p := ⟨w.heap.size + 1 + 1, 6, none⟩) (by show w.heap.size ≤ w.heap.size + 1 + 1; omega) (d6)
 have hs1 : w.heap.size + 1 + 1 < _ := Nat.lt_of_lt_of_le hz1 ((Up.refl (w.heap.size + 1 + 1) w1) |>.setCell ⟨w.heap.size + 1 + 1, 4, none⟩ (Nat.le_refl _) (d4) |>.setCell ⟨w.heap.size + 1 + 1, 5, none⟩ (Nat.le_refl _) (d5) |>.setCell ⟨w.heap.size + 1 + 1, 6, none⟩ (Nat.le_refl _) (d6)).size
 have u1 := (Up.refl (w.heap.size + 1 + 1) w1) |>.setCell ⟨w.heap.size + 1 + 1, 4, none⟩ (Nat.le_refl _) (d4) |>.setCell ⟨w.heap.size + 1 + 1, 5, none⟩ (Nat.le_refl _) (d5) |>.setCell ⟨w.heap.size + 1 + 1, 6, none⟩ (Nat.le_refl _) (d6)
 go_wp2_with fail
 refine (toTypeS_c x.fTypeArgs (by have := Hz.out; rw [TCore.sz_eq] at this; omega) _ K (fun b hb => Nat.lt_of_lt_of_le (hK b hb) hV1.size) _ (Rep.ext hV1 hK hTypeArgs)).mono ?_
 rintro e w2 ⟨a2, p2, b2, rfl, o2, n2, r2, hB2⟩
 have hb2 := hV1.trans (hB2.mono hV1.size)
 have hc2 := (bcell hB2).1
 have hf2 := (bcell hB2).2
 have hz2 : w.heap.size + 1 + 1 < w2.heap.size := Nat.lt_of_lt_of_le hs1 hB2.size
 have hy2 : w.heap.size < w2.heap.size := by omega
 have hx2 : w.heap.size + 1 < w2.heap.size := by omega
 have s2 : ∀ b ∈ b2, w1.heap.size ≤ b ∧ b < w2.heap.size := by intro b hb; have := r2 b hb; simp at this; omega
 have z2 : w1.heap.size ≤ w2.heap.size := by have := hB2.size; simp at this; omega
 have u1 := u1.below hB2
 have hV2 := hb2 |>.setCell (p := ⟨w.heap.size + 1 + 1, 7, none⟩) (by show w.heap.size ≤ w.heap.size + 1 + 1; omega) (.slice a2 x.fTypeArgs.length p2)
 have hs2 : w.heap.size + 1 + 1 < _ := Nat.lt_of_lt_of_le hz2 ((Up.refl (w.heap.size + 1 + 1) w2) |>.setCell ⟨w.heap.size + 1 + 1, 7, none⟩ (Nat.le_refl _) (.slice a2 x.fTypeArgs.length p2)).size
 have u1 := u1 |>.setCell ⟨w.heap.size + 1 + 1, 7, none⟩ (Nat.le_refl _) (.slice a2 x.fTypeArgs.length p2)
 have u2 := (Up.refl (w.heap.size + 1 + 1) w2) |>.setCell ⟨w.heap.size + 1 + 1, 7, none⟩ (Nat.le_refl _) (.slice a2 x.fTypeArgs.length p2)
 go_wp2_with fail
 refine (toEvidenceS_c x.fEvidence (by have := Hz.out; rw [TCore.sz_eq] at this; omega) _ K (fun b hb => Nat.lt_of_lt_of_le (hK b hb) hV2.size) _ (Rep.ext hV2 hK hEvidence)).mono ?_
 rintro e w3 ⟨a3, p3, b3, rfl, o3, n3, r3, hB3⟩
 have hb3 := hV2.trans (hB3.mono hV2.size)
 have hc3 := (bcell hB3).1
 have hf3 := (bcell hB3).2
 have hz3 : w.heap.size + 1 + 1 < w3.heap.size := Nat.lt_of_lt_of_le hs2 hB3.size
 have hy3 : w.heap.size < w3.heap.size := by omega
 have hx3 : w.heap.size + 1 < w3.heap.size := by omega
 have s3 : ∀ b ∈ b3, w2.heap.size ≤ b ∧ b < w3.heap.size := by intro b hb; have := r3 b hb; simp at this; omega
 have z3 : w2.heap.size ≤ w3.heap.size := by have := hB3.size; simp at this; omega
 have u1 := u1.below hB3
 have u2 := u2.below hB3
 have hV3 := hb3 |>.setCell (p := ⟨w.heap.size + 1 + 1, 8, none⟩) (by show w.heap.size ≤ w.heap.size + 1 + 1; omega) (.slice a3 x.fEvidence.length p3)
 have hs3 : w.heap.size + 1 + 1 < _ := Nat.lt_of_lt_of_le hz3 ((Up.refl (w.heap.size + 1 + 1) w3) |>.setCell ⟨w.heap.size + 1 + 1, 8, none⟩ (Nat.le_refl _) (.slice a3 x.fEvidence.length p3)).size
 have u1 := u1 |>.setCell ⟨w.heap.size + 1 + 1, 8, none⟩ (Nat.le_refl _) (.slice a3 x.fEvidence.length p3)
 have u2 := u2 |>.setCell ⟨w.heap.size + 1 + 1, 8, none⟩ (Nat.le_refl _) (.slice a3 x.fEvidence.length p3)
 have u3 := (Up.refl (w.heap.size + 1 + 1) w3) |>.setCell ⟨w.heap.size + 1 + 1, 8, none⟩ (Nat.le_refl _) (.slice a3 x.fEvidence.length p3)
 go_wp2_with fail
 refine (iToCoreS x.fArgs (by have := TCore.lt_fArgs x; omega) (by have := Hz.out; rw [TCore.sz_eq] at this; omega) _ K (fun b hb => Nat.lt_of_lt_of_le (hK b hb) hV3.size) _ (Rep.ext hV3 hK hArgs)).mono ?_
 rintro e w4 ⟨a4, p4, b4, rfl, o4, n4, r4, hB4⟩
 have hb4 := hV3.trans (hB4.mono hV3.size)
 have hc4 := (bcell hB4).1
 have hf4 := (bcell hB4).2
 have hz4 : w.heap.size + 1 + 1 < w4.heap.size := Nat.lt_of_lt_of_le hs3 hB4.size
 have hy4 : w.heap.size < w4.heap.size := by omega
 have hx4 : w.heap.size + 1 < w4.heap.size := by omega
 have s4 : ∀ b ∈ b4, w3.heap.size ≤ b ∧ b < w4.heap.size := by intro b hb; have := r4 b hb; simp at this; omega
 have z4 : w3.heap.size ≤ w4.heap.size := by have := hB4.size; simp at this; omega
 have u1 := u1.below hB4
 have u2 := u2.below hB4
 have u3 := u3.below hB4
 have hV4 := hb4 |>.setCell (p := ⟨w.heap.size + 1 + 1, 9, none⟩) (by show w.heap.size ≤ w.heap.size + 1 + 1; omega) (.slice a4 x.fArgs.length p4)
 have hs4 : w.heap.size + 1 + 1 < _ := Nat.lt_of_lt_of_le hz4 ((Up.refl (w.heap.size + 1 + 1) w4) |>.setCell ⟨w.heap.size + 1 + 1, 9, none⟩ (Nat.le_refl _) (.slice a4 x.fArgs.length p4)).size
 have u1 := u1 |>.setCell ⟨w.heap.size + 1 + 1, 9, none⟩ (Nat.le_refl _) (.slice a4 x.fArgs.length p4)
 have u2 := u2 |>.setCell ⟨w.heap.size + 1 + 1, 9, none⟩ (Nat.le_refl _) (.slice a4 x.fArgs.length p4)
 have u3 := u3 |>.setCell ⟨w.heap.size + 1 + 1, 9, none⟩ (Nat.le_refl _) (.slice a4 x.fArgs.length p4)
 have u4 := (Up.refl (w.heap.size + 1 + 1) w4) |>.setCell ⟨w.heap.size + 1 + 1, 9, none⟩ (Nat.le_refl _) (.slice a4 x.fArgs.length p4)
 go_wp2_with fail
 refine (iToCoreArmS x.fArms (by have := TCore.lt_fArms x; omega) (by have := Hz.out; rw [TCore.sz_eq] at this; omega) _ K (fun b hb => Nat.lt_of_lt_of_le (hK b hb) hV4.size) _ (Rep.ext hV4 hK hArms)).mono ?_
 rintro e w5 ⟨a5, p5, b5, rfl, o5, n5, r5, hB5⟩
 have hb5 := hV4.trans (hB5.mono hV4.size)
 have hc5 := (bcell hB5).1
 have hf5 := (bcell hB5).2
 have hz5 : w.heap.size + 1 + 1 < w5.heap.size := Nat.lt_of_lt_of_le hs4 hB5.size
 have hy5 : w.heap.size < w5.heap.size := by omega
 have hx5 : w.heap.size + 1 < w5.heap.size := by omega
 have s5 : ∀ b ∈ b5, w4.heap.size ≤ b ∧ b < w5.heap.size := by intro b hb; have := r5 b hb; simp at this; omega
 have z5 : w4.heap.size ≤ w5.heap.size := by have := hB5.size; simp at this; omega
 have u1 := u1.below hB5
 have u2 := u2.below hB5
 have u3 := u3.below hB5
 have u4 := u4.below hB5
 go_wp2
 have hV := hb5 |>.setCell (p := ⟨w.heap.size + 1 + 1, 10, none⟩) (by show w.heap.size ≤ w.heap.size + 1 + 1; omega) (.slice a5 x.fArms.length p5) |>.setCell (p := ⟨w.heap.size + 1, 0, none⟩) (by show w.heap.size ≤ w.heap.size + 1; omega) (.int .i64 x.fKind) |>.setCell (p := ⟨w.heap.size + 1, 1, none⟩) (by show w.heap.size ≤ w.heap.size + 1; omega) (.string x.fTrait) |>.setCell (p := ⟨w.heap.size + 1, 2, none⟩) (by show w.heap.size ≤ w.heap.size + 1; omega) (.string x.fName) |>.setCell (p := ⟨w.heap.size + 1, 3, none⟩) (by show w.heap.size ≤ w.heap.size + 1; omega) (.int .i64 x.fN) |>.setCell (p := ⟨w.heap.size + 1, 4, none⟩) (by show w.heap.size ≤ w.heap.size + 1; omega) (d4) |>.setCell (p := ⟨w.heap.size + 1, 5, none⟩) (by show w.heap.size ≤ w.heap.size + 1; omega) (d5) |>.setCell (p := ⟨w.heap.size + 1, 6, none⟩) (by show w.heap.size ≤ w.heap.size + 1; omega) (d6) |>.setCell (p := ⟨w.heap.size + 1, 7, none⟩) (by show w.heap.size ≤ w.heap.size + 1; omega) (.slice a2 x.fTypeArgs.length p2) |>.setCell (p := ⟨w.heap.size + 1, 8, none⟩) (by show w.heap.size ≤ w.heap.size + 1; omega) (.slice a3 x.fEvidence.length p3) |>.setCell (p := ⟨w.heap.size + 1, 9, none⟩) (by show w.heap.size ≤ w.heap.size + 1; omega) (.slice a4 x.fArgs.length p4) |>.setCell (p := ⟨w.heap.size + 1, 10, none⟩) (by show w.heap.size ≤ w.heap.size + 1; omega) (.slice a5 x.fArms.length p5)
 have u1 := u1 |>.setCell ⟨w.heap.size + 1 + 1, 10, none⟩ (by show w.heap.size + 1 + 1 ≤ w.heap.size + 1 + 1; omega) (.slice a5 x.fArms.length p5) |>.setCell ⟨w.heap.size + 1, 0, none⟩ (by show w.heap.size + 1 ≤ w.heap.size + 1 + 1; omega) (.int .i64 x.fKind) |>.setCell ⟨w.heap.size + 1, 1, none⟩ (by show w.heap.size + 1 ≤ w.heap.size + 1 + 1; omega) (.string x.fTrait) |>.setCell ⟨w.heap.size + 1, 2, none⟩ (by show w.heap.size + 1 ≤ w.heap.size + 1 + 1; omega) (.string x.fName) |>.setCell ⟨w.heap.size + 1, 3, none⟩ (by show w.heap.size + 1 ≤ w.heap.size + 1 + 1; omega) (.int .i64 x.fN) |>.setCell ⟨w.heap.size + 1, 4, none⟩ (by show w.heap.size + 1 ≤ w.heap.size + 1 + 1; omega) (d4) |>.setCell ⟨w.heap.size + 1, 5, none⟩ (by show w.heap.size + 1 ≤ w.heap.size + 1 + 1; omega) (d5) |>.setCell ⟨w.heap.size + 1, 6, none⟩ (by show w.heap.size + 1 ≤ w.heap.size + 1 + 1; omega) (d6) |>.setCell ⟨w.heap.size + 1, 7, none⟩ (by show w.heap.size + 1 ≤ w.heap.size + 1 + 1; omega) (.slice a2 x.fTypeArgs.length p2) |>.setCell ⟨w.heap.size + 1, 8, none⟩ (by show w.heap.size + 1 ≤ w.heap.size + 1 + 1; omega) (.slice a3 x.fEvidence.length p3) |>.setCell ⟨w.heap.size + 1, 9, none⟩ (by show w.heap.size + 1 ≤ w.heap.size + 1 + 1; omega) (.slice a4 x.fArgs.length p4) |>.setCell ⟨w.heap.size + 1, 10, none⟩ (by show w.heap.size + 1 ≤ w.heap.size + 1 + 1; omega) (.slice a5 x.fArms.length p5)
 have u2 := u2 |>.setCell ⟨w.heap.size + 1 + 1, 10, none⟩ (by show w.heap.size + 1 + 1 ≤ w.heap.size + 1 + 1; omega) (.slice a5 x.fArms.length p5) |>.setCell ⟨w.heap.size + 1, 0, none⟩ (by show w.heap.size + 1 ≤ w.heap.size + 1 + 1; omega) (.int .i64 x.fKind) |>.setCell ⟨w.heap.size + 1, 1, none⟩ (by show w.heap.size + 1 ≤ w.heap.size + 1 + 1; omega) (.string x.fTrait) |>.setCell ⟨w.heap.size + 1, 2, none⟩ (by show w.heap.size + 1 ≤ w.heap.size + 1 + 1; omega) (.string x.fName) |>.setCell ⟨w.heap.size + 1, 3, none⟩ (by show w.heap.size + 1 ≤ w.heap.size + 1 + 1; omega) (.int .i64 x.fN) |>.setCell ⟨w.heap.size + 1, 4, none⟩ (by show w.heap.size + 1 ≤ w.heap.size + 1 + 1; omega) (d4) |>.setCell ⟨w.heap.size + 1, 5, none⟩ (by show w.heap.size + 1 ≤ w.heap.size + 1 + 1; omega) (d5) |>.setCell ⟨w.heap.size + 1, 6, none⟩ (by show w.heap.size + 1 ≤ w.heap.size + 1 + 1; omega) (d6) |>.setCell ⟨w.heap.size + 1, 7, none⟩ (by show w.heap.size + 1 ≤ w.heap.size + 1 + 1; omega) (.slice a2 x.fTypeArgs.length p2) |>.setCell ⟨w.heap.size + 1, 8, none⟩ (by show w.heap.size + 1 ≤ w.heap.size + 1 + 1; omega) (.slice a3 x.fEvidence.length p3) |>.setCell ⟨w.heap.size + 1, 9, none⟩ (by show w.heap.size + 1 ≤ w.heap.size + 1 + 1; omega) (.slice a4 x.fArgs.length p4) |>.setCell ⟨w.heap.size + 1, 10, none⟩ (by show w.heap.size + 1 ≤ w.heap.size + 1 + 1; omega) (.slice a5 x.fArms.length p5)
 have u3 := u3 |>.setCell ⟨w.heap.size + 1 + 1, 10, none⟩ (by show w.heap.size + 1 + 1 ≤ w.heap.size + 1 + 1; omega) (.slice a5 x.fArms.length p5) |>.setCell ⟨w.heap.size + 1, 0, none⟩ (by show w.heap.size + 1 ≤ w.heap.size + 1 + 1; omega) (.int .i64 x.fKind) |>.setCell ⟨w.heap.size + 1, 1, none⟩ (by show w.heap.size + 1 ≤ w.heap.size + 1 + 1; omega) (.string x.fTrait) |>.setCell ⟨w.heap.size + 1, 2, none⟩ (by show w.heap.size + 1 ≤ w.heap.size + 1 + 1; omega) (.string x.fName) |>.setCell ⟨w.heap.size + 1, 3, none⟩ (by show w.heap.size + 1 ≤ w.heap.size + 1 + 1; omega) (.int .i64 x.fN) |>.setCell ⟨w.heap.size + 1, 4, none⟩ (by show w.heap.size + 1 ≤ w.heap.size + 1 + 1; omega) (d4) |>.setCell ⟨w.heap.size + 1, 5, none⟩ (by show w.heap.size + 1 ≤ w.heap.size + 1 + 1; omega) (d5) |>.setCell ⟨w.heap.size + 1, 6, none⟩ (by show w.heap.size + 1 ≤ w.heap.size + 1 + 1; omega) (d6) |>.setCell ⟨w.heap.size + 1, 7, none⟩ (by show w.heap.size + 1 ≤ w.heap.size + 1 + 1; omega) (.slice a2 x.fTypeArgs.length p2) |>.setCell ⟨w.heap.size + 1, 8, none⟩ (by show w.heap.size + 1 ≤ w.heap.size + 1 + 1; omega) (.slice a3 x.fEvidence.length p3) |>.setCell ⟨w.heap.size + 1, 9, none⟩ (by show w.heap.size + 1 ≤ w.heap.size + 1 + 1; omega) (.slice a4 x.fArgs.length p4) |>.setCell ⟨w.heap.size + 1, 10, none⟩ (by show w.heap.size + 1 ≤ w.heap.size + 1 + 1; omega) (.slice a5 x.fArms.length p5)
 have u4 := u4 |>.setCell ⟨w.heap.size + 1 + 1, 10, none⟩ (by show w.heap.size + 1 + 1 ≤ w.heap.size + 1 + 1; omega) (.slice a5 x.fArms.length p5) |>.setCell ⟨w.heap.size + 1, 0, none⟩ (by show w.heap.size + 1 ≤ w.heap.size + 1 + 1; omega) (.int .i64 x.fKind) |>.setCell ⟨w.heap.size + 1, 1, none⟩ (by show w.heap.size + 1 ≤ w.heap.size + 1 + 1; omega) (.string x.fTrait) |>.setCell ⟨w.heap.size + 1, 2, none⟩ (by show w.heap.size + 1 ≤ w.heap.size + 1 + 1; omega) (.string x.fName) |>.setCell ⟨w.heap.size + 1, 3, none⟩ (by show w.heap.size + 1 ≤ w.heap.size + 1 + 1; omega) (.int .i64 x.fN) |>.setCell ⟨w.heap.size + 1, 4, none⟩ (by show w.heap.size + 1 ≤ w.heap.size + 1 + 1; omega) (d4) |>.setCell ⟨w.heap.size + 1, 5, none⟩ (by show w.heap.size + 1 ≤ w.heap.size + 1 + 1; omega) (d5) |>.setCell ⟨w.heap.size + 1, 6, none⟩ (by show w.heap.size + 1 ≤ w.heap.size + 1 + 1; omega) (d6) |>.setCell ⟨w.heap.size + 1, 7, none⟩ (by show w.heap.size + 1 ≤ w.heap.size + 1 + 1; omega) (.slice a2 x.fTypeArgs.length p2) |>.setCell ⟨w.heap.size + 1, 8, none⟩ (by show w.heap.size + 1 ≤ w.heap.size + 1 + 1; omega) (.slice a3 x.fEvidence.length p3) |>.setCell ⟨w.heap.size + 1, 9, none⟩ (by show w.heap.size + 1 ≤ w.heap.size + 1 + 1; omega) (.slice a4 x.fArgs.length p4) |>.setCell ⟨w.heap.size + 1, 10, none⟩ (by show w.heap.size + 1 ≤ w.heap.size + 1 + 1; omega) (.slice a5 x.fArms.length p5)
 have u5 := (Up.refl (w.heap.size + 1 + 1) w5) |>.setCell ⟨w.heap.size + 1 + 1, 10, none⟩ (by show w.heap.size + 1 + 1 ≤ w.heap.size + 1 + 1; omega) (.slice a5 x.fArms.length p5) |>.setCell ⟨w.heap.size + 1, 0, none⟩ (by show w.heap.size + 1 ≤ w.heap.size + 1 + 1; omega) (.int .i64 x.fKind) |>.setCell ⟨w.heap.size + 1, 1, none⟩ (by show w.heap.size + 1 ≤ w.heap.size + 1 + 1; omega) (.string x.fTrait) |>.setCell ⟨w.heap.size + 1, 2, none⟩ (by show w.heap.size + 1 ≤ w.heap.size + 1 + 1; omega) (.string x.fName) |>.setCell ⟨w.heap.size + 1, 3, none⟩ (by show w.heap.size + 1 ≤ w.heap.size + 1 + 1; omega) (.int .i64 x.fN) |>.setCell ⟨w.heap.size + 1, 4, none⟩ (by show w.heap.size + 1 ≤ w.heap.size + 1 + 1; omega) (d4) |>.setCell ⟨w.heap.size + 1, 5, none⟩ (by show w.heap.size + 1 ≤ w.heap.size + 1 + 1; omega) (d5) |>.setCell ⟨w.heap.size + 1, 6, none⟩ (by show w.heap.size + 1 ≤ w.heap.size + 1 + 1; omega) (d6) |>.setCell ⟨w.heap.size + 1, 7, none⟩ (by show w.heap.size + 1 ≤ w.heap.size + 1 + 1; omega) (.slice a2 x.fTypeArgs.length p2) |>.setCell ⟨w.heap.size + 1, 8, none⟩ (by show w.heap.size + 1 ≤ w.heap.size + 1 + 1; omega) (.slice a3 x.fEvidence.length p3) |>.setCell ⟨w.heap.size + 1, 9, none⟩ (by show w.heap.size + 1 ≤ w.heap.size + 1 + 1; omega) (.slice a4 x.fArgs.length p4) |>.setCell ⟨w.heap.size + 1, 10, none⟩ (by show w.heap.size + 1 ≤ w.heap.size + 1 + 1; omega) (.slice a5 x.fArms.length p5)
 have j5 := join2 n5 s5 List.nodup_nil (b2 := []) (mid := w5.heap.size) (hi := w5.heap.size) (by simp) z5 (Nat.le_refl _)
 have j4 := join2 n4 s4 j5.1 j5.2 z4 (by omega)
 have j3 := join2 n3 s3 j4.1 j4.2 z3 (by omega)
 have j2 := join2 n2 s2 j3.1 j3.2 z2 (by omega)
 have j1 := join2 n1 s1 j2.1 j2.2 z1 (by omega)
 refine bodyPost_ret (v := .agg #[.int .i64 x.fKind, .string x.fTrait, .string x.fName, .int .i64 x.fN, d4, d5, d6, .slice a2 x.fTypeArgs.length p2, .slice a3 x.fEvidence.length p3, .slice a4 x.fArgs.length p4, .slice a5 x.fArms.length p5]) (by simp [results, Tryz.results159, go_sem, *]) rfl ⟨[.int .i64 x.fKind, .string x.fTrait, .string x.fName, .int .i64 x.fN, d4, d5, d6, .slice a2 x.fTypeArgs.length p2, .slice a3 x.fEvidence.length p3, .slice a4 x.fArgs.length p4, .slice a5 x.fArms.length p5], _, rfl, TCore.mk_own HKind.out HTrait.out HName.out HN.out (u1.own o1 s1 (by omega)) (u2.own o2 s2 (by omega)) (u3.own o3 s3 (by omega)) (u4.own o4 s4 (by omega)) (u5.own o5 s5 (by omega)), j1.1, ?_, hV⟩
 intro b hb
 have := j1.2 b hb
 simp
 omega
set_option maxRecDepth 100000 in
set_option maxHeartbeats 1000000 in
theorem stepToCoreS (N : Nat) (_iToCoreArm : ToCoreArm N) (_iToCoreArmS : ToCoreArmS N) (iToCore : ToCore N) (_iToCoreS : ToCoreS N) : ToCoreS (N + 1) := by
 intro l hN hz w K hK v h
 have hlen : l.length ≤ 1048576 := by unfold szs at hz; omega
 obtain ⟨a, cap, rfl, hc, hm, -, hE⟩ := open_sl TCore.width h
 unfold maxLen at hm
 clear h
 obtain ⟨i0, h2, hz0, hz1, hz2⟩ := info_parts zinfo136
 go_enter Tryz.func208, Tryz.ntmps208
 go_wp2_with (at_make; refine wpList_make_full _ rfl _ _ 133 rfl w.heap.size 136 i0 _ 11 Tryz.underlying133 h2 hz0 hz1 _ _ _ _ l.length rfl rfl rfl rfl (by rw [hz2]; omega) (by unfold maxLen; omega) (Nat.le_refl _) ?_)
 intro wm hown hgr
 have hB0 : Below w.heap.size w wm := (Below.refl _ _).grown hgr (Nat.le_refl _) (by simp)
 have hR : l.length = 0 ∨ RowOf wm w.heap.size 136 (l.length * 11) := (rowOf_made hown).symm
 clear hown hgr
 go_wp2
 go_loopw [4] (fun i wr => ∃ (k : Nat) (r : List Nat), k ≤ l.length ∧ i = .int .i64 k ∧ (l.length = 0 ∨ RowOf wr w.heap.size 136 (l.length * 11)) ∧ OwnE wr ((l.take k).map TCore.enc) w.heap.size 0 r ∧ r.Nodup ∧ (∀ b ∈ r, w.heap.size + 1 ≤ b ∧ b < wr.heap.size) ∧ Below w.heap.size w wr) (fun i _ => l.length - (intOf i).toNat)
 case atStart => exact ⟨0, [], Nat.zero_le _, rfl, hR, by simp only [List.take_zero, List.map_nil, OwnE], List.nodup_nil, by simp, hB0⟩
 case round =>
  clear hR hB0
  obtain ⟨k, r, hk, rfl, hR, h1, n1, r1, hB⟩ := hrel
  by_cases hlt : k < l.length
  ·obtain ⟨b, off, rfl, hKb, cs, hcs, hr⟩ := hE k hlt
   have hr' := Rep.ext hB hK hr
   have hcs' := hcs.ext hB (hK b hKb)
   have hK' : ∀ b, K b → b < wr.heap.size := fun b h => Nat.lt_of_lt_of_le (hK b h) hB.size
   have hR' : RowOf wr w.heap.size 136 (l.length * 11) := by rcases hR with h | h <;> first | omega | exact h
   have hroom : k * 11 + 11 ≤ l.length * 11 := by have := Nat.mul_le_mul_right 11 (show k + 1 ≤ l.length from hlt); rw [Nat.add_mul] at this; omega
   clear hE hcs hr hR
   have hi : (Tryz.prog.info? 155).map (·.size) = some cs.length := by rw [Rep.length _ _ hr', TCore.width]; exact infoT155
   have hmem : l[k] ∈ l := List.getElem_mem hlt
   go_wp2_with (with_reducible refine ld rfl 155 _ rfl b _ rfl cs hcs' _ Tryz.underlying155 hi ?_)
   refine (iToCore l[k] (by have := List.sizeOf_lt_of_mem hmem; omega) (by have := szL_le TCore.sz hmem; unfold szs at hz; omega) _ K hK' _ hr').mono ?_
   rintro e w1 ⟨cs', bs, rfl, o1, n2, r2, hB1⟩
   have hg : w.heap.size < wr.heap.size := hR'.lt
   obtain ⟨cur, hcur, hsz⟩ := hR'.below hB1 hg
   have Hcur := Lib.hid hcur
   have Hsz := Lib.hid hsz
   clear hcur hsz
   have hl' := (Rep.length (K := fun _ => True) _ _ (Own.rep _ _ _ o1 (fun _ _ => trivial))).trans (TCore.width _)
   have hone := Rep.one (K := fun _ => True) _ _ (Own.rep _ _ _ o1 (fun _ _ => trivial))
   have hi' : (Tryz.prog.info? 136).map (·.size) = some cs'.length := by rw [hl']; exact infoT136
   have Hl' := Lib.hid hl'
   clear hl'
   go_wp2_with (with_reducible refine stA rfl 136 _ _ rfl w.heap.size (k * 11) rfl cs' rfl hi' hone cur 136 Hcur.out (by rw [Hl'.out, Hsz.out]; omega) ?_)
   intro w2 hst
   have R2 : RowOf w2 w.heap.size 136 (l.length * 11) := RowOf.stored ⟨cur, Hcur.out, Hsz.out⟩ hst
   have hrow := row_step TCore.width hlt h1 n1 r1 hg hB1 o1 n2 r2 hst
   have hB2 := hst.below (hB.trans (hB1.mono hB.size)) (Nat.le_refl _)
   obtain ⟨h1', n1', r1'⟩ := hrow
   have A1 := Lib.hid h1'; have A2 := Lib.hid n1'; have A3 := Lib.hid r1'; have A4 := Lib.hid hB2; have A5 := Lib.hid R2
   clear h1' n1' r1' hB2 R2 h1 n1 r1 hB
   go_wp2
   go_roundw
   case rel => exact ⟨k + 1, _, hlt, by go_num, .inr A5.out, A1.out, A2.out, A3.out, A4.out⟩
   case measure => simp [intOf]; omega
  ·obtain rfl : k = l.length := by omega
   rw [List.take_length] at h1
   go_wp2
   go_ret
   rcases hR with h | h
   ·exact ⟨_, _, [], rfl, own_nil (List.length_eq_zero_iff.1 h) (by unfold maxLen; omega) (by simp), List.nodup_nil, by simp, hB⟩
   ·obtain ⟨bs, o1, n2, r2⟩ := row_done (by unfold maxLen; omega) h h1 n1 r1
    exact ⟨_, _, bs, rfl, o1, n2, r2, hB⟩
theorem toCoreArmCore_all : ∀ N : Nat, ToCoreArm N ∧ ToCoreArmS N ∧ ToCore N ∧ ToCoreS N
 | 0 => ⟨fun _ h => absurd h (Nat.not_lt_zero _), fun _ h => absurd h (Nat.not_lt_zero _), fun _ h => absurd h (Nat.not_lt_zero _), fun _ h => absurd h (Nat.not_lt_zero _)⟩
 | N + 1 => by
  obtain ⟨i0, i1, i2, i3⟩ := toCoreArmCore_all N
  exact ⟨stepToCoreArm N i0 i1 i2 i3, stepToCoreArmS N i0 i1 i2 i3, stepToCore N i0 i1 i2 i3, stepToCoreS N i0 i1 i2 i3⟩
theorem toCoreArm_c (x : TCoreArm) : ∀ (_ : x.sz ≤ 1048576) (w : World) (K : Nat → Prop) (_ : ∀ b, K b → b < w.heap.size) (cs : List Value) (_ : Rep w K x.enc cs),
  Calls Tryz.prog 242 #[.agg cs.toArray] w fun e w' => ∃ cs' bs, e = .returned (.agg cs'.toArray) ∧ Own w' x.enc cs' bs ∧ bs.Nodup ∧ (∀ b ∈ bs, w.heap.size ≤ b ∧ b < w'.heap.size) ∧ Below w.heap.size w w' := (toCoreArmCore_all (SizeOf.sizeOf x + 1)).1 x (Nat.lt_succ_self _)
theorem toCoreArmS_c (l : List TCoreArm) : ∀ (_ : szs TCoreArm.sz l ≤ 1048576) (w : World) (K : Nat → Prop) (_ : ∀ b, K b → b < w.heap.size) (v : Value) (_ : Rep w K (.sl (l.map TCoreArm.enc)) [v]),
  Calls Tryz.prog 209 #[v] w fun e w' => ∃ a cap bs, e = .returned (.slice a l.length cap) ∧ Own w' (.sl (l.map TCoreArm.enc)) [.slice a l.length cap] bs ∧ bs.Nodup ∧ (∀ b ∈ bs, w.heap.size ≤ b ∧ b < w'.heap.size) ∧ Below w.heap.size w w' := (toCoreArmCore_all (SizeOf.sizeOf l + 1)).2.1 l (Nat.lt_succ_self _)
theorem toCore_c (x : TCore) : ∀ (_ : x.sz ≤ 1048576) (w : World) (K : Nat → Prop) (_ : ∀ b, K b → b < w.heap.size) (cs : List Value) (_ : Rep w K x.enc cs),
  Calls Tryz.prog 159 #[.agg cs.toArray] w fun e w' => ∃ cs' bs, e = .returned (.agg cs'.toArray) ∧ Own w' x.enc cs' bs ∧ bs.Nodup ∧ (∀ b ∈ bs, w.heap.size ≤ b ∧ b < w'.heap.size) ∧ Below w.heap.size w w' := (toCoreArmCore_all (SizeOf.sizeOf x + 1)).2.2.1 x (Nat.lt_succ_self _)
theorem toCoreS_c (l : List TCore) : ∀ (_ : szs TCore.sz l ≤ 1048576) (w : World) (K : Nat → Prop) (_ : ∀ b, K b → b < w.heap.size) (v : Value) (_ : Rep w K (.sl (l.map TCore.enc)) [v]),
  Calls Tryz.prog 208 #[v] w fun e w' => ∃ a cap bs, e = .returned (.slice a l.length cap) ∧ Own w' (.sl (l.map TCore.enc)) [.slice a l.length cap] bs ∧ bs.Nodup ∧ (∀ b ∈ bs, w.heap.size ≤ b ∧ b < w'.heap.size) ∧ Below w.heap.size w w' := (toCoreArmCore_all (SizeOf.sizeOf l + 1)).2.2.2 l (Nat.lt_succ_self _)
theorem infoT91 : (Tryz.prog.info? 91).map (·.size) = some 5 := by kernel_rfl
theorem zinfo91 : (Tryz.prog.info? 91).map (fun i => (i.zero, i.size, i.bytes)) = some (some (.agg #[.string ⟨#[]⟩, .int .i64 0, .string ⟨#[]⟩, .slice none 0 0, .slice none 0 0]), 5, 88) := by kernel_rfl
theorem infoT161 : (Tryz.prog.info? 161).map (·.size) = some 5 := by kernel_rfl
set_option maxRecDepth 100000 in
set_option maxHeartbeats 1000000 in
theorem toMethodTable_c (x : TMethodTable) : ∀ (_ : x.sz ≤ 1048576) (w : World) (K : Nat → Prop) (_ : ∀ b, K b → b < w.heap.size) (cs : List Value) (_ : Rep w K x.enc cs),
  Calls Tryz.prog 97 #[.agg cs.toArray] w fun e w' => ∃ cs' bs, e = .returned (.agg cs'.toArray) ∧ Own w' x.enc cs' bs ∧ bs.Nodup ∧ (∀ b ∈ bs, w.heap.size ≤ b ∧ b < w'.heap.size) ∧ Below w.heap.size w w' := by
 intro hz w K hK cs h
 obtain ⟨c1, c2, c3, c4, rfl, hTrait, hType, hEntries⟩ := TMethodTable.opn h
 clear h
 have HTrait := Lib.hid hTrait; clear hTrait
 have Hz := Lib.hid hz; clear hz
 have hV0 : Below w.heap.size w (((w.alloc (.cells #[.string x.fTrait, c1, c2, c3, c4] 161)).alloc (.cells #[.string ⟨#[]⟩, .int .i64 0, .string ⟨#[]⟩, .slice none 0 0, .slice none 0 0] 91)).alloc (.cells #[.string x.fTrait, .int .i64 0, .string ⟨#[]⟩, .slice none 0 0, .slice none 0 0] 91)) := (((Below.refl _ _).alloc (Nat.le_refl _) _).alloc (by simp) _).alloc (by simp <;> omega) _
 have hs0 : w.heap.size + 1 + 1 < (((w.alloc (.cells #[.string x.fTrait, c1, c2, c3, c4] 161)).alloc (.cells #[.string ⟨#[]⟩, .int .i64 0, .string ⟨#[]⟩, .slice none 0 0, .slice none 0 0] 91)).alloc (.cells #[.string x.fTrait, .int .i64 0, .string ⟨#[]⟩, .slice none 0 0, .slice none 0 0] 91)).heap.size := by simp
 go_enter Tryz.func97, Tryz.ntmps97
 go_wp2_with fail
 refine (toType_c x.fType (by have := Hz.out; rw [TMethodTable.sz_eq] at this; omega) _ K (fun b hb => Nat.lt_of_lt_of_le (hK b hb) hV0.size) _ (Rep.ext hV0 hK hType)).mono ?_
 rintro e w1 ⟨cs1, b1, rfl, o1, n1, r1, hB1⟩
 obtain ⟨d1, d2, d3, rfl⟩ := len3 ((Rep.length (K := fun _ => True) _ _ (Own.rep _ _ _ o1 (fun _ _ => trivial))).trans (TType.width _))
 have one1 := Rep.one (K := fun _ => True) _ _ (Own.rep _ _ _ o1 (fun _ _ => trivial))
 have qd1 := st_one (one1 d1 (by simp))
 have qd2 := st_one (one1 d2 (by simp))
 have qd3 := st_one (one1 d3 (by simp))
 have hb1 := hV0.trans (hB1.mono hV0.size)
 have hc1 := (bcell hB1).1
 have hf1 := (bcell hB1).2
 have hz1 : w.heap.size + 1 + 1 < w1.heap.size := Nat.lt_of_lt_of_le hs0 hB1.size
 have hy1 : w.heap.size < w1.heap.size := by omega
 have hx1 : w.heap.size + 1 < w1.heap.size := by omega
 have s1 : ∀ b ∈ b1, w.heap.size + 1 + 1 + 1 ≤ b ∧ b < w1.heap.size := by intro b hb; have := r1 b hb; simp at this; omega
 have z1 : w.heap.size + 1 + 1 + 1 ≤ w1.heap.size := by have := hB1.size; simp at this; omega
 have hV1 := hb1 |>.setCell (p := ⟨w.heap.size + 1 + 1, 1, none⟩) (by show w.heap.size ≤ w.heap.size + 1 + 1; omega) (d1) |>.setCell (p := ⟨w.heap.size + 1 + 1, 2, none⟩) (by show w.heap.size ≤ w.heap.size + 1 + 1; omega) (d2) |>.setCell (p := ⟨w.heap.size + 1 + 1, 3, none⟩) (by show w.heap.size ≤ w.heap.size + 1 + 1; omega) (d3)
 have hs1 : w.heap.size + 1 + 1 < _ := Nat.lt_of_lt_of_le hz1 ((Up.refl (w.heap.size + 1 + 1) w1) |>.setCell ⟨w.heap.size + 1 + 1, 1, none⟩ (Nat.le_refl _) (d1) |>.setCell ⟨w.heap.size + 1 + 1, 2, none⟩ (Nat.le_refl _) (d2) |>.setCell ⟨w.heap.size + 1 + 1, 3, none⟩ (Nat.le_refl _) (d3)).size
 have u1 := (Up.refl (w.heap.size + 1 + 1) w1) |>.setCell ⟨w.heap.size + 1 + 1, 1, none⟩ (Nat.le_refl _) (d1) |>.setCell ⟨w.heap.size + 1 + 1, 2, none⟩ (Nat.le_refl _) (d2) |>.setCell ⟨w.heap.size + 1 + 1, 3, none⟩ (Nat.le_refl _) (d3)
 go_wp2_with fail
 refine (toMethodEntryS_c x.fEntries (by have := Hz.out; rw [TMethodTable.sz_eq] at this; omega) _ K (fun b hb => Nat.lt_of_lt_of_le (hK b hb) hV1.size) _ (Rep.ext hV1 hK hEntries)).mono ?_
 rintro e w2 ⟨a2, p2, b2, rfl, o2, n2, r2, hB2⟩
 have hb2 := hV1.trans (hB2.mono hV1.size)
 have hc2 := (bcell hB2).1
 have hf2 := (bcell hB2).2
 have hz2 : w.heap.size + 1 + 1 < w2.heap.size := Nat.lt_of_lt_of_le hs1 hB2.size
 have hy2 : w.heap.size < w2.heap.size := by omega
 have hx2 : w.heap.size + 1 < w2.heap.size := by omega
 have s2 : ∀ b ∈ b2, w1.heap.size ≤ b ∧ b < w2.heap.size := by intro b hb; have := r2 b hb; simp at this; omega
 have z2 : w1.heap.size ≤ w2.heap.size := by have := hB2.size; simp at this; omega
 have u1 := u1.below hB2
 go_wp2
 have hV := hb2 |>.setCell (p := ⟨w.heap.size + 1 + 1, 4, none⟩) (by show w.heap.size ≤ w.heap.size + 1 + 1; omega) (.slice a2 x.fEntries.length p2) |>.setCell (p := ⟨w.heap.size + 1, 0, none⟩) (by show w.heap.size ≤ w.heap.size + 1; omega) (.string x.fTrait) |>.setCell (p := ⟨w.heap.size + 1, 1, none⟩) (by show w.heap.size ≤ w.heap.size + 1; omega) (d1) |>.setCell (p := ⟨w.heap.size + 1, 2, none⟩) (by show w.heap.size ≤ w.heap.size + 1; omega) (d2) |>.setCell (p := ⟨w.heap.size + 1, 3, none⟩) (by show w.heap.size ≤ w.heap.size + 1; omega) (d3) |>.setCell (p := ⟨w.heap.size + 1, 4, none⟩) (by show w.heap.size ≤ w.heap.size + 1; omega) (.slice a2 x.fEntries.length p2)
 have u1 := u1 |>.setCell ⟨w.heap.size + 1 + 1, 4, none⟩ (by show w.heap.size + 1 + 1 ≤ w.heap.size + 1 + 1; omega) (.slice a2 x.fEntries.length p2) |>.setCell ⟨w.heap.size + 1, 0, none⟩ (by show w.heap.size + 1 ≤ w.heap.size + 1 + 1; omega) (.string x.fTrait) |>.setCell ⟨w.heap.size + 1, 1, none⟩ (by show w.heap.size + 1 ≤ w.heap.size + 1 + 1; omega) (d1) |>.setCell ⟨w.heap.size + 1, 2, none⟩ (by show w.heap.size + 1 ≤ w.heap.size + 1 + 1; omega) (d2) |>.setCell ⟨w.heap.size + 1, 3, none⟩ (by show w.heap.size + 1 ≤ w.heap.size + 1 + 1; omega) (d3) |>.setCell ⟨w.heap.size + 1, 4, none⟩ (by show w.heap.size + 1 ≤ w.heap.size + 1 + 1; omega) (.slice a2 x.fEntries.length p2)
 have u2 := (Up.refl (w.heap.size + 1 + 1) w2) |>.setCell ⟨w.heap.size + 1 + 1, 4, none⟩ (by show w.heap.size + 1 + 1 ≤ w.heap.size + 1 + 1; omega) (.slice a2 x.fEntries.length p2) |>.setCell ⟨w.heap.size + 1, 0, none⟩ (by show w.heap.size + 1 ≤ w.heap.size + 1 + 1; omega) (.string x.fTrait) |>.setCell ⟨w.heap.size + 1, 1, none⟩ (by show w.heap.size + 1 ≤ w.heap.size + 1 + 1; omega) (d1) |>.setCell ⟨w.heap.size + 1, 2, none⟩ (by show w.heap.size + 1 ≤ w.heap.size + 1 + 1; omega) (d2) |>.setCell ⟨w.heap.size + 1, 3, none⟩ (by show w.heap.size + 1 ≤ w.heap.size + 1 + 1; omega) (d3) |>.setCell ⟨w.heap.size + 1, 4, none⟩ (by show w.heap.size + 1 ≤ w.heap.size + 1 + 1; omega) (.slice a2 x.fEntries.length p2)
 have j2 := join2 n2 s2 List.nodup_nil (b2 := []) (mid := w2.heap.size) (hi := w2.heap.size) (by simp) z2 (Nat.le_refl _)
 have j1 := join2 n1 s1 j2.1 j2.2 z1 (by omega)
 refine bodyPost_ret (v := .agg #[.string x.fTrait, d1, d2, d3, .slice a2 x.fEntries.length p2]) (by simp [results, Tryz.results97, go_sem, *]) rfl ⟨[.string x.fTrait, d1, d2, d3, .slice a2 x.fEntries.length p2], _, rfl, TMethodTable.mk_own HTrait.out (u1.own o1 s1 (by omega)) (u2.own o2 s2 (by omega)), j1.1, ?_, hV⟩
 intro b hb
 have := j1.2 b hb
 simp
 omega
set_option maxRecDepth 100000 in
set_option maxHeartbeats 1000000 in
theorem toMethodTableS_c (l : List TMethodTable) : ∀ (_ : szs TMethodTable.sz l ≤ 1048576) (w : World) (K : Nat → Prop) (_ : ∀ b, K b → b < w.heap.size) (v : Value) (_ : Rep w K (.sl (l.map TMethodTable.enc)) [v]),
  Calls Tryz.prog 38 #[v] w fun e w' => ∃ a cap bs, e = .returned (.slice a l.length cap) ∧ Own w' (.sl (l.map TMethodTable.enc)) [.slice a l.length cap] bs ∧ bs.Nodup ∧ (∀ b ∈ bs, w.heap.size ≤ b ∧ b < w'.heap.size) ∧ Below w.heap.size w w' := by
 intro hz w K hK v h
 have hlen : l.length ≤ 1048576 := by unfold szs at hz; omega
 obtain ⟨a, cap, rfl, hc, hm, -, hE⟩ := open_sl TMethodTable.width h
 unfold maxLen at hm
 clear h
 obtain ⟨i0, h2, hz0, hz1, hz2⟩ := info_parts zinfo91
 go_enter Tryz.func38, Tryz.ntmps38
 go_wp2_with (at_make; refine wpList_make_full _ rfl _ _ 28 rfl w.heap.size 91 i0 _ 5 Tryz.underlying28 h2 hz0 hz1 _ _ _ _ l.length rfl rfl rfl rfl (by rw [hz2]; omega) (by unfold maxLen; omega) (Nat.le_refl _) ?_)
 intro wm hown hgr
 have hB0 : Below w.heap.size w wm := (Below.refl _ _).grown hgr (Nat.le_refl _) (by simp)
 have hR : l.length = 0 ∨ RowOf wm w.heap.size 91 (l.length * 5) := (rowOf_made hown).symm
 clear hown hgr
 go_wp2
 go_loopw [4] (fun i wr => ∃ (k : Nat) (r : List Nat), k ≤ l.length ∧ i = .int .i64 k ∧ (l.length = 0 ∨ RowOf wr w.heap.size 91 (l.length * 5)) ∧ OwnE wr ((l.take k).map TMethodTable.enc) w.heap.size 0 r ∧ r.Nodup ∧ (∀ b ∈ r, w.heap.size + 1 ≤ b ∧ b < wr.heap.size) ∧ Below w.heap.size w wr) (fun i _ => l.length - (intOf i).toNat)
 case atStart => exact ⟨0, [], Nat.zero_le _, rfl, hR, by simp only [List.take_zero, List.map_nil, OwnE], List.nodup_nil, by simp, hB0⟩
 case round =>
  clear hR hB0
  obtain ⟨k, r, hk, rfl, hR, h1, n1, r1, hB⟩ := hrel
  by_cases hlt : k < l.length
  ·obtain ⟨b, off, rfl, hKb, cs, hcs, hr⟩ := hE k hlt
   have hr' := Rep.ext hB hK hr
   have hcs' := hcs.ext hB (hK b hKb)
   have hK' : ∀ b, K b → b < wr.heap.size := fun b h => Nat.lt_of_lt_of_le (hK b h) hB.size
   have hR' : RowOf wr w.heap.size 91 (l.length * 5) := by rcases hR with h | h <;> first | omega | exact h
   have hroom : k * 5 + 5 ≤ l.length * 5 := by have := Nat.mul_le_mul_right 5 (show k + 1 ≤ l.length from hlt); rw [Nat.add_mul] at this; omega
   clear hE hcs hr hR
   have hi : (Tryz.prog.info? 161).map (·.size) = some cs.length := by rw [Rep.length _ _ hr', TMethodTable.width]; exact infoT161
   have hmem : l[k] ∈ l := List.getElem_mem hlt
   go_wp2_with (with_reducible refine ld rfl 161 _ rfl b _ rfl cs hcs' _ Tryz.underlying161 hi ?_)
   refine (toMethodTable_c l[k] (by have := szL_le TMethodTable.sz hmem; unfold szs at hz; omega) _ K hK' _ hr').mono ?_
   rintro e w1 ⟨cs', bs, rfl, o1, n2, r2, hB1⟩
   have hg : w.heap.size < wr.heap.size := hR'.lt
   obtain ⟨cur, hcur, hsz⟩ := hR'.below hB1 hg
   have Hcur := Lib.hid hcur
   have Hsz := Lib.hid hsz
   clear hcur hsz
   have hl' := (Rep.length (K := fun _ => True) _ _ (Own.rep _ _ _ o1 (fun _ _ => trivial))).trans (TMethodTable.width _)
   have hone := Rep.one (K := fun _ => True) _ _ (Own.rep _ _ _ o1 (fun _ _ => trivial))
   have hi' : (Tryz.prog.info? 91).map (·.size) = some cs'.length := by rw [hl']; exact infoT91
   have Hl' := Lib.hid hl'
   clear hl'
   go_wp2_with (with_reducible refine stA rfl 91 _ _ rfl w.heap.size (k * 5) rfl cs' rfl hi' hone cur 91 Hcur.out (by rw [Hl'.out, Hsz.out]; omega) ?_)
   intro w2 hst
   have R2 : RowOf w2 w.heap.size 91 (l.length * 5) := RowOf.stored ⟨cur, Hcur.out, Hsz.out⟩ hst
   have hrow := row_step TMethodTable.width hlt h1 n1 r1 hg hB1 o1 n2 r2 hst
   have hB2 := hst.below (hB.trans (hB1.mono hB.size)) (Nat.le_refl _)
   obtain ⟨h1', n1', r1'⟩ := hrow
   have A1 := Lib.hid h1'; have A2 := Lib.hid n1'; have A3 := Lib.hid r1'; have A4 := Lib.hid hB2; have A5 := Lib.hid R2
   clear h1' n1' r1' hB2 R2 h1 n1 r1 hB
   go_wp2
   go_roundw
   case rel => exact ⟨k + 1, _, hlt, by go_num, .inr A5.out, A1.out, A2.out, A3.out, A4.out⟩
   case measure => simp [intOf]; omega
  ·obtain rfl : k = l.length := by omega
   rw [List.take_length] at h1
   go_wp2
   go_ret
   rcases hR with h | h
   ·exact ⟨_, _, [], rfl, own_nil (List.length_eq_zero_iff.1 h) (by unfold maxLen; omega) (by simp), List.nodup_nil, by simp, hB⟩
   ·obtain ⟨bs, o1, n2, r2⟩ := row_done (by unfold maxLen; omega) h h1 n1 r1
    exact ⟨_, _, bs, rfl, o1, n2, r2, hB⟩
theorem infoT163 : (Tryz.prog.info? 163).map (·.size) = some 14 := by kernel_rfl
theorem zinfo163 : (Tryz.prog.info? 163).map (fun i => (i.zero, i.size, i.bytes)) = some (some (.agg #[.int .i64 0, .slice none 0 0, .slice none 0 0, .int .i64 0, .string ⟨#[]⟩, .string ⟨#[]⟩, .int .i64 0, .int .i64 0, .string ⟨#[]⟩, .slice none 0 0, .slice none 0 0, .slice none 0 0, .slice none 0 0, .slice none 0 0]), 14, 248) := by kernel_rfl
theorem infoT157 : (Tryz.prog.info? 157).map (·.size) = some 14 := by kernel_rfl
theorem infoT86 : (Tryz.prog.info? 86).map (·.size) = some 1 := by kernel_rfl
theorem infoT48 : (Tryz.prog.info? 48).map (·.size) = some 1 := by kernel_rfl
set_option maxRecDepth 100000 in
set_option maxHeartbeats 1000000 in
theorem toSpecialization_c (x : TSpecialization) : ∀ (_ : x.sz ≤ 1048576) (w : World) (K : Nat → Prop) (_ : ∀ b, K b → b < w.heap.size) (cs : List Value) (_ : Rep w K x.enc cs),
  Calls Tryz.prog 96 #[.agg cs.toArray] w fun e w' => ∃ cs' bs, e = .returned (.agg cs'.toArray) ∧ Own w' x.enc cs' bs ∧ bs.Nodup ∧ (∀ b ∈ bs, w.heap.size ≤ b ∧ b < w'.heap.size) ∧ Below w.heap.size w w' := by
 intro hz w K hK cs h
 obtain ⟨c1, c2, c3, c4, c5, c6, c7, c8, c9, c10, c11, c12, c13, rfl, hUnit, hTypeArgs, hParams, hBody⟩ := TSpecialization.opn h
 clear h
 have HUnit := Lib.hid hUnit; clear hUnit
 have Hz := Lib.hid hz; clear hz
 have hV0 : Below w.heap.size w (((w.alloc (.cells #[.int .i64 x.fUnit, c1, c2, c3, c4, c5, c6, c7, c8, c9, c10, c11, c12, c13] 157)).alloc (.cells #[.int .i64 0, .slice none 0 0, .slice none 0 0, .int .i64 0, .string ⟨#[]⟩, .string ⟨#[]⟩, .int .i64 0, .int .i64 0, .string ⟨#[]⟩, .slice none 0 0, .slice none 0 0, .slice none 0 0, .slice none 0 0, .slice none 0 0] 163)).alloc (.cells #[.int .i64 x.fUnit, .slice none 0 0, .slice none 0 0, .int .i64 0, .string ⟨#[]⟩, .string ⟨#[]⟩, .int .i64 0, .int .i64 0, .string ⟨#[]⟩, .slice none 0 0, .slice none 0 0, .slice none 0 0, .slice none 0 0, .slice none 0 0] 163)) := (((Below.refl _ _).alloc (Nat.le_refl _) _).alloc (by simp) _).alloc (by simp <;> omega) _
 have hs0 : w.heap.size + 1 + 1 < (((w.alloc (.cells #[.int .i64 x.fUnit, c1, c2, c3, c4, c5, c6, c7, c8, c9, c10, c11, c12, c13] 157)).alloc (.cells #[.int .i64 0, .slice none 0 0, .slice none 0 0, .int .i64 0, .string ⟨#[]⟩, .string ⟨#[]⟩, .int .i64 0, .int .i64 0, .string ⟨#[]⟩, .slice none 0 0, .slice none 0 0, .slice none 0 0, .slice none 0 0, .slice none 0 0] 163)).alloc (.cells #[.int .i64 x.fUnit, .slice none 0 0, .slice none 0 0, .int .i64 0, .string ⟨#[]⟩, .string ⟨#[]⟩, .int .i64 0, .int .i64 0, .string ⟨#[]⟩, .slice none 0 0, .slice none 0 0, .slice none 0 0, .slice none 0 0, .slice none 0 0] 163)).heap.size := by simp
 have HA0 := Lib.hid (show (((w.alloc (.cells #[.int .i64 x.fUnit, c1, c2, c3, c4, c5, c6, c7, c8, c9, c10, c11, c12, c13] 157)).alloc (.cells #[.int .i64 0, .slice none 0 0, .slice none 0 0, .int .i64 0, .string ⟨#[]⟩, .string ⟨#[]⟩, .int .i64 0, .int .i64 0, .string ⟨#[]⟩, .slice none 0 0, .slice none 0 0, .slice none 0 0, .slice none 0 0, .slice none 0 0] 163)).alloc (.cells #[.int .i64 x.fUnit, .slice none 0 0, .slice none 0 0, .int .i64 0, .string ⟨#[]⟩, .string ⟨#[]⟩, .int .i64 0, .int .i64 0, .string ⟨#[]⟩, .slice none 0 0, .slice none 0 0, .slice none 0 0, .slice none 0 0, .slice none 0 0] 163)).heap[w.heap.size]? = some (.cells #[.int .i64 x.fUnit, c1, c2, c3, c4, c5, c6, c7, c8, c9, c10, c11, c12, c13] 157 (0, 0)) from alloc_lt (by simp <;> omega) (alloc_lt (by simp) (alloc_at rfl)))
 have HR0 := Lib.hid (show (((w.alloc (.cells #[.int .i64 x.fUnit, c1, c2, c3, c4, c5, c6, c7, c8, c9, c10, c11, c12, c13] 157)).alloc (.cells #[.int .i64 0, .slice none 0 0, .slice none 0 0, .int .i64 0, .string ⟨#[]⟩, .string ⟨#[]⟩, .int .i64 0, .int .i64 0, .string ⟨#[]⟩, .slice none 0 0, .slice none 0 0, .slice none 0 0, .slice none 0 0, .slice none 0 0] 163)).alloc (.cells #[.int .i64 x.fUnit, .slice none 0 0, .slice none 0 0, .int .i64 0, .string ⟨#[]⟩, .string ⟨#[]⟩, .int .i64 0, .int .i64 0, .string ⟨#[]⟩, .slice none 0 0, .slice none 0 0, .slice none 0 0, .slice none 0 0, .slice none 0 0] 163)).heap[w.heap.size + 1]? = some (.cells #[.int .i64 0, .slice none 0 0, .slice none 0 0, .int .i64 0, .string ⟨#[]⟩, .string ⟨#[]⟩, .int .i64 0, .int .i64 0, .string ⟨#[]⟩, .slice none 0 0, .slice none 0 0, .slice none 0 0, .slice none 0 0, .slice none 0 0] 163 (0, 0)) from alloc_lt (by simp) (alloc_at (by simp)))
 have HG0 := Lib.hid (show (((w.alloc (.cells #[.int .i64 x.fUnit, c1, c2, c3, c4, c5, c6, c7, c8, c9, c10, c11, c12, c13] 157)).alloc (.cells #[.int .i64 0, .slice none 0 0, .slice none 0 0, .int .i64 0, .string ⟨#[]⟩, .string ⟨#[]⟩, .int .i64 0, .int .i64 0, .string ⟨#[]⟩, .slice none 0 0, .slice none 0 0, .slice none 0 0, .slice none 0 0, .slice none 0 0] 163)).alloc (.cells #[.int .i64 x.fUnit, .slice none 0 0, .slice none 0 0, .int .i64 0, .string ⟨#[]⟩, .string ⟨#[]⟩, .int .i64 0, .int .i64 0, .string ⟨#[]⟩, .slice none 0 0, .slice none 0 0, .slice none 0 0, .slice none 0 0, .slice none 0 0] 163)).heap[w.heap.size + 1 + 1]? = some (.cells #[.int .i64 x.fUnit, .slice none 0 0, .slice none 0 0, .int .i64 0, .string ⟨#[]⟩, .string ⟨#[]⟩, .int .i64 0, .int .i64 0, .string ⟨#[]⟩, .slice none 0 0, .slice none 0 0, .slice none 0 0, .slice none 0 0, .slice none 0 0] 163 (0, 0)) from alloc_at (by simp))
 go_enter Tryz.func96, Tryz.ntmps96
 go_wp2_with fail
 refine (toTypeS_c x.fTypeArgs (by have := Hz.out; rw [TSpecialization.sz_eq] at this; omega) _ K (fun b hb => Nat.lt_of_lt_of_le (hK b hb) hV0.size) _ (Rep.ext hV0 hK hTypeArgs)).mono ?_
 rintro e w1 ⟨a1, p1, b1, rfl, o1, n1, r1, hB1⟩
 have hb1 := hV0.trans (hB1.mono hV0.size)
 have hz1 : w.heap.size + 1 + 1 < w1.heap.size := Nat.lt_of_lt_of_le hs0 hB1.size
 have s1 : ∀ b ∈ b1, w.heap.size + 1 + 1 + 1 ≤ b ∧ b < w1.heap.size := by intro b hb; have := r1 b hb; (try simp at this); omega
 have z1 : w.heap.size + 1 + 1 + 1 ≤ w1.heap.size := by have := hB1.size; (try simp at this); omega
 have HA1' := Lib.hid ((hB1.block (w.heap.size) (by have := hs0; omega)).trans HA0.out)
 have HR1' := Lib.hid ((hB1.block (w.heap.size + 1) (by have := hs0; omega)).trans HR0.out)
 have HG1' := Lib.hid ((hB1.block (w.heap.size + 1 + 1) (by have := hs0; omega)).trans HG0.out)
 clear HA0 HR0 HG0
 have ha1 := Lib.hid (show ((#[.int .i64 x.fUnit, .slice none 0 0, .slice none 0 0, .int .i64 0, .string ⟨#[]⟩, .string ⟨#[]⟩, .int .i64 0, .int .i64 0, .string ⟨#[]⟩, .slice none 0 0, .slice none 0 0, .slice none 0 0, .slice none 0 0, .slice none 0 0] : Array Value).toList.take 1 ++ ([.slice a1 x.fTypeArgs.length p1] : List Value) ++ (#[.int .i64 x.fUnit, .slice none 0 0, .slice none 0 0, .int .i64 0, .string ⟨#[]⟩, .string ⟨#[]⟩, .int .i64 0, .int .i64 0, .string ⟨#[]⟩, .slice none 0 0, .slice none 0 0, .slice none 0 0, .slice none 0 0, .slice none 0 0] : Array Value).toList.drop (1 + ([.slice a1 x.fTypeArgs.length p1] : List Value).length)).toArray = #[.int .i64 x.fUnit, .slice a1 x.fTypeArgs.length p1, .slice none 0 0, .int .i64 0, .string ⟨#[]⟩, .string ⟨#[]⟩, .int .i64 0, .int .i64 0, .string ⟨#[]⟩, .slice none 0 0, .slice none 0 0, .slice none 0 0, .slice none 0 0, .slice none 0 0] from rfl)
 have hf1 := Lib.hid (show 1 < (#[.int .i64 x.fUnit, .slice none 0 0, .slice none 0 0, .int .i64 0, .string ⟨#[]⟩, .string ⟨#[]⟩, .int .i64 0, .int .i64 0, .string ⟨#[]⟩, .slice none 0 0, .slice none 0 0, .slice none 0 0, .slice none 0 0, .slice none 0 0] : Array Value).size from (by decide : 1 < 14))
 go_wp2_with (with_reducible refine stR1 rfl 86 _ _ rfl (w.heap.size + 1 + 1) 1 rfl (.slice a1 x.fTypeArgs.length p1) rfl infoT86 rfl (#[.int .i64 x.fUnit, .slice none 0 0, .slice none 0 0, .int .i64 0, .string ⟨#[]⟩, .string ⟨#[]⟩, .int .i64 0, .int .i64 0, .string ⟨#[]⟩, .slice none 0 0, .slice none 0 0, .slice none 0 0, .slice none 0 0, .slice none 0 0] : Array Value) #[.int .i64 x.fUnit, .slice a1 x.fTypeArgs.length p1, .slice none 0 0, .int .i64 0, .string ⟨#[]⟩, .string ⟨#[]⟩, .int .i64 0, .int .i64 0, .string ⟨#[]⟩, .slice none 0 0, .slice none 0 0, .slice none 0 0, .slice none 0 0, .slice none 0 0] 163 HG1'.out hf1.out ha1.out ?_)
 intro v1 hp1
 have hV1 := hp1.below hb1 (by omega)
 have hs1 : w.heap.size + 1 + 1 < v1.heap.size := by rw [hp1.size]; exact hz1
 have HA1 := Lib.hid ((hp1.other (w.heap.size) (by omega)).trans HA1'.out)
 have HR1 := Lib.hid ((hp1.other (w.heap.size + 1) (by omega)).trans HR1'.out)
 have HG1 := Lib.hid hp1.row
 clear HA1' HR1' HG1'
 have cA1 := row_cell HA1.out
 have u1 := (Up.refl (w.heap.size + 1 + 1) w1).put hp1 (Nat.le_refl _)
 have y1 : v1.heap.size = w1.heap.size := hp1.size
 go_wp2_with fail
 refine (toStringS_c x.fParams (by have := Hz.out; rw [TSpecialization.sz_eq] at this; omega) _ K (fun b hb => Nat.lt_of_lt_of_le (hK b hb) hV1.size) _ (Rep.ext hV1 hK hParams)).mono ?_
 rintro e w2 ⟨a2, p2, b2, rfl, o2, n2, r2, hB2⟩
 have hb2 := hV1.trans (hB2.mono hV1.size)
 have hz2 : w.heap.size + 1 + 1 < w2.heap.size := Nat.lt_of_lt_of_le hs1 hB2.size
 have s2 : ∀ b ∈ b2, v1.heap.size ≤ b ∧ b < w2.heap.size := by intro b hb; have := r2 b hb; (try simp at this); omega
 have z2 : v1.heap.size ≤ w2.heap.size := by have := hB2.size; (try simp at this); omega
 have HA2' := Lib.hid ((hB2.block (w.heap.size) (by have := hs1; omega)).trans HA1.out)
 have HR2' := Lib.hid ((hB2.block (w.heap.size + 1) (by have := hs1; omega)).trans HR1.out)
 have HG2' := Lib.hid ((hB2.block (w.heap.size + 1 + 1) (by have := hs1; omega)).trans HG1.out)
 clear HA1 HR1 HG1
 have ha2 := Lib.hid (show ((#[.int .i64 x.fUnit, .slice a1 x.fTypeArgs.length p1, .slice none 0 0, .int .i64 0, .string ⟨#[]⟩, .string ⟨#[]⟩, .int .i64 0, .int .i64 0, .string ⟨#[]⟩, .slice none 0 0, .slice none 0 0, .slice none 0 0, .slice none 0 0, .slice none 0 0] : Array Value).toList.take 2 ++ ([.slice a2 x.fParams.length p2] : List Value) ++ (#[.int .i64 x.fUnit, .slice a1 x.fTypeArgs.length p1, .slice none 0 0, .int .i64 0, .string ⟨#[]⟩, .string ⟨#[]⟩, .int .i64 0, .int .i64 0, .string ⟨#[]⟩, .slice none 0 0, .slice none 0 0, .slice none 0 0, .slice none 0 0, .slice none 0 0] : Array Value).toList.drop (2 + ([.slice a2 x.fParams.length p2] : List Value).length)).toArray = #[.int .i64 x.fUnit, .slice a1 x.fTypeArgs.length p1, .slice a2 x.fParams.length p2, .int .i64 0, .string ⟨#[]⟩, .string ⟨#[]⟩, .int .i64 0, .int .i64 0, .string ⟨#[]⟩, .slice none 0 0, .slice none 0 0, .slice none 0 0, .slice none 0 0, .slice none 0 0] from rfl)
 have hf2 := Lib.hid (show 2 < (#[.int .i64 x.fUnit, .slice a1 x.fTypeArgs.length p1, .slice none 0 0, .int .i64 0, .string ⟨#[]⟩, .string ⟨#[]⟩, .int .i64 0, .int .i64 0, .string ⟨#[]⟩, .slice none 0 0, .slice none 0 0, .slice none 0 0, .slice none 0 0, .slice none 0 0] : Array Value).size from (by decide : 2 < 14))
 go_wp2_with (with_reducible refine stR1 rfl 48 _ _ rfl (w.heap.size + 1 + 1) 2 rfl (.slice a2 x.fParams.length p2) rfl infoT48 rfl (#[.int .i64 x.fUnit, .slice a1 x.fTypeArgs.length p1, .slice none 0 0, .int .i64 0, .string ⟨#[]⟩, .string ⟨#[]⟩, .int .i64 0, .int .i64 0, .string ⟨#[]⟩, .slice none 0 0, .slice none 0 0, .slice none 0 0, .slice none 0 0, .slice none 0 0] : Array Value) #[.int .i64 x.fUnit, .slice a1 x.fTypeArgs.length p1, .slice a2 x.fParams.length p2, .int .i64 0, .string ⟨#[]⟩, .string ⟨#[]⟩, .int .i64 0, .int .i64 0, .string ⟨#[]⟩, .slice none 0 0, .slice none 0 0, .slice none 0 0, .slice none 0 0, .slice none 0 0] 163 HG2'.out hf2.out ha2.out ?_)
 intro v2 hp2
 have hV2 := hp2.below hb2 (by omega)
 have hs2 : w.heap.size + 1 + 1 < v2.heap.size := by rw [hp2.size]; exact hz2
 have HA2 := Lib.hid ((hp2.other (w.heap.size) (by omega)).trans HA2'.out)
 have HR2 := Lib.hid ((hp2.other (w.heap.size + 1) (by omega)).trans HR2'.out)
 have HG2 := Lib.hid hp2.row
 clear HA2' HR2' HG2'
 have cA2 := row_cell HA2.out
 clear cA1
 have u1 := (u1.below hB2).put hp2 (Nat.le_refl _)
 have u2 := (Up.refl (w.heap.size + 1 + 1) w2).put hp2 (Nat.le_refl _)
 have y2 : v2.heap.size = w2.heap.size := hp2.size
 go_wp2_with fail
 refine (toCore_c x.fBody (by have := Hz.out; rw [TSpecialization.sz_eq] at this; omega) _ K (fun b hb => Nat.lt_of_lt_of_le (hK b hb) hV2.size) _ (Rep.ext hV2 hK hBody)).mono ?_
 rintro e w3 ⟨cs3, b3, rfl, o3, n3, r3, hB3⟩
 obtain ⟨d3, d4, d5, d6, d7, d8, d9, d10, d11, d12, d13, rfl⟩ := len11 ((Rep.length (K := fun _ => True) _ _ (Own.rep _ _ _ o3 (fun _ _ => trivial))).trans (TCore.width _))
 have one3 := Rep.one (K := fun _ => True) _ _ (Own.rep _ _ _ o3 (fun _ _ => trivial))
 have hb3 := hV2.trans (hB3.mono hV2.size)
 have hz3 : w.heap.size + 1 + 1 < w3.heap.size := Nat.lt_of_lt_of_le hs2 hB3.size
 have s3 : ∀ b ∈ b3, v2.heap.size ≤ b ∧ b < w3.heap.size := by intro b hb; have := r3 b hb; (try simp at this); omega
 have z3 : v2.heap.size ≤ w3.heap.size := by have := hB3.size; (try simp at this); omega
 have HA3' := Lib.hid ((hB3.block (w.heap.size) (by have := hs2; omega)).trans HA2.out)
 have HR3' := Lib.hid ((hB3.block (w.heap.size + 1) (by have := hs2; omega)).trans HR2.out)
 have HG3' := Lib.hid ((hB3.block (w.heap.size + 1 + 1) (by have := hs2; omega)).trans HG2.out)
 clear HA2 HR2 HG2
 have ha3 := Lib.hid (show ((#[.int .i64 x.fUnit, .slice a1 x.fTypeArgs.length p1, .slice a2 x.fParams.length p2, .int .i64 0, .string ⟨#[]⟩, .string ⟨#[]⟩, .int .i64 0, .int .i64 0, .string ⟨#[]⟩, .slice none 0 0, .slice none 0 0, .slice none 0 0, .slice none 0 0, .slice none 0 0] : Array Value).toList.take 3 ++ ([d3, d4, d5, d6, d7, d8, d9, d10, d11, d12, d13] : List Value) ++ (#[.int .i64 x.fUnit, .slice a1 x.fTypeArgs.length p1, .slice a2 x.fParams.length p2, .int .i64 0, .string ⟨#[]⟩, .string ⟨#[]⟩, .int .i64 0, .int .i64 0, .string ⟨#[]⟩, .slice none 0 0, .slice none 0 0, .slice none 0 0, .slice none 0 0, .slice none 0 0] : Array Value).toList.drop (3 + ([d3, d4, d5, d6, d7, d8, d9, d10, d11, d12, d13] : List Value).length)).toArray = #[.int .i64 x.fUnit, .slice a1 x.fTypeArgs.length p1, .slice a2 x.fParams.length p2, d3, d4, d5, d6, d7, d8, d9, d10, d11, d12, d13] from rfl)
 have hf3 := Lib.hid (show 3 + ([d3, d4, d5, d6, d7, d8, d9, d10, d11, d12, d13] : List Value).length ≤ (#[.int .i64 x.fUnit, .slice a1 x.fTypeArgs.length p1, .slice a2 x.fParams.length p2, .int .i64 0, .string ⟨#[]⟩, .string ⟨#[]⟩, .int .i64 0, .int .i64 0, .string ⟨#[]⟩, .slice none 0 0, .slice none 0 0, .slice none 0 0, .slice none 0 0, .slice none 0 0] : Array Value).size from (by decide : 3 + 11 ≤ 14))
 have hi3 := Lib.hid (show (Tryz.prog.info? 136).map (·.size) = some ([d3, d4, d5, d6, d7, d8, d9, d10, d11, d12, d13] : List Value).length from infoT136)
 go_wp2_with (with_reducible refine stR rfl 136 _ _ rfl (w.heap.size + 1 + 1) 3 rfl ([d3, d4, d5, d6, d7, d8, d9, d10, d11, d12, d13] : List Value) rfl hi3.out one3 (#[.int .i64 x.fUnit, .slice a1 x.fTypeArgs.length p1, .slice a2 x.fParams.length p2, .int .i64 0, .string ⟨#[]⟩, .string ⟨#[]⟩, .int .i64 0, .int .i64 0, .string ⟨#[]⟩, .slice none 0 0, .slice none 0 0, .slice none 0 0, .slice none 0 0, .slice none 0 0] : Array Value) #[.int .i64 x.fUnit, .slice a1 x.fTypeArgs.length p1, .slice a2 x.fParams.length p2, d3, d4, d5, d6, d7, d8, d9, d10, d11, d12, d13] 163 HG3'.out hf3.out ha3.out ?_)
 intro v3 hp3
 have hV3 := hp3.below hb3 (by omega)
 have hs3 : w.heap.size + 1 + 1 < v3.heap.size := by rw [hp3.size]; exact hz3
 have HA3 := Lib.hid ((hp3.other (w.heap.size) (by omega)).trans HA3'.out)
 have HR3 := Lib.hid ((hp3.other (w.heap.size + 1) (by omega)).trans HR3'.out)
 have HG3 := Lib.hid hp3.row
 clear HA3' HR3' HG3'
 have cA3 := row_cell HA3.out
 clear cA2
 have u1 := (u1.below hB3).put hp3 (Nat.le_refl _)
 have u2 := (u2.below hB3).put hp3 (Nat.le_refl _)
 have u3 := (Up.refl (w.heap.size + 1 + 1) w3).put hp3 (Nat.le_refl _)
 have y3 : v3.heap.size = w3.heap.size := hp3.size
 have OO := TSpecialization.mk_own HUnit.out (u1.own o1 s1 (by omega)) (u2.own o2 s2 (by omega)) (u3.own o3 s3 (by omega))
 have hone := Rep.one (K := fun _ => True) _ _ (Own.rep _ _ _ OO (fun _ _ => trivial))
 have hG := row_cells (cs := [.int .i64 x.fUnit, .slice a1 x.fTypeArgs.length p1, .slice a2 x.fParams.length p2, d3, d4, d5, d6, d7, d8, d9, d10, d11, d12, d13]) HG3.out
 have haf := Lib.hid (show ((#[.int .i64 0, .slice none 0 0, .slice none 0 0, .int .i64 0, .string ⟨#[]⟩, .string ⟨#[]⟩, .int .i64 0, .int .i64 0, .string ⟨#[]⟩, .slice none 0 0, .slice none 0 0, .slice none 0 0, .slice none 0 0, .slice none 0 0] : Array Value).toList.take 0 ++ ([.int .i64 x.fUnit, .slice a1 x.fTypeArgs.length p1, .slice a2 x.fParams.length p2, d3, d4, d5, d6, d7, d8, d9, d10, d11, d12, d13] : List Value) ++ (#[.int .i64 0, .slice none 0 0, .slice none 0 0, .int .i64 0, .string ⟨#[]⟩, .string ⟨#[]⟩, .int .i64 0, .int .i64 0, .string ⟨#[]⟩, .slice none 0 0, .slice none 0 0, .slice none 0 0, .slice none 0 0, .slice none 0 0] : Array Value).toList.drop (0 + ([.int .i64 x.fUnit, .slice a1 x.fTypeArgs.length p1, .slice a2 x.fParams.length p2, d3, d4, d5, d6, d7, d8, d9, d10, d11, d12, d13] : List Value).length)).toArray = #[.int .i64 x.fUnit, .slice a1 x.fTypeArgs.length p1, .slice a2 x.fParams.length p2, d3, d4, d5, d6, d7, d8, d9, d10, d11, d12, d13] from rfl)
 have hff := Lib.hid (show 0 + ([.int .i64 x.fUnit, .slice a1 x.fTypeArgs.length p1, .slice a2 x.fParams.length p2, d3, d4, d5, d6, d7, d8, d9, d10, d11, d12, d13] : List Value).length ≤ (#[.int .i64 0, .slice none 0 0, .slice none 0 0, .int .i64 0, .string ⟨#[]⟩, .string ⟨#[]⟩, .int .i64 0, .int .i64 0, .string ⟨#[]⟩, .slice none 0 0, .slice none 0 0, .slice none 0 0, .slice none 0 0, .slice none 0 0] : Array Value).size from (by decide : 0 + 14 ≤ 14))
 have hif := Lib.hid (show (Tryz.prog.info? 163).map (·.size) = some ([.int .i64 x.fUnit, .slice a1 x.fTypeArgs.length p1, .slice a2 x.fParams.length p2, d3, d4, d5, d6, d7, d8, d9, d10, d11, d12, d13] : List Value).length from infoT163)
 go_wp2_with (first | (with_reducible refine ld rfl 163 _ rfl (w.heap.size + 1 + 1) _ rfl [.int .i64 x.fUnit, .slice a1 x.fTypeArgs.length p1, .slice a2 x.fParams.length p2, d3, d4, d5, d6, d7, d8, d9, d10, d11, d12, d13] hG _ Tryz.underlying163 hif.out ?_) | (with_reducible refine stR rfl 163 _ _ rfl (w.heap.size + 1) 0 rfl [.int .i64 x.fUnit, .slice a1 x.fTypeArgs.length p1, .slice a2 x.fParams.length p2, d3, d4, d5, d6, d7, d8, d9, d10, d11, d12, d13] rfl hif.out hone (#[.int .i64 0, .slice none 0 0, .slice none 0 0, .int .i64 0, .string ⟨#[]⟩, .string ⟨#[]⟩, .int .i64 0, .int .i64 0, .string ⟨#[]⟩, .slice none 0 0, .slice none 0 0, .slice none 0 0, .slice none 0 0, .slice none 0 0] : Array Value) #[.int .i64 x.fUnit, .slice a1 x.fTypeArgs.length p1, .slice a2 x.fParams.length p2, d3, d4, d5, d6, d7, d8, d9, d10, d11, d12, d13] 163 HR3.out hff.out haf.out ?_))
 intro vf hpf
 have hV := hpf.below hV3 (by omega)
 have u1 := u1.put hpf (by omega)
 have u2 := u2.put hpf (by omega)
 have u3 := u3.put hpf (by omega)
 have cR := row_cells (cs := [.int .i64 x.fUnit, .slice a1 x.fTypeArgs.length p1, .slice a2 x.fParams.length p2, d3, d4, d5, d6, d7, d8, d9, d10, d11, d12, d13]) hpf.row
 have yf := hpf.size
 have j3 := join2 n3 s3 List.nodup_nil (b2 := []) (mid := w3.heap.size) (hi := w3.heap.size) (by simp) z3 (Nat.le_refl _)
 have j2 := join2 n2 s2 j3.1 (fun b hb => (by have := j3.2 b hb; omega : w2.heap.size ≤ b ∧ b < w3.heap.size)) z2 (by omega)
 have j1 := join2 n1 s1 j2.1 (fun b hb => (by have := j2.2 b hb; omega : w1.heap.size ≤ b ∧ b < w3.heap.size)) z1 (by omega)
 go_wp2
 refine bodyPost_ret (v := .agg #[.int .i64 x.fUnit, .slice a1 x.fTypeArgs.length p1, .slice a2 x.fParams.length p2, d3, d4, d5, d6, d7, d8, d9, d10, d11, d12, d13]) (run_res Tryz.results96 (w.heap.size + 1) rfl [.int .i64 x.fUnit, .slice a1 x.fTypeArgs.length p1, .slice a2 x.fParams.length p2, d3, d4, d5, d6, d7, d8, d9, d10, d11, d12, d13] cR _ Tryz.underlying163 hif.out) rfl ⟨[.int .i64 x.fUnit, .slice a1 x.fTypeArgs.length p1, .slice a2 x.fParams.length p2, d3, d4, d5, d6, d7, d8, d9, d10, d11, d12, d13], _, rfl, TSpecialization.mk_own HUnit.out (u1.own o1 s1 (by omega)) (u2.own o2 s2 (by omega)) (u3.own o3 s3 (by omega)), j1.1, ?_, hV⟩
 intro b hb
 have := j1.2 b hb
 omega
set_option maxRecDepth 100000 in
set_option maxHeartbeats 1000000 in
theorem toSpecializationS_c (l : List TSpecialization) : ∀ (_ : szs TSpecialization.sz l ≤ 1048576) (w : World) (K : Nat → Prop) (_ : ∀ b, K b → b < w.heap.size) (v : Value) (_ : Rep w K (.sl (l.map TSpecialization.enc)) [v]),
  Calls Tryz.prog 37 #[v] w fun e w' => ∃ a cap bs, e = .returned (.slice a l.length cap) ∧ Own w' (.sl (l.map TSpecialization.enc)) [.slice a l.length cap] bs ∧ bs.Nodup ∧ (∀ b ∈ bs, w.heap.size ≤ b ∧ b < w'.heap.size) ∧ Below w.heap.size w w' := by
 intro hz w K hK v h
 have hlen : l.length ≤ 1048576 := by unfold szs at hz; omega
 obtain ⟨a, cap, rfl, hc, hm, -, hE⟩ := open_sl TSpecialization.width h
 unfold maxLen at hm
 clear h
 obtain ⟨i0, h2, hz0, hz1, hz2⟩ := info_parts zinfo163
 go_enter Tryz.func37, Tryz.ntmps37
 go_wp2_with (at_make; refine wpList_make_full _ rfl _ _ 33 rfl w.heap.size 163 i0 _ 14 Tryz.underlying33 h2 hz0 hz1 _ _ _ _ l.length rfl rfl rfl rfl (by rw [hz2]; omega) (by unfold maxLen; omega) (Nat.le_refl _) ?_)
 intro wm hown hgr
 have hB0 : Below w.heap.size w wm := (Below.refl _ _).grown hgr (Nat.le_refl _) (by simp)
 have hR : l.length = 0 ∨ RowOf wm w.heap.size 163 (l.length * 14) := (rowOf_made hown).symm
 clear hown hgr
 go_wp2
 go_loopw [4] (fun i wr => ∃ (k : Nat) (r : List Nat), k ≤ l.length ∧ i = .int .i64 k ∧ (l.length = 0 ∨ RowOf wr w.heap.size 163 (l.length * 14)) ∧ OwnE wr ((l.take k).map TSpecialization.enc) w.heap.size 0 r ∧ r.Nodup ∧ (∀ b ∈ r, w.heap.size + 1 ≤ b ∧ b < wr.heap.size) ∧ Below w.heap.size w wr) (fun i _ => l.length - (intOf i).toNat)
 case atStart => exact ⟨0, [], Nat.zero_le _, rfl, hR, by simp only [List.take_zero, List.map_nil, OwnE], List.nodup_nil, by simp, hB0⟩
 case round =>
  clear hR hB0
  obtain ⟨k, r, hk, rfl, hR, h1, n1, r1, hB⟩ := hrel
  by_cases hlt : k < l.length
  ·obtain ⟨b, off, rfl, hKb, cs, hcs, hr⟩ := hE k hlt
   have hr' := Rep.ext hB hK hr
   have hcs' := hcs.ext hB (hK b hKb)
   have hK' : ∀ b, K b → b < wr.heap.size := fun b h => Nat.lt_of_lt_of_le (hK b h) hB.size
   have hR' : RowOf wr w.heap.size 163 (l.length * 14) := by rcases hR with h | h <;> first | omega | exact h
   have hroom : k * 14 + 14 ≤ l.length * 14 := by have := Nat.mul_le_mul_right 14 (show k + 1 ≤ l.length from hlt); rw [Nat.add_mul] at this; omega
   clear hE hcs hr hR
   have hi : (Tryz.prog.info? 157).map (·.size) = some cs.length := by rw [Rep.length _ _ hr', TSpecialization.width]; exact infoT157
   have hmem : l[k] ∈ l := List.getElem_mem hlt
   go_wp2_with (with_reducible refine ld rfl 157 _ rfl b _ rfl cs hcs' _ Tryz.underlying157 hi ?_)
   refine (toSpecialization_c l[k] (by have := szL_le TSpecialization.sz hmem; unfold szs at hz; omega) _ K hK' _ hr').mono ?_
   rintro e w1 ⟨cs', bs, rfl, o1, n2, r2, hB1⟩
   have hg : w.heap.size < wr.heap.size := hR'.lt
   obtain ⟨cur, hcur, hsz⟩ := hR'.below hB1 hg
   have Hcur := Lib.hid hcur
   have Hsz := Lib.hid hsz
   clear hcur hsz
   have hl' := (Rep.length (K := fun _ => True) _ _ (Own.rep _ _ _ o1 (fun _ _ => trivial))).trans (TSpecialization.width _)
   have hone := Rep.one (K := fun _ => True) _ _ (Own.rep _ _ _ o1 (fun _ _ => trivial))
   have hi' : (Tryz.prog.info? 163).map (·.size) = some cs'.length := by rw [hl']; exact infoT163
   have Hl' := Lib.hid hl'
   clear hl'
   go_wp2_with (with_reducible refine stA rfl 163 _ _ rfl w.heap.size (k * 14) rfl cs' rfl hi' hone cur 163 Hcur.out (by rw [Hl'.out, Hsz.out]; omega) ?_)
   intro w2 hst
   have R2 : RowOf w2 w.heap.size 163 (l.length * 14) := RowOf.stored ⟨cur, Hcur.out, Hsz.out⟩ hst
   have hrow := row_step TSpecialization.width hlt h1 n1 r1 hg hB1 o1 n2 r2 hst
   have hB2 := hst.below (hB.trans (hB1.mono hB.size)) (Nat.le_refl _)
   obtain ⟨h1', n1', r1'⟩ := hrow
   have A1 := Lib.hid h1'; have A2 := Lib.hid n1'; have A3 := Lib.hid r1'; have A4 := Lib.hid hB2; have A5 := Lib.hid R2
   clear h1' n1' r1' hB2 R2 h1 n1 r1 hB
   go_wp2
   go_roundw
   case rel => exact ⟨k + 1, _, hlt, by go_num, .inr A5.out, A1.out, A2.out, A3.out, A4.out⟩
   case measure => simp [intOf]; omega
  ·obtain rfl : k = l.length := by omega
   rw [List.take_length] at h1
   go_wp2
   go_ret
   rcases hR with h | h
   ·exact ⟨_, _, [], rfl, own_nil (List.length_eq_zero_iff.1 h) (by unfold maxLen; omega) (by simp), List.nodup_nil, by simp, hB⟩
   ·obtain ⟨bs, o1, n2, r2⟩ := row_done (by unfold maxLen; omega) h h1 n1 r1
    exact ⟨_, _, bs, rfl, o1, n2, r2, hB⟩
set_option maxRecDepth 100000 in
set_option maxHeartbeats 1000000 in
theorem toMonoProgram_c (x : TMonoProgram) : ∀ (_ : x.sz ≤ 1048576) (w : World) (K : Nat → Prop) (_ : ∀ b, K b → b < w.heap.size) (cs : List Value) (_ : Rep w K x.enc cs),
  Calls Tryz.prog 8 #[.agg cs.toArray] w fun e w' => ∃ cs' bs, e = .returned (.agg cs'.toArray) ∧ Own w' x.enc cs' bs ∧ bs.Nodup ∧ (∀ b ∈ bs, w.heap.size ≤ b ∧ b < w'.heap.size) ∧ Below w.heap.size w w' := by
 intro hz w K hK cs h
 obtain ⟨c0, c1, rfl, hSpecializations, hTables⟩ := TMonoProgram.opn h
 clear h
 have Hz := Lib.hid hz; clear hz
 have hV0 : Below w.heap.size w (((w.alloc (.cells #[c0, c1] 25)).alloc (.cells #[.slice none 0 0, .slice none 0 0] 35)).alloc (.cells #[.slice none 0 0, .slice none 0 0] 35)) := (((Below.refl _ _).alloc (Nat.le_refl _) _).alloc (by simp) _).alloc (by simp <;> omega) _
 have hs0 : w.heap.size + 1 + 1 < (((w.alloc (.cells #[c0, c1] 25)).alloc (.cells #[.slice none 0 0, .slice none 0 0] 35)).alloc (.cells #[.slice none 0 0, .slice none 0 0] 35)).heap.size := by simp
 go_enter Tryz.func8, Tryz.ntmps8
 go_wp2_with fail
 refine (toSpecializationS_c x.fSpecializations (by have := Hz.out; rw [TMonoProgram.sz_eq] at this; omega) _ K (fun b hb => Nat.lt_of_lt_of_le (hK b hb) hV0.size) _ (Rep.ext hV0 hK hSpecializations)).mono ?_
 rintro e w1 ⟨a1, p1, b1, rfl, o1, n1, r1, hB1⟩
 have hb1 := hV0.trans (hB1.mono hV0.size)
 have hc1 := (bcell hB1).1
 have hf1 := (bcell hB1).2
 have hz1 : w.heap.size + 1 + 1 < w1.heap.size := Nat.lt_of_lt_of_le hs0 hB1.size
 have hy1 : w.heap.size < w1.heap.size := by omega
 have hx1 : w.heap.size + 1 < w1.heap.size := by omega
 have s1 : ∀ b ∈ b1, w.heap.size + 1 + 1 + 1 ≤ b ∧ b < w1.heap.size := by intro b hb; have := r1 b hb; simp at this; omega
 have z1 : w.heap.size + 1 + 1 + 1 ≤ w1.heap.size := by have := hB1.size; simp at this; omega
 have hV1 := hb1 |>.setCell (p := ⟨w.heap.size + 1 + 1, 0, none⟩) (by show w.heap.size ≤ w.heap.size + 1 + 1; omega) (.slice a1 x.fSpecializations.length p1)
 have hs1 : w.heap.size + 1 + 1 < _ := Nat.lt_of_lt_of_le hz1 ((Up.refl (w.heap.size + 1 + 1) w1) |>.setCell ⟨w.heap.size + 1 + 1, 0, none⟩ (Nat.le_refl _) (.slice a1 x.fSpecializations.length p1)).size
 have u1 := (Up.refl (w.heap.size + 1 + 1) w1) |>.setCell ⟨w.heap.size + 1 + 1, 0, none⟩ (Nat.le_refl _) (.slice a1 x.fSpecializations.length p1)
 go_wp2_with fail
 refine (toMethodTableS_c x.fTables (by have := Hz.out; rw [TMonoProgram.sz_eq] at this; omega) _ K (fun b hb => Nat.lt_of_lt_of_le (hK b hb) hV1.size) _ (Rep.ext hV1 hK hTables)).mono ?_
 rintro e w2 ⟨a2, p2, b2, rfl, o2, n2, r2, hB2⟩
 have hb2 := hV1.trans (hB2.mono hV1.size)
 have hc2 := (bcell hB2).1
 have hf2 := (bcell hB2).2
 have hz2 : w.heap.size + 1 + 1 < w2.heap.size := Nat.lt_of_lt_of_le hs1 hB2.size
 have hy2 : w.heap.size < w2.heap.size := by omega
 have hx2 : w.heap.size + 1 < w2.heap.size := by omega
 have s2 : ∀ b ∈ b2, w1.heap.size ≤ b ∧ b < w2.heap.size := by intro b hb; have := r2 b hb; simp at this; omega
 have z2 : w1.heap.size ≤ w2.heap.size := by have := hB2.size; simp at this; omega
 have u1 := u1.below hB2
 go_wp2
 have hV := hb2 |>.setCell (p := ⟨w.heap.size + 1 + 1, 1, none⟩) (by show w.heap.size ≤ w.heap.size + 1 + 1; omega) (.slice a2 x.fTables.length p2) |>.setCell (p := ⟨w.heap.size + 1, 0, none⟩) (by show w.heap.size ≤ w.heap.size + 1; omega) (.slice a1 x.fSpecializations.length p1) |>.setCell (p := ⟨w.heap.size + 1, 1, none⟩) (by show w.heap.size ≤ w.heap.size + 1; omega) (.slice a2 x.fTables.length p2)
 have u1 := u1 |>.setCell ⟨w.heap.size + 1 + 1, 1, none⟩ (by show w.heap.size + 1 + 1 ≤ w.heap.size + 1 + 1; omega) (.slice a2 x.fTables.length p2) |>.setCell ⟨w.heap.size + 1, 0, none⟩ (by show w.heap.size + 1 ≤ w.heap.size + 1 + 1; omega) (.slice a1 x.fSpecializations.length p1) |>.setCell ⟨w.heap.size + 1, 1, none⟩ (by show w.heap.size + 1 ≤ w.heap.size + 1 + 1; omega) (.slice a2 x.fTables.length p2)
 have u2 := (Up.refl (w.heap.size + 1 + 1) w2) |>.setCell ⟨w.heap.size + 1 + 1, 1, none⟩ (by show w.heap.size + 1 + 1 ≤ w.heap.size + 1 + 1; omega) (.slice a2 x.fTables.length p2) |>.setCell ⟨w.heap.size + 1, 0, none⟩ (by show w.heap.size + 1 ≤ w.heap.size + 1 + 1; omega) (.slice a1 x.fSpecializations.length p1) |>.setCell ⟨w.heap.size + 1, 1, none⟩ (by show w.heap.size + 1 ≤ w.heap.size + 1 + 1; omega) (.slice a2 x.fTables.length p2)
 have j2 := join2 n2 s2 List.nodup_nil (b2 := []) (mid := w2.heap.size) (hi := w2.heap.size) (by simp) z2 (Nat.le_refl _)
 have j1 := join2 n1 s1 j2.1 j2.2 z1 (by omega)
 refine bodyPost_ret (v := .agg #[.slice a1 x.fSpecializations.length p1, .slice a2 x.fTables.length p2]) (by simp [results, Tryz.results8, go_sem, *]) rfl ⟨[.slice a1 x.fSpecializations.length p1, .slice a2 x.fTables.length p2], _, rfl, TMonoProgram.mk_own (u1.own o1 s1 (by omega)) (u2.own o2 s2 (by omega)), j1.1, ?_, hV⟩
 intro b hb
 have := j1.2 b hb
 simp
 omega
end Go.Proofs.YtkmiecgcibjkbaaGreat
