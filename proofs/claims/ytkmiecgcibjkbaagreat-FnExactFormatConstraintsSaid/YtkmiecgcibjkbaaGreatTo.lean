/- The functions to.. of the laws: each copies a value into memory of its own. Condition: the value's size is at most 1048576. -/
import Derived.Test.YtkmiecgcibjkbaaGreatTypes
namespace Go.Proofs.YtkmiecgcibjkbaaGreat
open Go.RowKit
theorem infoT9 : (Tryz.prog.info? 9).map (·.size) = some 1 := by kernel_rfl
theorem zinfo9 : (Tryz.prog.info? 9).map (fun i => (i.zero, i.size, i.bytes)) = some (some (.string ⟨#[]⟩), 1, 16) := by kernel_rfl
set_option maxRecDepth 100000 in
set_option maxHeartbeats 1000000 in
theorem toStringS_c (l : List ByteArray) : ∀ (_ : szs ByteArray.size l ≤ 1048576) (w : World) (K : Nat → Prop) (_ : ∀ b, K b → b < w.heap.size) (v : Value) (_ : Rep w K (.sl (l.map encS)) [v]),
    Calls Tryz.prog 158 #[v] w fun e w' => ∃ a cap bs, e = .returned (.slice a l.length cap) ∧ Own w' (.sl (l.map encS)) [.slice a l.length cap] bs ∧ bs.Nodup ∧ (∀ b ∈ bs, w.heap.size ≤ b ∧ b < w'.heap.size) ∧ Below w.heap.size w w' := by
  intro hz w K hK v h
  have hlen : l.length ≤ 1048576 := by unfold szs at hz; omega
  obtain ⟨a, cap, rfl, hc, hm, -, hE⟩ := open_sl encS_w h
  unfold maxLen at hm
  clear h
  obtain ⟨i0, h2, hz0, hz1, hz2⟩ := info_parts zinfo9
  go_enter Tryz.func158, Tryz.ntmps158
  go_wp2_with (at_make; refine wpList_make_full _ rfl _ _ 48 rfl w.heap.size 9 i0 _ 1 Tryz.underlying48 h2 hz0 hz1 _ _ _ _ l.length rfl rfl rfl rfl (by rw [hz2]; omega) (by unfold maxLen; omega) (Nat.le_refl _) ?_)
  intro wm hown hgr
  have hB0 : Below w.heap.size w wm := (Below.refl _ _).grown hgr (Nat.le_refl _) (by simp)
  have hR : l.length = 0 ∨ RowOf wm w.heap.size 9 (l.length * 1) := (rowOf_made hown).symm
  clear hown hgr
  go_wp2
  go_loopw [4] (fun i wr => ∃ (k : Nat) (r : List Nat), k ≤ l.length ∧ i = .int .i64 k ∧ (l.length = 0 ∨ RowOf wr w.heap.size 9 (l.length * 1)) ∧ OwnE wr ((l.take k).map encS) w.heap.size 0 r ∧ r.Nodup ∧ (∀ b ∈ r, w.heap.size + 1 ≤ b ∧ b < wr.heap.size) ∧ Below w.heap.size w wr) (fun i _ => l.length - (intOf i).toNat)
  case atStart => exact ⟨0, [], Nat.zero_le _, rfl, hR, by simp only [List.take_zero, List.map_nil, OwnE], List.nodup_nil, by simp, hB0⟩
  case round =>
    clear hR hB0
    obtain ⟨k, r, hk, rfl, hR, h1, n1, r1, hB⟩ := hrel
    by_cases hlt : k < l.length
    · obtain ⟨b, off, rfl, hKb, cs, hcs, hr⟩ := hE k hlt
      have hr' := Rep.ext hB hK hr
      have hcs' := hcs.ext hB (hK b hKb)
      have hK' : ∀ b, K b → b < wr.heap.size := fun b h => Nat.lt_of_lt_of_le (hK b h) hB.size
      have hR' : RowOf wr w.heap.size 9 (l.length * 1) := by rcases hR with h | h <;> first | omega | exact h
      have hroom : k * 1 + 1 ≤ l.length * 1 := by have := Nat.mul_le_mul_right 1 (show k + 1 ≤ l.length from hlt); rw [Nat.add_mul] at this; omega
      clear hE hcs hr hR
      have hrr := hr'
      simp only [encS, Rep] at hr'
      obtain ⟨rfl, hok⟩ := hr'
      have g0 : wr.cell? ⟨b, off + k, none⟩ = some (.string l[k]) := by simpa using hcs' 0 _ rfl
      have Hok := Lib.hid hok
      clear hcs' hok
      obtain ⟨cur, hcur, hsz⟩ := hR'
      have Hcur := Lib.hid hcur
      have Hsz := Lib.hid hsz
      clear hcur hsz
      go_wp2_with (with_reducible refine st1 rfl 9 _ _ rfl w.heap.size k rfl (.string l[k]) rfl infoT9 rfl cur 9 Hcur.out (by rw [Hsz.out]; omega) ?_)
      intro w2 hst
      have hst' : Stored wr w2 w.heap.size (k * 1) [.string l[k]] := by simpa using hst
      have R2 : RowOf w2 w.heap.size 9 (l.length * 1) := RowOf.stored ⟨cur, Hcur.out, Hsz.out⟩ hst
      have hg : w.heap.size < wr.heap.size := RowOf.lt ⟨cur, Hcur.out, rfl⟩
      have hrow := row_step encS_w hlt h1 n1 r1 hg (Below.refl _ _) (ownS Hok.out) List.nodup_nil (by simp) hst'
      have hB2 := hst.below hB (Nat.le_refl _)
      obtain ⟨h1', n1', r1'⟩ := hrow
      have A1 := Lib.hid h1'; have A2 := Lib.hid n1'; have A3 := Lib.hid r1'; have A4 := Lib.hid hB2; have A5 := Lib.hid R2
      clear h1' n1' r1' hB2 R2 h1 n1 r1 hB
      go_wp2
      go_roundw
      case rel => exact ⟨k + 1, _, hlt, by go_num, .inr A5.out, A1.out, A2.out, A3.out, A4.out⟩
      case measure => simp [intOf]; omega
    · obtain rfl : k = l.length := by omega
      rw [List.take_length] at h1
      go_wp2
      go_ret
      rcases hR with h | h
      · exact ⟨_, _, [], rfl, own_nil (List.length_eq_zero_iff.1 h) (by unfold maxLen; omega) (by simp), List.nodup_nil, by simp, hB⟩
      · obtain ⟨bs, o1, n2, r2⟩ := row_done (by unfold maxLen; omega) h h1 n1 r1
        exact ⟨_, _, bs, rfl, o1, n2, r2, hB⟩
theorem infoT88 : (Tryz.prog.info? 88).map (·.size) = some 3 := by kernel_rfl
theorem zinfo88 : (Tryz.prog.info? 88).map (fun i => (i.zero, i.size, i.bytes)) = some (some (.agg #[.int .i64 0, .string ⟨#[]⟩, .slice none 0 0]), 3, 48) := by kernel_rfl
theorem infoT150 : (Tryz.prog.info? 150).map (·.size) = some 3 := by kernel_rfl
def ToType (N : Nat) : Prop := ∀ (x : TType), SizeOf.sizeOf x < N → ∀ (_ : x.sz ≤ 1048576) (w : World) (K : Nat → Prop) (_ : ∀ b, K b → b < w.heap.size) (cs : List Value) (_ : Rep w K x.enc cs),
    Calls Tryz.prog 160 #[.agg cs.toArray] w fun e w' => ∃ cs' bs, e = .returned (.agg cs'.toArray) ∧ Own w' x.enc cs' bs ∧ bs.Nodup ∧ (∀ b ∈ bs, w.heap.size ≤ b ∧ b < w'.heap.size) ∧ Below w.heap.size w w'
def ToTypeS (N : Nat) : Prop := ∀ (l : List TType), SizeOf.sizeOf l < N → ∀ (_ : szs TType.sz l ≤ 1048576) (w : World) (K : Nat → Prop) (_ : ∀ b, K b → b < w.heap.size) (v : Value) (_ : Rep w K (.sl (l.map TType.enc)) [v]),
    Calls Tryz.prog 157 #[v] w fun e w' => ∃ a cap bs, e = .returned (.slice a l.length cap) ∧ Own w' (.sl (l.map TType.enc)) [.slice a l.length cap] bs ∧ bs.Nodup ∧ (∀ b ∈ bs, w.heap.size ≤ b ∧ b < w'.heap.size) ∧ Below w.heap.size w w'
set_option maxRecDepth 100000 in
set_option maxHeartbeats 1000000 in
theorem stepToType (N : Nat) (_iToType : ToType N) (iToTypeS : ToTypeS N) : ToType (N + 1) := by
  intro x hN hz w K hK cs h
  obtain ⟨c2, rfl, hKind, hName, hArgs⟩ := TType.opn h
  clear h
  have HKind := Lib.hid hKind; clear hKind
  have HName := Lib.hid hName; clear hName
  have Hz := Lib.hid hz; clear hz
  have hV0 : Below w.heap.size w (((w.alloc (.cells #[.int .i64 x.fKind, .string x.fName, c2] 150)).alloc (.cells #[.int .i64 0, .string ⟨#[]⟩, .slice none 0 0] 88)).alloc (.cells #[.int .i64 x.fKind, .string x.fName, .slice none 0 0] 88)) := (((Below.refl _ _).alloc (Nat.le_refl _) _).alloc (by simp) _).alloc (by simp <;> omega) _
  have hs0 : w.heap.size + 1 + 1 < (((w.alloc (.cells #[.int .i64 x.fKind, .string x.fName, c2] 150)).alloc (.cells #[.int .i64 0, .string ⟨#[]⟩, .slice none 0 0] 88)).alloc (.cells #[.int .i64 x.fKind, .string x.fName, .slice none 0 0] 88)).heap.size := by simp
  go_enter Tryz.func160, Tryz.ntmps160
  go_wp2_with fail
  refine (iToTypeS x.fArgs (by have := TType.lt_fArgs x; omega) (by have := Hz.out; rw [TType.sz_eq] at this; omega) _ K (fun b hb => Nat.lt_of_lt_of_le (hK b hb) hV0.size) _ (Rep.ext hV0 hK hArgs)).mono ?_
  rintro e w1 ⟨a1, p1, b1, rfl, o1, n1, r1, hB1⟩
  have hb1 := hV0.trans (hB1.mono hV0.size)
  have hc1 := (bcell hB1).1
  have hf1 := (bcell hB1).2
  have hz1 : w.heap.size + 1 + 1 < w1.heap.size := Nat.lt_of_lt_of_le hs0 hB1.size
  have hy1 : w.heap.size < w1.heap.size := by omega
  have hx1 : w.heap.size + 1 < w1.heap.size := by omega
  have s1 : ∀ b ∈ b1, w.heap.size + 1 + 1 + 1 ≤ b ∧ b < w1.heap.size := by intro b hb; have := r1 b hb; simp at this; omega
  have z1 : w.heap.size + 1 + 1 + 1 ≤ w1.heap.size := by have := hB1.size; simp at this; omega
  go_wp2
  have hV := hb1 |>.setCell (p := ⟨w.heap.size + 1 + 1, 2, none⟩) (by show w.heap.size ≤ w.heap.size + 1 + 1; omega) (.slice a1 x.fArgs.length p1) |>.setCell (p := ⟨w.heap.size + 1, 0, none⟩) (by show w.heap.size ≤ w.heap.size + 1; omega) (.int .i64 x.fKind) |>.setCell (p := ⟨w.heap.size + 1, 1, none⟩) (by show w.heap.size ≤ w.heap.size + 1; omega) (.string x.fName) |>.setCell (p := ⟨w.heap.size + 1, 2, none⟩) (by show w.heap.size ≤ w.heap.size + 1; omega) (.slice a1 x.fArgs.length p1)
  have u1 := (Up.refl (w.heap.size + 1 + 1) w1) |>.setCell ⟨w.heap.size + 1 + 1, 2, none⟩ (by show w.heap.size + 1 + 1 ≤ w.heap.size + 1 + 1; omega) (.slice a1 x.fArgs.length p1) |>.setCell ⟨w.heap.size + 1, 0, none⟩ (by show w.heap.size + 1 ≤ w.heap.size + 1 + 1; omega) (.int .i64 x.fKind) |>.setCell ⟨w.heap.size + 1, 1, none⟩ (by show w.heap.size + 1 ≤ w.heap.size + 1 + 1; omega) (.string x.fName) |>.setCell ⟨w.heap.size + 1, 2, none⟩ (by show w.heap.size + 1 ≤ w.heap.size + 1 + 1; omega) (.slice a1 x.fArgs.length p1)
  have j1 := join2 n1 s1 List.nodup_nil (b2 := []) (mid := w1.heap.size) (hi := w1.heap.size) (by simp) z1 (Nat.le_refl _)
  refine bodyPost_ret (v := .agg #[.int .i64 x.fKind, .string x.fName, .slice a1 x.fArgs.length p1]) (by simp [results, Tryz.results160, go_sem, *]) rfl ⟨[.int .i64 x.fKind, .string x.fName, .slice a1 x.fArgs.length p1], _, rfl, TType.mk_own HKind.out HName.out (u1.own o1 s1 (by omega)), j1.1, ?_, hV⟩
  intro b hb
  have := j1.2 b hb
  simp
  omega
set_option maxRecDepth 100000 in
set_option maxHeartbeats 1000000 in
theorem stepToTypeS (N : Nat) (iToType : ToType N) (_iToTypeS : ToTypeS N) : ToTypeS (N + 1) := by
  intro l hN hz w K hK v h
  have hlen : l.length ≤ 1048576 := by unfold szs at hz; omega
  obtain ⟨a, cap, rfl, hc, hm, -, hE⟩ := open_sl TType.width h
  unfold maxLen at hm
  clear h
  obtain ⟨i0, h2, hz0, hz1, hz2⟩ := info_parts zinfo88
  go_enter Tryz.func157, Tryz.ntmps157
  go_wp2_with (at_make; refine wpList_make_full _ rfl _ _ 86 rfl w.heap.size 88 i0 _ 3 Tryz.underlying86 h2 hz0 hz1 _ _ _ _ l.length rfl rfl rfl rfl (by rw [hz2]; omega) (by unfold maxLen; omega) (Nat.le_refl _) ?_)
  intro wm hown hgr
  have hB0 : Below w.heap.size w wm := (Below.refl _ _).grown hgr (Nat.le_refl _) (by simp)
  have hR : l.length = 0 ∨ RowOf wm w.heap.size 88 (l.length * 3) := (rowOf_made hown).symm
  clear hown hgr
  go_wp2
  go_loopw [4] (fun i wr => ∃ (k : Nat) (r : List Nat), k ≤ l.length ∧ i = .int .i64 k ∧ (l.length = 0 ∨ RowOf wr w.heap.size 88 (l.length * 3)) ∧ OwnE wr ((l.take k).map TType.enc) w.heap.size 0 r ∧ r.Nodup ∧ (∀ b ∈ r, w.heap.size + 1 ≤ b ∧ b < wr.heap.size) ∧ Below w.heap.size w wr) (fun i _ => l.length - (intOf i).toNat)
  case atStart => exact ⟨0, [], Nat.zero_le _, rfl, hR, by simp only [List.take_zero, List.map_nil, OwnE], List.nodup_nil, by simp, hB0⟩
  case round =>
    clear hR hB0
    obtain ⟨k, r, hk, rfl, hR, h1, n1, r1, hB⟩ := hrel
    by_cases hlt : k < l.length
    · obtain ⟨b, off, rfl, hKb, cs, hcs, hr⟩ := hE k hlt
      have hr' := Rep.ext hB hK hr
      have hcs' := hcs.ext hB (hK b hKb)
      have hK' : ∀ b, K b → b < wr.heap.size := fun b h => Nat.lt_of_lt_of_le (hK b h) hB.size
      have hR' : RowOf wr w.heap.size 88 (l.length * 3) := by rcases hR with h | h <;> first | omega | exact h
      have hroom : k * 3 + 3 ≤ l.length * 3 := by have := Nat.mul_le_mul_right 3 (show k + 1 ≤ l.length from hlt); rw [Nat.add_mul] at this; omega
      clear hE hcs hr hR
      have hi : (Tryz.prog.info? 150).map (·.size) = some cs.length := by rw [Rep.length _ _ hr', TType.width]; exact infoT150
      have hmem : l[k] ∈ l := List.getElem_mem hlt
      go_wp2_with (with_reducible refine ld rfl 150 _ rfl b _ rfl cs hcs' _ Tryz.underlying150 hi ?_)
      refine (iToType l[k] (by have := List.sizeOf_lt_of_mem hmem; omega) (by have := szL_le TType.sz hmem; unfold szs at hz; omega) _ K hK' _ hr').mono ?_
      rintro e w1 ⟨cs', bs, rfl, o1, n2, r2, hB1⟩
      have hg : w.heap.size < wr.heap.size := hR'.lt
      obtain ⟨cur, hcur, hsz⟩ := hR'.below hB1 hg
      have Hcur := Lib.hid hcur
      have Hsz := Lib.hid hsz
      clear hcur hsz
      have hl' := (Rep.length (K := fun _ => True) _ _ (Own.rep _ _ _ o1 (fun _ _ => trivial))).trans (TType.width _)
      have hone := Rep.one (K := fun _ => True) _ _ (Own.rep _ _ _ o1 (fun _ _ => trivial))
      have hi' : (Tryz.prog.info? 88).map (·.size) = some cs'.length := by rw [hl']; exact infoT88
      have Hl' := Lib.hid hl'
      clear hl'
      go_wp2_with (with_reducible refine stA rfl 88 _ _ rfl w.heap.size (k * 3) rfl cs' rfl hi' hone cur 88 Hcur.out (by rw [Hl'.out, Hsz.out]; omega) ?_)
      intro w2 hst
      have R2 : RowOf w2 w.heap.size 88 (l.length * 3) := RowOf.stored ⟨cur, Hcur.out, Hsz.out⟩ hst
      have hrow := row_step TType.width hlt h1 n1 r1 hg hB1 o1 n2 r2 hst
      have hB2 := hst.below (hB.trans (hB1.mono hB.size)) (Nat.le_refl _)
      obtain ⟨h1', n1', r1'⟩ := hrow
      have A1 := Lib.hid h1'; have A2 := Lib.hid n1'; have A3 := Lib.hid r1'; have A4 := Lib.hid hB2; have A5 := Lib.hid R2
      clear h1' n1' r1' hB2 R2 h1 n1 r1 hB
      go_wp2
      go_roundw
      case rel => exact ⟨k + 1, _, hlt, by go_num, .inr A5.out, A1.out, A2.out, A3.out, A4.out⟩
      case measure => simp [intOf]; omega
    · obtain rfl : k = l.length := by omega
      rw [List.take_length] at h1
      go_wp2
      go_ret
      rcases hR with h | h
      · exact ⟨_, _, [], rfl, own_nil (List.length_eq_zero_iff.1 h) (by unfold maxLen; omega) (by simp), List.nodup_nil, by simp, hB⟩
      · obtain ⟨bs, o1, n2, r2⟩ := row_done (by unfold maxLen; omega) h h1 n1 r1
        exact ⟨_, _, bs, rfl, o1, n2, r2, hB⟩
theorem toType_all : ∀ N : Nat, ToType N ∧ ToTypeS N
  | 0 => ⟨fun _ h => absurd h (Nat.not_lt_zero _), fun _ h => absurd h (Nat.not_lt_zero _)⟩
  | N + 1 => by
    obtain ⟨i0, i1⟩ := toType_all N
    exact ⟨stepToType N i0 i1, stepToTypeS N i0 i1⟩
theorem toType_c (x : TType) : ∀ (_ : x.sz ≤ 1048576) (w : World) (K : Nat → Prop) (_ : ∀ b, K b → b < w.heap.size) (cs : List Value) (_ : Rep w K x.enc cs),
    Calls Tryz.prog 160 #[.agg cs.toArray] w fun e w' => ∃ cs' bs, e = .returned (.agg cs'.toArray) ∧ Own w' x.enc cs' bs ∧ bs.Nodup ∧ (∀ b ∈ bs, w.heap.size ≤ b ∧ b < w'.heap.size) ∧ Below w.heap.size w w' := (toType_all (SizeOf.sizeOf x + 1)).1 x (Nat.lt_succ_self _)
theorem toTypeS_c (l : List TType) : ∀ (_ : szs TType.sz l ≤ 1048576) (w : World) (K : Nat → Prop) (_ : ∀ b, K b → b < w.heap.size) (v : Value) (_ : Rep w K (.sl (l.map TType.enc)) [v]),
    Calls Tryz.prog 157 #[v] w fun e w' => ∃ a cap bs, e = .returned (.slice a l.length cap) ∧ Own w' (.sl (l.map TType.enc)) [.slice a l.length cap] bs ∧ bs.Nodup ∧ (∀ b ∈ bs, w.heap.size ≤ b ∧ b < w'.heap.size) ∧ Below w.heap.size w w' := (toType_all (SizeOf.sizeOf l + 1)).2 l (Nat.lt_succ_self _)
theorem infoT207 : (Tryz.prog.info? 207).map (·.size) = some 4 := by kernel_rfl
theorem zinfo207 : (Tryz.prog.info? 207).map (fun i => (i.zero, i.size, i.bytes)) = some (some (.agg #[.string ⟨#[]⟩, .int .i64 0, .string ⟨#[]⟩, .slice none 0 0]), 4, 64) := by kernel_rfl
theorem infoT189 : (Tryz.prog.info? 189).map (·.size) = some 4 := by kernel_rfl
set_option maxRecDepth 100000 in
set_option maxHeartbeats 1000000 in
theorem toBinding_c (x : TBinding) : ∀ (_ : x.sz ≤ 1048576) (w : World) (K : Nat → Prop) (_ : ∀ b, K b → b < w.heap.size) (cs : List Value) (_ : Rep w K x.enc cs),
    Calls Tryz.prog 118 #[.agg cs.toArray] w fun e w' => ∃ cs' bs, e = .returned (.agg cs'.toArray) ∧ Own w' x.enc cs' bs ∧ bs.Nodup ∧ (∀ b ∈ bs, w.heap.size ≤ b ∧ b < w'.heap.size) ∧ Below w.heap.size w w' := by
  intro hz w K hK cs h
  obtain ⟨c1, c2, c3, rfl, hVar, hType⟩ := TBinding.opn h
  clear h
  have HVar := Lib.hid hVar; clear hVar
  have Hz := Lib.hid hz; clear hz
  have hV0 : Below w.heap.size w (((w.alloc (.cells #[.string x.fVar, c1, c2, c3] 189)).alloc (.cells #[.string ⟨#[]⟩, .int .i64 0, .string ⟨#[]⟩, .slice none 0 0] 207)).alloc (.cells #[.string x.fVar, .int .i64 0, .string ⟨#[]⟩, .slice none 0 0] 207)) := (((Below.refl _ _).alloc (Nat.le_refl _) _).alloc (by simp) _).alloc (by simp <;> omega) _
  have hs0 : w.heap.size + 1 + 1 < (((w.alloc (.cells #[.string x.fVar, c1, c2, c3] 189)).alloc (.cells #[.string ⟨#[]⟩, .int .i64 0, .string ⟨#[]⟩, .slice none 0 0] 207)).alloc (.cells #[.string x.fVar, .int .i64 0, .string ⟨#[]⟩, .slice none 0 0] 207)).heap.size := by simp
  go_enter Tryz.func118, Tryz.ntmps118
  go_wp2_with fail
  refine (toType_c x.fType (by have := Hz.out; rw [TBinding.sz_eq] at this; omega) _ K (fun b hb => Nat.lt_of_lt_of_le (hK b hb) hV0.size) _ (Rep.ext hV0 hK hType)).mono ?_
  rintro e w1 ⟨cs1, b1, rfl, o1, n1, r1, hB1⟩
  obtain ⟨d1, d2, d3, rfl⟩ := len3 ((Rep.length (K := fun _ => True) _ _ (Own.rep _ _ _ o1 (fun _ _ => trivial))).trans (TType.width _))
  have one1 := Rep.one (K := fun _ => True) _ _ (Own.rep _ _ _ o1 (fun _ _ => trivial))
  have qd1 := st_one (one1 d1 (by simp))
  have qd2 := st_one (one1 d2 (by simp))
  have qd3 := st_one (one1 d3 (by simp))
  have hb1 := hV0.trans (hB1.mono hV0.size)
  have hc1 := (bcell hB1).1
  have hf1 := (bcell hB1).2
  have hz1 : w.heap.size + 1 + 1 < w1.heap.size := Nat.lt_of_lt_of_le hs0 hB1.size
  have hy1 : w.heap.size < w1.heap.size := by omega
  have hx1 : w.heap.size + 1 < w1.heap.size := by omega
  have s1 : ∀ b ∈ b1, w.heap.size + 1 + 1 + 1 ≤ b ∧ b < w1.heap.size := by intro b hb; have := r1 b hb; simp at this; omega
  have z1 : w.heap.size + 1 + 1 + 1 ≤ w1.heap.size := by have := hB1.size; simp at this; omega
  go_wp2
  have hV := hb1 |>.setCell (p := ⟨w.heap.size + 1 + 1, 1, none⟩) (by show w.heap.size ≤ w.heap.size + 1 + 1; omega) (d1) |>.setCell (p := ⟨w.heap.size + 1 + 1, 2, none⟩) (by show w.heap.size ≤ w.heap.size + 1 + 1; omega) (d2) |>.setCell (p := ⟨w.heap.size + 1 + 1, 3, none⟩) (by show w.heap.size ≤ w.heap.size + 1 + 1; omega) (d3) |>.setCell (p := ⟨w.heap.size + 1, 0, none⟩) (by show w.heap.size ≤ w.heap.size + 1; omega) (.string x.fVar) |>.setCell (p := ⟨w.heap.size + 1, 1, none⟩) (by show w.heap.size ≤ w.heap.size + 1; omega) (d1) |>.setCell (p := ⟨w.heap.size + 1, 2, none⟩) (by show w.heap.size ≤ w.heap.size + 1; omega) (d2) |>.setCell (p := ⟨w.heap.size + 1, 3, none⟩) (by show w.heap.size ≤ w.heap.size + 1; omega) (d3)
  have u1 := (Up.refl (w.heap.size + 1 + 1) w1) |>.setCell ⟨w.heap.size + 1 + 1, 1, none⟩ (by show w.heap.size + 1 + 1 ≤ w.heap.size + 1 + 1; omega) (d1) |>.setCell ⟨w.heap.size + 1 + 1, 2, none⟩ (by show w.heap.size + 1 + 1 ≤ w.heap.size + 1 + 1; omega) (d2) |>.setCell ⟨w.heap.size + 1 + 1, 3, none⟩ (by show w.heap.size + 1 + 1 ≤ w.heap.size + 1 + 1; omega) (d3) |>.setCell ⟨w.heap.size + 1, 0, none⟩ (by show w.heap.size + 1 ≤ w.heap.size + 1 + 1; omega) (.string x.fVar) |>.setCell ⟨w.heap.size + 1, 1, none⟩ (by show w.heap.size + 1 ≤ w.heap.size + 1 + 1; omega) (d1) |>.setCell ⟨w.heap.size + 1, 2, none⟩ (by show w.heap.size + 1 ≤ w.heap.size + 1 + 1; omega) (d2) |>.setCell ⟨w.heap.size + 1, 3, none⟩ (by show w.heap.size + 1 ≤ w.heap.size + 1 + 1; omega) (d3)
  have j1 := join2 n1 s1 List.nodup_nil (b2 := []) (mid := w1.heap.size) (hi := w1.heap.size) (by simp) z1 (Nat.le_refl _)
  refine bodyPost_ret (v := .agg #[.string x.fVar, d1, d2, d3]) (by simp [results, Tryz.results118, go_sem, *]) rfl ⟨[.string x.fVar, d1, d2, d3], _, rfl, TBinding.mk_own HVar.out (u1.own o1 s1 (by omega)), j1.1, ?_, hV⟩
  intro b hb
  have := j1.2 b hb
  simp
  omega
set_option maxRecDepth 100000 in
set_option maxHeartbeats 1000000 in
theorem toBindingS_c (l : List TBinding) : ∀ (_ : szs TBinding.sz l ≤ 1048576) (w : World) (K : Nat → Prop) (_ : ∀ b, K b → b < w.heap.size) (v : Value) (_ : Rep w K (.sl (l.map TBinding.enc)) [v]),
    Calls Tryz.prog 56 #[v] w fun e w' => ∃ a cap bs, e = .returned (.slice a l.length cap) ∧ Own w' (.sl (l.map TBinding.enc)) [.slice a l.length cap] bs ∧ bs.Nodup ∧ (∀ b ∈ bs, w.heap.size ≤ b ∧ b < w'.heap.size) ∧ Below w.heap.size w w' := by
  intro hz w K hK v h
  have hlen : l.length ≤ 1048576 := by unfold szs at hz; omega
  obtain ⟨a, cap, rfl, hc, hm, -, hE⟩ := open_sl TBinding.width h
  unfold maxLen at hm
  clear h
  obtain ⟨i0, h2, hz0, hz1, hz2⟩ := info_parts zinfo207
  go_enter Tryz.func56, Tryz.ntmps56
  go_wp2_with (at_make; refine wpList_make_full _ rfl _ _ 50 rfl w.heap.size 207 i0 _ 4 Tryz.underlying50 h2 hz0 hz1 _ _ _ _ l.length rfl rfl rfl rfl (by rw [hz2]; omega) (by unfold maxLen; omega) (Nat.le_refl _) ?_)
  intro wm hown hgr
  have hB0 : Below w.heap.size w wm := (Below.refl _ _).grown hgr (Nat.le_refl _) (by simp)
  have hR : l.length = 0 ∨ RowOf wm w.heap.size 207 (l.length * 4) := (rowOf_made hown).symm
  clear hown hgr
  go_wp2
  go_loopw [4] (fun i wr => ∃ (k : Nat) (r : List Nat), k ≤ l.length ∧ i = .int .i64 k ∧ (l.length = 0 ∨ RowOf wr w.heap.size 207 (l.length * 4)) ∧ OwnE wr ((l.take k).map TBinding.enc) w.heap.size 0 r ∧ r.Nodup ∧ (∀ b ∈ r, w.heap.size + 1 ≤ b ∧ b < wr.heap.size) ∧ Below w.heap.size w wr) (fun i _ => l.length - (intOf i).toNat)
  case atStart => exact ⟨0, [], Nat.zero_le _, rfl, hR, by simp only [List.take_zero, List.map_nil, OwnE], List.nodup_nil, by simp, hB0⟩
  case round =>
    clear hR hB0
    obtain ⟨k, r, hk, rfl, hR, h1, n1, r1, hB⟩ := hrel
    by_cases hlt : k < l.length
    · obtain ⟨b, off, rfl, hKb, cs, hcs, hr⟩ := hE k hlt
      have hr' := Rep.ext hB hK hr
      have hcs' := hcs.ext hB (hK b hKb)
      have hK' : ∀ b, K b → b < wr.heap.size := fun b h => Nat.lt_of_lt_of_le (hK b h) hB.size
      have hR' : RowOf wr w.heap.size 207 (l.length * 4) := by rcases hR with h | h <;> first | omega | exact h
      have hroom : k * 4 + 4 ≤ l.length * 4 := by have := Nat.mul_le_mul_right 4 (show k + 1 ≤ l.length from hlt); rw [Nat.add_mul] at this; omega
      clear hE hcs hr hR
      have hi : (Tryz.prog.info? 189).map (·.size) = some cs.length := by rw [Rep.length _ _ hr', TBinding.width]; exact infoT189
      have hmem : l[k] ∈ l := List.getElem_mem hlt
      go_wp2_with (with_reducible refine ld rfl 189 _ rfl b _ rfl cs hcs' _ Tryz.underlying189 hi ?_)
      refine (toBinding_c l[k] (by have := szL_le TBinding.sz hmem; unfold szs at hz; omega) _ K hK' _ hr').mono ?_
      rintro e w1 ⟨cs', bs, rfl, o1, n2, r2, hB1⟩
      have hg : w.heap.size < wr.heap.size := hR'.lt
      obtain ⟨cur, hcur, hsz⟩ := hR'.below hB1 hg
      have Hcur := Lib.hid hcur
      have Hsz := Lib.hid hsz
      clear hcur hsz
      have hl' := (Rep.length (K := fun _ => True) _ _ (Own.rep _ _ _ o1 (fun _ _ => trivial))).trans (TBinding.width _)
      have hone := Rep.one (K := fun _ => True) _ _ (Own.rep _ _ _ o1 (fun _ _ => trivial))
      have hi' : (Tryz.prog.info? 207).map (·.size) = some cs'.length := by rw [hl']; exact infoT207
      have Hl' := Lib.hid hl'
      clear hl'
      go_wp2_with (with_reducible refine stA rfl 207 _ _ rfl w.heap.size (k * 4) rfl cs' rfl hi' hone cur 207 Hcur.out (by rw [Hl'.out, Hsz.out]; omega) ?_)
      intro w2 hst
      have R2 : RowOf w2 w.heap.size 207 (l.length * 4) := RowOf.stored ⟨cur, Hcur.out, Hsz.out⟩ hst
      have hrow := row_step TBinding.width hlt h1 n1 r1 hg hB1 o1 n2 r2 hst
      have hB2 := hst.below (hB.trans (hB1.mono hB.size)) (Nat.le_refl _)
      obtain ⟨h1', n1', r1'⟩ := hrow
      have A1 := Lib.hid h1'; have A2 := Lib.hid n1'; have A3 := Lib.hid r1'; have A4 := Lib.hid hB2; have A5 := Lib.hid R2
      clear h1' n1' r1' hB2 R2 h1 n1 r1 hB
      go_wp2
      go_roundw
      case rel => exact ⟨k + 1, _, hlt, by go_num, .inr A5.out, A1.out, A2.out, A3.out, A4.out⟩
      case measure => simp [intOf]; omega
    · obtain rfl : k = l.length := by omega
      rw [List.take_length] at h1
      go_wp2
      go_ret
      rcases hR with h | h
      · exact ⟨_, _, [], rfl, own_nil (List.length_eq_zero_iff.1 h) (by unfold maxLen; omega) (by simp), List.nodup_nil, by simp, hB⟩
      · obtain ⟨bs, o1, n2, r2⟩ := row_done (by unfold maxLen; omega) h h1 n1 r1
        exact ⟨_, _, bs, rfl, o1, n2, r2, hB⟩
theorem infoT110 : (Tryz.prog.info? 110).map (·.size) = some 4 := by kernel_rfl
theorem zinfo110 : (Tryz.prog.info? 110).map (fun i => (i.zero, i.size, i.bytes)) = some (some (.agg #[.string ⟨#[]⟩, .int .i64 0, .string ⟨#[]⟩, .slice none 0 0]), 4, 64) := by kernel_rfl
theorem infoT195 : (Tryz.prog.info? 195).map (·.size) = some 4 := by kernel_rfl
set_option maxRecDepth 100000 in
set_option maxHeartbeats 1000000 in
theorem toBound_c (x : TBound) : ∀ (_ : x.sz ≤ 1048576) (w : World) (K : Nat → Prop) (_ : ∀ b, K b → b < w.heap.size) (cs : List Value) (_ : Rep w K x.enc cs),
    Calls Tryz.prog 179 #[.agg cs.toArray] w fun e w' => ∃ cs' bs, e = .returned (.agg cs'.toArray) ∧ Own w' x.enc cs' bs ∧ bs.Nodup ∧ (∀ b ∈ bs, w.heap.size ≤ b ∧ b < w'.heap.size) ∧ Below w.heap.size w w' := by
  intro hz w K hK cs h
  obtain ⟨c1, c2, c3, rfl, hTrait, hType⟩ := TBound.opn h
  clear h
  have HTrait := Lib.hid hTrait; clear hTrait
  have Hz := Lib.hid hz; clear hz
  have hV0 : Below w.heap.size w (((w.alloc (.cells #[.string x.fTrait, c1, c2, c3] 195)).alloc (.cells #[.string ⟨#[]⟩, .int .i64 0, .string ⟨#[]⟩, .slice none 0 0] 110)).alloc (.cells #[.string x.fTrait, .int .i64 0, .string ⟨#[]⟩, .slice none 0 0] 110)) := (((Below.refl _ _).alloc (Nat.le_refl _) _).alloc (by simp) _).alloc (by simp <;> omega) _
  have hs0 : w.heap.size + 1 + 1 < (((w.alloc (.cells #[.string x.fTrait, c1, c2, c3] 195)).alloc (.cells #[.string ⟨#[]⟩, .int .i64 0, .string ⟨#[]⟩, .slice none 0 0] 110)).alloc (.cells #[.string x.fTrait, .int .i64 0, .string ⟨#[]⟩, .slice none 0 0] 110)).heap.size := by simp
  go_enter Tryz.func179, Tryz.ntmps179
  go_wp2_with fail
  refine (toType_c x.fType (by have := Hz.out; rw [TBound.sz_eq] at this; omega) _ K (fun b hb => Nat.lt_of_lt_of_le (hK b hb) hV0.size) _ (Rep.ext hV0 hK hType)).mono ?_
  rintro e w1 ⟨cs1, b1, rfl, o1, n1, r1, hB1⟩
  obtain ⟨d1, d2, d3, rfl⟩ := len3 ((Rep.length (K := fun _ => True) _ _ (Own.rep _ _ _ o1 (fun _ _ => trivial))).trans (TType.width _))
  have one1 := Rep.one (K := fun _ => True) _ _ (Own.rep _ _ _ o1 (fun _ _ => trivial))
  have qd1 := st_one (one1 d1 (by simp))
  have qd2 := st_one (one1 d2 (by simp))
  have qd3 := st_one (one1 d3 (by simp))
  have hb1 := hV0.trans (hB1.mono hV0.size)
  have hc1 := (bcell hB1).1
  have hf1 := (bcell hB1).2
  have hz1 : w.heap.size + 1 + 1 < w1.heap.size := Nat.lt_of_lt_of_le hs0 hB1.size
  have hy1 : w.heap.size < w1.heap.size := by omega
  have hx1 : w.heap.size + 1 < w1.heap.size := by omega
  have s1 : ∀ b ∈ b1, w.heap.size + 1 + 1 + 1 ≤ b ∧ b < w1.heap.size := by intro b hb; have := r1 b hb; simp at this; omega
  have z1 : w.heap.size + 1 + 1 + 1 ≤ w1.heap.size := by have := hB1.size; simp at this; omega
  go_wp2
  have hV := hb1 |>.setCell (p := ⟨w.heap.size + 1 + 1, 1, none⟩) (by show w.heap.size ≤ w.heap.size + 1 + 1; omega) (d1) |>.setCell (p := ⟨w.heap.size + 1 + 1, 2, none⟩) (by show w.heap.size ≤ w.heap.size + 1 + 1; omega) (d2) |>.setCell (p := ⟨w.heap.size + 1 + 1, 3, none⟩) (by show w.heap.size ≤ w.heap.size + 1 + 1; omega) (d3) |>.setCell (p := ⟨w.heap.size + 1, 0, none⟩) (by show w.heap.size ≤ w.heap.size + 1; omega) (.string x.fTrait) |>.setCell (p := ⟨w.heap.size + 1, 1, none⟩) (by show w.heap.size ≤ w.heap.size + 1; omega) (d1) |>.setCell (p := ⟨w.heap.size + 1, 2, none⟩) (by show w.heap.size ≤ w.heap.size + 1; omega) (d2) |>.setCell (p := ⟨w.heap.size + 1, 3, none⟩) (by show w.heap.size ≤ w.heap.size + 1; omega) (d3)
  have u1 := (Up.refl (w.heap.size + 1 + 1) w1) |>.setCell ⟨w.heap.size + 1 + 1, 1, none⟩ (by show w.heap.size + 1 + 1 ≤ w.heap.size + 1 + 1; omega) (d1) |>.setCell ⟨w.heap.size + 1 + 1, 2, none⟩ (by show w.heap.size + 1 + 1 ≤ w.heap.size + 1 + 1; omega) (d2) |>.setCell ⟨w.heap.size + 1 + 1, 3, none⟩ (by show w.heap.size + 1 + 1 ≤ w.heap.size + 1 + 1; omega) (d3) |>.setCell ⟨w.heap.size + 1, 0, none⟩ (by show w.heap.size + 1 ≤ w.heap.size + 1 + 1; omega) (.string x.fTrait) |>.setCell ⟨w.heap.size + 1, 1, none⟩ (by show w.heap.size + 1 ≤ w.heap.size + 1 + 1; omega) (d1) |>.setCell ⟨w.heap.size + 1, 2, none⟩ (by show w.heap.size + 1 ≤ w.heap.size + 1 + 1; omega) (d2) |>.setCell ⟨w.heap.size + 1, 3, none⟩ (by show w.heap.size + 1 ≤ w.heap.size + 1 + 1; omega) (d3)
  have j1 := join2 n1 s1 List.nodup_nil (b2 := []) (mid := w1.heap.size) (hi := w1.heap.size) (by simp) z1 (Nat.le_refl _)
  refine bodyPost_ret (v := .agg #[.string x.fTrait, d1, d2, d3]) (by simp [results, Tryz.results179, go_sem, *]) rfl ⟨[.string x.fTrait, d1, d2, d3], _, rfl, TBound.mk_own HTrait.out (u1.own o1 s1 (by omega)), j1.1, ?_, hV⟩
  intro b hb
  have := j1.2 b hb
  simp
  omega
set_option maxRecDepth 100000 in
set_option maxHeartbeats 1000000 in
theorem toBoundS_c (l : List TBound) : ∀ (_ : szs TBound.sz l ≤ 1048576) (w : World) (K : Nat → Prop) (_ : ∀ b, K b → b < w.heap.size) (v : Value) (_ : Rep w K (.sl (l.map TBound.enc)) [v]),
    Calls Tryz.prog 253 #[v] w fun e w' => ∃ a cap bs, e = .returned (.slice a l.length cap) ∧ Own w' (.sl (l.map TBound.enc)) [.slice a l.length cap] bs ∧ bs.Nodup ∧ (∀ b ∈ bs, w.heap.size ≤ b ∧ b < w'.heap.size) ∧ Below w.heap.size w w' := by
  intro hz w K hK v h
  have hlen : l.length ≤ 1048576 := by unfold szs at hz; omega
  obtain ⟨a, cap, rfl, hc, hm, -, hE⟩ := open_sl TBound.width h
  unfold maxLen at hm
  clear h
  obtain ⟨i0, h2, hz0, hz1, hz2⟩ := info_parts zinfo110
  go_enter Tryz.func253, Tryz.ntmps253
  go_wp2_with (at_make; refine wpList_make_full _ rfl _ _ 130 rfl w.heap.size 110 i0 _ 4 Tryz.underlying130 h2 hz0 hz1 _ _ _ _ l.length rfl rfl rfl rfl (by rw [hz2]; omega) (by unfold maxLen; omega) (Nat.le_refl _) ?_)
  intro wm hown hgr
  have hB0 : Below w.heap.size w wm := (Below.refl _ _).grown hgr (Nat.le_refl _) (by simp)
  have hR : l.length = 0 ∨ RowOf wm w.heap.size 110 (l.length * 4) := (rowOf_made hown).symm
  clear hown hgr
  go_wp2
  go_loopw [4] (fun i wr => ∃ (k : Nat) (r : List Nat), k ≤ l.length ∧ i = .int .i64 k ∧ (l.length = 0 ∨ RowOf wr w.heap.size 110 (l.length * 4)) ∧ OwnE wr ((l.take k).map TBound.enc) w.heap.size 0 r ∧ r.Nodup ∧ (∀ b ∈ r, w.heap.size + 1 ≤ b ∧ b < wr.heap.size) ∧ Below w.heap.size w wr) (fun i _ => l.length - (intOf i).toNat)
  case atStart => exact ⟨0, [], Nat.zero_le _, rfl, hR, by simp only [List.take_zero, List.map_nil, OwnE], List.nodup_nil, by simp, hB0⟩
  case round =>
    clear hR hB0
    obtain ⟨k, r, hk, rfl, hR, h1, n1, r1, hB⟩ := hrel
    by_cases hlt : k < l.length
    · obtain ⟨b, off, rfl, hKb, cs, hcs, hr⟩ := hE k hlt
      have hr' := Rep.ext hB hK hr
      have hcs' := hcs.ext hB (hK b hKb)
      have hK' : ∀ b, K b → b < wr.heap.size := fun b h => Nat.lt_of_lt_of_le (hK b h) hB.size
      have hR' : RowOf wr w.heap.size 110 (l.length * 4) := by rcases hR with h | h <;> first | omega | exact h
      have hroom : k * 4 + 4 ≤ l.length * 4 := by have := Nat.mul_le_mul_right 4 (show k + 1 ≤ l.length from hlt); rw [Nat.add_mul] at this; omega
      clear hE hcs hr hR
      have hi : (Tryz.prog.info? 195).map (·.size) = some cs.length := by rw [Rep.length _ _ hr', TBound.width]; exact infoT195
      have hmem : l[k] ∈ l := List.getElem_mem hlt
      go_wp2_with (with_reducible refine ld rfl 195 _ rfl b _ rfl cs hcs' _ Tryz.underlying195 hi ?_)
      refine (toBound_c l[k] (by have := szL_le TBound.sz hmem; unfold szs at hz; omega) _ K hK' _ hr').mono ?_
      rintro e w1 ⟨cs', bs, rfl, o1, n2, r2, hB1⟩
      have hg : w.heap.size < wr.heap.size := hR'.lt
      obtain ⟨cur, hcur, hsz⟩ := hR'.below hB1 hg
      have Hcur := Lib.hid hcur
      have Hsz := Lib.hid hsz
      clear hcur hsz
      have hl' := (Rep.length (K := fun _ => True) _ _ (Own.rep _ _ _ o1 (fun _ _ => trivial))).trans (TBound.width _)
      have hone := Rep.one (K := fun _ => True) _ _ (Own.rep _ _ _ o1 (fun _ _ => trivial))
      have hi' : (Tryz.prog.info? 110).map (·.size) = some cs'.length := by rw [hl']; exact infoT110
      have Hl' := Lib.hid hl'
      clear hl'
      go_wp2_with (with_reducible refine stA rfl 110 _ _ rfl w.heap.size (k * 4) rfl cs' rfl hi' hone cur 110 Hcur.out (by rw [Hl'.out, Hsz.out]; omega) ?_)
      intro w2 hst
      have R2 : RowOf w2 w.heap.size 110 (l.length * 4) := RowOf.stored ⟨cur, Hcur.out, Hsz.out⟩ hst
      have hrow := row_step TBound.width hlt h1 n1 r1 hg hB1 o1 n2 r2 hst
      have hB2 := hst.below (hB.trans (hB1.mono hB.size)) (Nat.le_refl _)
      obtain ⟨h1', n1', r1'⟩ := hrow
      have A1 := Lib.hid h1'; have A2 := Lib.hid n1'; have A3 := Lib.hid r1'; have A4 := Lib.hid hB2; have A5 := Lib.hid R2
      clear h1' n1' r1' hB2 R2 h1 n1 r1 hB
      go_wp2
      go_roundw
      case rel => exact ⟨k + 1, _, hlt, by go_num, .inr A5.out, A1.out, A2.out, A3.out, A4.out⟩
      case measure => simp [intOf]; omega
    · obtain rfl : k = l.length := by omega
      rw [List.take_length] at h1
      go_wp2
      go_ret
      rcases hR with h | h
      · exact ⟨_, _, [], rfl, own_nil (List.length_eq_zero_iff.1 h) (by unfold maxLen; omega) (by simp), List.nodup_nil, by simp, hB⟩
      · obtain ⟨bs, o1, n2, r2⟩ := row_done (by unfold maxLen; omega) h h1 n1 r1
        exact ⟨_, _, bs, rfl, o1, n2, r2, hB⟩
theorem infoT107 : (Tryz.prog.info? 107).map (·.size) = some 7 := by kernel_rfl
theorem zinfo107 : (Tryz.prog.info? 107).map (fun i => (i.zero, i.size, i.bytes)) = some (some (.agg #[.int .i64 0, .string ⟨#[]⟩, .slice none 0 0, .int .i64 0, .string ⟨#[]⟩, .slice none 0 0, .int .i64 0]), 7, 104) := by kernel_rfl
theorem infoT192 : (Tryz.prog.info? 192).map (·.size) = some 7 := by kernel_rfl
set_option maxRecDepth 100000 in
set_option maxHeartbeats 1000000 in
theorem toEquation_c (x : TEquation) : ∀ (_ : x.sz ≤ 1048576) (w : World) (K : Nat → Prop) (_ : ∀ b, K b → b < w.heap.size) (cs : List Value) (_ : Rep w K x.enc cs),
    Calls Tryz.prog 119 #[.agg cs.toArray] w fun e w' => ∃ cs' bs, e = .returned (.agg cs'.toArray) ∧ Own w' x.enc cs' bs ∧ bs.Nodup ∧ (∀ b ∈ bs, w.heap.size ≤ b ∧ b < w'.heap.size) ∧ Below w.heap.size w w' := by
  intro hz w K hK cs h
  obtain ⟨c0, c1, c2, c3, c4, c5, rfl, hA, hB, hNode⟩ := TEquation.opn h
  clear h
  have HNode := Lib.hid hNode; clear hNode
  have Hz := Lib.hid hz; clear hz
  have hV0 : Below w.heap.size w (((w.alloc (.cells #[c0, c1, c2, c3, c4, c5, .int .i64 x.fNode] 192)).alloc (.cells #[.int .i64 0, .string ⟨#[]⟩, .slice none 0 0, .int .i64 0, .string ⟨#[]⟩, .slice none 0 0, .int .i64 0] 107)).alloc (.cells #[.int .i64 0, .string ⟨#[]⟩, .slice none 0 0, .int .i64 0, .string ⟨#[]⟩, .slice none 0 0, .int .i64 0] 107)) := (((Below.refl _ _).alloc (Nat.le_refl _) _).alloc (by simp) _).alloc (by simp <;> omega) _
  have hs0 : w.heap.size + 1 + 1 < (((w.alloc (.cells #[c0, c1, c2, c3, c4, c5, .int .i64 x.fNode] 192)).alloc (.cells #[.int .i64 0, .string ⟨#[]⟩, .slice none 0 0, .int .i64 0, .string ⟨#[]⟩, .slice none 0 0, .int .i64 0] 107)).alloc (.cells #[.int .i64 0, .string ⟨#[]⟩, .slice none 0 0, .int .i64 0, .string ⟨#[]⟩, .slice none 0 0, .int .i64 0] 107)).heap.size := by simp
  go_enter Tryz.func119, Tryz.ntmps119
  go_wp2_with fail
  refine (toType_c x.fA (by have := Hz.out; rw [TEquation.sz_eq] at this; omega) _ K (fun b hb => Nat.lt_of_lt_of_le (hK b hb) hV0.size) _ (Rep.ext hV0 hK hA)).mono ?_
  rintro e w1 ⟨cs1, b1, rfl, o1, n1, r1, hB1⟩
  obtain ⟨d0, d1, d2, rfl⟩ := len3 ((Rep.length (K := fun _ => True) _ _ (Own.rep _ _ _ o1 (fun _ _ => trivial))).trans (TType.width _))
  have one1 := Rep.one (K := fun _ => True) _ _ (Own.rep _ _ _ o1 (fun _ _ => trivial))
  have qd0 := st_one (one1 d0 (by simp))
  have qd1 := st_one (one1 d1 (by simp))
  have qd2 := st_one (one1 d2 (by simp))
  have hb1 := hV0.trans (hB1.mono hV0.size)
  have hc1 := (bcell hB1).1
  have hf1 := (bcell hB1).2
  have hz1 : w.heap.size + 1 + 1 < w1.heap.size := Nat.lt_of_lt_of_le hs0 hB1.size
  have hy1 : w.heap.size < w1.heap.size := by omega
  have hx1 : w.heap.size + 1 < w1.heap.size := by omega
  have s1 : ∀ b ∈ b1, w.heap.size + 1 + 1 + 1 ≤ b ∧ b < w1.heap.size := by intro b hb; have := r1 b hb; simp at this; omega
  have z1 : w.heap.size + 1 + 1 + 1 ≤ w1.heap.size := by have := hB1.size; simp at this; omega
  have hV1 := hb1 |>.setCell (p := ⟨w.heap.size + 1 + 1, 0, none⟩) (by show w.heap.size ≤ w.heap.size + 1 + 1; omega) (d0) |>.setCell (p := ⟨w.heap.size + 1 + 1, 1, none⟩) (by show w.heap.size ≤ w.heap.size + 1 + 1; omega) (d1) |>.setCell (p := ⟨w.heap.size + 1 + 1, 2, none⟩) (by show w.heap.size ≤ w.heap.size + 1 + 1; omega) (d2)
  have hs1 : w.heap.size + 1 + 1 < _ := Nat.lt_of_lt_of_le hz1 ((Up.refl (w.heap.size + 1 + 1) w1) |>.setCell ⟨w.heap.size + 1 + 1, 0, none⟩ (Nat.le_refl _) (d0) |>.setCell ⟨w.heap.size + 1 + 1, 1, none⟩ (Nat.le_refl _) (d1) |>.setCell ⟨w.heap.size + 1 + 1, 2, none⟩ (Nat.le_refl _) (d2)).size
  have u1 := (Up.refl (w.heap.size + 1 + 1) w1) |>.setCell ⟨w.heap.size + 1 + 1, 0, none⟩ (Nat.le_refl _) (d0) |>.setCell ⟨w.heap.size + 1 + 1, 1, none⟩ (Nat.le_refl _) (d1) |>.setCell ⟨w.heap.size + 1 + 1, 2, none⟩ (Nat.le_refl _) (d2)
  go_wp2_with fail
  refine (toType_c x.fB (by have := Hz.out; rw [TEquation.sz_eq] at this; omega) _ K (fun b hb => Nat.lt_of_lt_of_le (hK b hb) hV1.size) _ (Rep.ext hV1 hK hB)).mono ?_
  rintro e w2 ⟨cs2, b2, rfl, o2, n2, r2, hB2⟩
  obtain ⟨d3, d4, d5, rfl⟩ := len3 ((Rep.length (K := fun _ => True) _ _ (Own.rep _ _ _ o2 (fun _ _ => trivial))).trans (TType.width _))
  have one2 := Rep.one (K := fun _ => True) _ _ (Own.rep _ _ _ o2 (fun _ _ => trivial))
  have qd3 := st_one (one2 d3 (by simp))
  have qd4 := st_one (one2 d4 (by simp))
  have qd5 := st_one (one2 d5 (by simp))
  have hb2 := hV1.trans (hB2.mono hV1.size)
  have hc2 := (bcell hB2).1
  have hf2 := (bcell hB2).2
  have hz2 : w.heap.size + 1 + 1 < w2.heap.size := Nat.lt_of_lt_of_le hs1 hB2.size
  have hy2 : w.heap.size < w2.heap.size := by omega
  have hx2 : w.heap.size + 1 < w2.heap.size := by omega
  have s2 : ∀ b ∈ b2, w1.heap.size ≤ b ∧ b < w2.heap.size := by intro b hb; have := r2 b hb; simp at this; omega
  have z2 : w1.heap.size ≤ w2.heap.size := by have := hB2.size; simp at this; omega
  have u1 := u1.below hB2
  go_wp2
  have hV := hb2 |>.setCell (p := ⟨w.heap.size + 1 + 1, 3, none⟩) (by show w.heap.size ≤ w.heap.size + 1 + 1; omega) (d3) |>.setCell (p := ⟨w.heap.size + 1 + 1, 4, none⟩) (by show w.heap.size ≤ w.heap.size + 1 + 1; omega) (d4) |>.setCell (p := ⟨w.heap.size + 1 + 1, 5, none⟩) (by show w.heap.size ≤ w.heap.size + 1 + 1; omega) (d5) |>.setCell (p := ⟨w.heap.size + 1 + 1, 6, none⟩) (by show w.heap.size ≤ w.heap.size + 1 + 1; omega) (.int .i64 x.fNode) |>.setCell (p := ⟨w.heap.size + 1, 0, none⟩) (by show w.heap.size ≤ w.heap.size + 1; omega) (d0) |>.setCell (p := ⟨w.heap.size + 1, 1, none⟩) (by show w.heap.size ≤ w.heap.size + 1; omega) (d1) |>.setCell (p := ⟨w.heap.size + 1, 2, none⟩) (by show w.heap.size ≤ w.heap.size + 1; omega) (d2) |>.setCell (p := ⟨w.heap.size + 1, 3, none⟩) (by show w.heap.size ≤ w.heap.size + 1; omega) (d3) |>.setCell (p := ⟨w.heap.size + 1, 4, none⟩) (by show w.heap.size ≤ w.heap.size + 1; omega) (d4) |>.setCell (p := ⟨w.heap.size + 1, 5, none⟩) (by show w.heap.size ≤ w.heap.size + 1; omega) (d5) |>.setCell (p := ⟨w.heap.size + 1, 6, none⟩) (by show w.heap.size ≤ w.heap.size + 1; omega) (.int .i64 x.fNode)
  have u1 := u1 |>.setCell ⟨w.heap.size + 1 + 1, 3, none⟩ (by show w.heap.size + 1 + 1 ≤ w.heap.size + 1 + 1; omega) (d3) |>.setCell ⟨w.heap.size + 1 + 1, 4, none⟩ (by show w.heap.size + 1 + 1 ≤ w.heap.size + 1 + 1; omega) (d4) |>.setCell ⟨w.heap.size + 1 + 1, 5, none⟩ (by show w.heap.size + 1 + 1 ≤ w.heap.size + 1 + 1; omega) (d5) |>.setCell ⟨w.heap.size + 1 + 1, 6, none⟩ (by show w.heap.size + 1 + 1 ≤ w.heap.size + 1 + 1; omega) (.int .i64 x.fNode) |>.setCell ⟨w.heap.size + 1, 0, none⟩ (by show w.heap.size + 1 ≤ w.heap.size + 1 + 1; omega) (d0) |>.setCell ⟨w.heap.size + 1, 1, none⟩ (by show w.heap.size + 1 ≤ w.heap.size + 1 + 1; omega) (d1) |>.setCell ⟨w.heap.size + 1, 2, none⟩ (by show w.heap.size + 1 ≤ w.heap.size + 1 + 1; omega) (d2) |>.setCell ⟨w.heap.size + 1, 3, none⟩ (by show w.heap.size + 1 ≤ w.heap.size + 1 + 1; omega) (d3) |>.setCell ⟨w.heap.size + 1, 4, none⟩ (by show w.heap.size + 1 ≤ w.heap.size + 1 + 1; omega) (d4) |>.setCell ⟨w.heap.size + 1, 5, none⟩ (by show w.heap.size + 1 ≤ w.heap.size + 1 + 1; omega) (d5) |>.setCell ⟨w.heap.size + 1, 6, none⟩ (by show w.heap.size + 1 ≤ w.heap.size + 1 + 1; omega) (.int .i64 x.fNode)
  have u2 := (Up.refl (w.heap.size + 1 + 1) w2) |>.setCell ⟨w.heap.size + 1 + 1, 3, none⟩ (by show w.heap.size + 1 + 1 ≤ w.heap.size + 1 + 1; omega) (d3) |>.setCell ⟨w.heap.size + 1 + 1, 4, none⟩ (by show w.heap.size + 1 + 1 ≤ w.heap.size + 1 + 1; omega) (d4) |>.setCell ⟨w.heap.size + 1 + 1, 5, none⟩ (by show w.heap.size + 1 + 1 ≤ w.heap.size + 1 + 1; omega) (d5) |>.setCell ⟨w.heap.size + 1 + 1, 6, none⟩ (by show w.heap.size + 1 + 1 ≤ w.heap.size + 1 + 1; omega) (.int .i64 x.fNode) |>.setCell ⟨w.heap.size + 1, 0, none⟩ (by show w.heap.size + 1 ≤ w.heap.size + 1 + 1; omega) (d0) |>.setCell ⟨w.heap.size + 1, 1, none⟩ (by show w.heap.size + 1 ≤ w.heap.size + 1 + 1; omega) (d1) |>.setCell ⟨w.heap.size + 1, 2, none⟩ (by show w.heap.size + 1 ≤ w.heap.size + 1 + 1; omega) (d2) |>.setCell ⟨w.heap.size + 1, 3, none⟩ (by show w.heap.size + 1 ≤ w.heap.size + 1 + 1; omega) (d3) |>.setCell ⟨w.heap.size + 1, 4, none⟩ (by show w.heap.size + 1 ≤ w.heap.size + 1 + 1; omega) (d4) |>.setCell ⟨w.heap.size + 1, 5, none⟩ (by show w.heap.size + 1 ≤ w.heap.size + 1 + 1; omega) (d5) |>.setCell ⟨w.heap.size + 1, 6, none⟩ (by show w.heap.size + 1 ≤ w.heap.size + 1 + 1; omega) (.int .i64 x.fNode)
  have j2 := join2 n2 s2 List.nodup_nil (b2 := []) (mid := w2.heap.size) (hi := w2.heap.size) (by simp) z2 (Nat.le_refl _)
  have j1 := join2 n1 s1 j2.1 j2.2 z1 (by omega)
  refine bodyPost_ret (v := .agg #[d0, d1, d2, d3, d4, d5, .int .i64 x.fNode]) (by simp [results, Tryz.results119, go_sem, *]) rfl ⟨[d0, d1, d2, d3, d4, d5, .int .i64 x.fNode], _, rfl, TEquation.mk_own (u1.own o1 s1 (by omega)) (u2.own o2 s2 (by omega)) HNode.out, j1.1, ?_, hV⟩
  intro b hb
  have := j1.2 b hb
  simp
  omega
set_option maxRecDepth 100000 in
set_option maxHeartbeats 1000000 in
theorem toEquationS_c (l : List TEquation) : ∀ (_ : szs TEquation.sz l ≤ 1048576) (w : World) (K : Nat → Prop) (_ : ∀ b, K b → b < w.heap.size) (v : Value) (_ : Rep w K (.sl (l.map TEquation.enc)) [v]),
    Calls Tryz.prog 57 #[v] w fun e w' => ∃ a cap bs, e = .returned (.slice a l.length cap) ∧ Own w' (.sl (l.map TEquation.enc)) [.slice a l.length cap] bs ∧ bs.Nodup ∧ (∀ b ∈ bs, w.heap.size ≤ b ∧ b < w'.heap.size) ∧ Below w.heap.size w w' := by
  intro hz w K hK v h
  have hlen : l.length ≤ 1048576 := by unfold szs at hz; omega
  obtain ⟨a, cap, rfl, hc, hm, -, hE⟩ := open_sl TEquation.width h
  unfold maxLen at hm
  clear h
  obtain ⟨i0, h2, hz0, hz1, hz2⟩ := info_parts zinfo107
  go_enter Tryz.func57, Tryz.ntmps57
  go_wp2_with (at_make; refine wpList_make_full _ rfl _ _ 51 rfl w.heap.size 107 i0 _ 7 Tryz.underlying51 h2 hz0 hz1 _ _ _ _ l.length rfl rfl rfl rfl (by rw [hz2]; omega) (by unfold maxLen; omega) (Nat.le_refl _) ?_)
  intro wm hown hgr
  have hB0 : Below w.heap.size w wm := (Below.refl _ _).grown hgr (Nat.le_refl _) (by simp)
  have hR : l.length = 0 ∨ RowOf wm w.heap.size 107 (l.length * 7) := (rowOf_made hown).symm
  clear hown hgr
  go_wp2
  go_loopw [4] (fun i wr => ∃ (k : Nat) (r : List Nat), k ≤ l.length ∧ i = .int .i64 k ∧ (l.length = 0 ∨ RowOf wr w.heap.size 107 (l.length * 7)) ∧ OwnE wr ((l.take k).map TEquation.enc) w.heap.size 0 r ∧ r.Nodup ∧ (∀ b ∈ r, w.heap.size + 1 ≤ b ∧ b < wr.heap.size) ∧ Below w.heap.size w wr) (fun i _ => l.length - (intOf i).toNat)
  case atStart => exact ⟨0, [], Nat.zero_le _, rfl, hR, by simp only [List.take_zero, List.map_nil, OwnE], List.nodup_nil, by simp, hB0⟩
  case round =>
    clear hR hB0
    obtain ⟨k, r, hk, rfl, hR, h1, n1, r1, hB⟩ := hrel
    by_cases hlt : k < l.length
    · obtain ⟨b, off, rfl, hKb, cs, hcs, hr⟩ := hE k hlt
      have hr' := Rep.ext hB hK hr
      have hcs' := hcs.ext hB (hK b hKb)
      have hK' : ∀ b, K b → b < wr.heap.size := fun b h => Nat.lt_of_lt_of_le (hK b h) hB.size
      have hR' : RowOf wr w.heap.size 107 (l.length * 7) := by rcases hR with h | h <;> first | omega | exact h
      have hroom : k * 7 + 7 ≤ l.length * 7 := by have := Nat.mul_le_mul_right 7 (show k + 1 ≤ l.length from hlt); rw [Nat.add_mul] at this; omega
      clear hE hcs hr hR
      have hi : (Tryz.prog.info? 192).map (·.size) = some cs.length := by rw [Rep.length _ _ hr', TEquation.width]; exact infoT192
      have hmem : l[k] ∈ l := List.getElem_mem hlt
      go_wp2_with (with_reducible refine ld rfl 192 _ rfl b _ rfl cs hcs' _ Tryz.underlying192 hi ?_)
      refine (toEquation_c l[k] (by have := szL_le TEquation.sz hmem; unfold szs at hz; omega) _ K hK' _ hr').mono ?_
      rintro e w1 ⟨cs', bs, rfl, o1, n2, r2, hB1⟩
      have hg : w.heap.size < wr.heap.size := hR'.lt
      obtain ⟨cur, hcur, hsz⟩ := hR'.below hB1 hg
      have Hcur := Lib.hid hcur
      have Hsz := Lib.hid hsz
      clear hcur hsz
      have hl' := (Rep.length (K := fun _ => True) _ _ (Own.rep _ _ _ o1 (fun _ _ => trivial))).trans (TEquation.width _)
      have hone := Rep.one (K := fun _ => True) _ _ (Own.rep _ _ _ o1 (fun _ _ => trivial))
      have hi' : (Tryz.prog.info? 107).map (·.size) = some cs'.length := by rw [hl']; exact infoT107
      have Hl' := Lib.hid hl'
      clear hl'
      go_wp2_with (with_reducible refine stA rfl 107 _ _ rfl w.heap.size (k * 7) rfl cs' rfl hi' hone cur 107 Hcur.out (by rw [Hl'.out, Hsz.out]; omega) ?_)
      intro w2 hst
      have R2 : RowOf w2 w.heap.size 107 (l.length * 7) := RowOf.stored ⟨cur, Hcur.out, Hsz.out⟩ hst
      have hrow := row_step TEquation.width hlt h1 n1 r1 hg hB1 o1 n2 r2 hst
      have hB2 := hst.below (hB.trans (hB1.mono hB.size)) (Nat.le_refl _)
      obtain ⟨h1', n1', r1'⟩ := hrow
      have A1 := Lib.hid h1'; have A2 := Lib.hid n1'; have A3 := Lib.hid r1'; have A4 := Lib.hid hB2; have A5 := Lib.hid R2
      clear h1' n1' r1' hB2 R2 h1 n1 r1 hB
      go_wp2
      go_roundw
      case rel => exact ⟨k + 1, _, hlt, by go_num, .inr A5.out, A1.out, A2.out, A3.out, A4.out⟩
      case measure => simp [intOf]; omega
    · obtain rfl : k = l.length := by omega
      rw [List.take_length] at h1
      go_wp2
      go_ret
      rcases hR with h | h
      · exact ⟨_, _, [], rfl, own_nil (List.length_eq_zero_iff.1 h) (by unfold maxLen; omega) (by simp), List.nodup_nil, by simp, hB⟩
      · obtain ⟨bs, o1, n2, r2⟩ := row_done (by unfold maxLen; omega) h h1 n1 r1
        exact ⟨_, _, bs, rfl, o1, n2, r2, hB⟩
theorem infoT112 : (Tryz.prog.info? 112).map (·.size) = some 5 := by kernel_rfl
theorem zinfo112 : (Tryz.prog.info? 112).map (fun i => (i.zero, i.size, i.bytes)) = some (some (.agg #[.string ⟨#[]⟩, .int .i64 0, .string ⟨#[]⟩, .slice none 0 0, .int .i64 0]), 5, 72) := by kernel_rfl
theorem infoT197 : (Tryz.prog.info? 197).map (·.size) = some 5 := by kernel_rfl
set_option maxRecDepth 100000 in
set_option maxHeartbeats 1000000 in
theorem toObligation_c (x : TObligation) : ∀ (_ : x.sz ≤ 1048576) (w : World) (K : Nat → Prop) (_ : ∀ b, K b → b < w.heap.size) (cs : List Value) (_ : Rep w K x.enc cs),
    Calls Tryz.prog 120 #[.agg cs.toArray] w fun e w' => ∃ cs' bs, e = .returned (.agg cs'.toArray) ∧ Own w' x.enc cs' bs ∧ bs.Nodup ∧ (∀ b ∈ bs, w.heap.size ≤ b ∧ b < w'.heap.size) ∧ Below w.heap.size w w' := by
  intro hz w K hK cs h
  obtain ⟨c0, c1, c2, c3, rfl, hGoal, hNode⟩ := TObligation.opn h
  clear h
  have HNode := Lib.hid hNode; clear hNode
  have Hz := Lib.hid hz; clear hz
  have hV0 : Below w.heap.size w (((w.alloc (.cells #[c0, c1, c2, c3, .int .i64 x.fNode] 197)).alloc (.cells #[.string ⟨#[]⟩, .int .i64 0, .string ⟨#[]⟩, .slice none 0 0, .int .i64 0] 112)).alloc (.cells #[.string ⟨#[]⟩, .int .i64 0, .string ⟨#[]⟩, .slice none 0 0, .int .i64 0] 112)) := (((Below.refl _ _).alloc (Nat.le_refl _) _).alloc (by simp) _).alloc (by simp <;> omega) _
  have hs0 : w.heap.size + 1 + 1 < (((w.alloc (.cells #[c0, c1, c2, c3, .int .i64 x.fNode] 197)).alloc (.cells #[.string ⟨#[]⟩, .int .i64 0, .string ⟨#[]⟩, .slice none 0 0, .int .i64 0] 112)).alloc (.cells #[.string ⟨#[]⟩, .int .i64 0, .string ⟨#[]⟩, .slice none 0 0, .int .i64 0] 112)).heap.size := by simp
  go_enter Tryz.func120, Tryz.ntmps120
  go_wp2_with fail
  refine (toBound_c x.fGoal (by have := Hz.out; rw [TObligation.sz_eq] at this; omega) _ K (fun b hb => Nat.lt_of_lt_of_le (hK b hb) hV0.size) _ (Rep.ext hV0 hK hGoal)).mono ?_
  rintro e w1 ⟨cs1, b1, rfl, o1, n1, r1, hB1⟩
  obtain ⟨d0, d1, d2, d3, rfl⟩ := len4 ((Rep.length (K := fun _ => True) _ _ (Own.rep _ _ _ o1 (fun _ _ => trivial))).trans (TBound.width _))
  have one1 := Rep.one (K := fun _ => True) _ _ (Own.rep _ _ _ o1 (fun _ _ => trivial))
  have qd0 := st_one (one1 d0 (by simp))
  have qd1 := st_one (one1 d1 (by simp))
  have qd2 := st_one (one1 d2 (by simp))
  have qd3 := st_one (one1 d3 (by simp))
  have hb1 := hV0.trans (hB1.mono hV0.size)
  have hc1 := (bcell hB1).1
  have hf1 := (bcell hB1).2
  have hz1 : w.heap.size + 1 + 1 < w1.heap.size := Nat.lt_of_lt_of_le hs0 hB1.size
  have hy1 : w.heap.size < w1.heap.size := by omega
  have hx1 : w.heap.size + 1 < w1.heap.size := by omega
  have s1 : ∀ b ∈ b1, w.heap.size + 1 + 1 + 1 ≤ b ∧ b < w1.heap.size := by intro b hb; have := r1 b hb; simp at this; omega
  have z1 : w.heap.size + 1 + 1 + 1 ≤ w1.heap.size := by have := hB1.size; simp at this; omega
  go_wp2
  have hV := hb1 |>.setCell (p := ⟨w.heap.size + 1 + 1, 0, none⟩) (by show w.heap.size ≤ w.heap.size + 1 + 1; omega) (d0) |>.setCell (p := ⟨w.heap.size + 1 + 1, 1, none⟩) (by show w.heap.size ≤ w.heap.size + 1 + 1; omega) (d1) |>.setCell (p := ⟨w.heap.size + 1 + 1, 2, none⟩) (by show w.heap.size ≤ w.heap.size + 1 + 1; omega) (d2) |>.setCell (p := ⟨w.heap.size + 1 + 1, 3, none⟩) (by show w.heap.size ≤ w.heap.size + 1 + 1; omega) (d3) |>.setCell (p := ⟨w.heap.size + 1 + 1, 4, none⟩) (by show w.heap.size ≤ w.heap.size + 1 + 1; omega) (.int .i64 x.fNode) |>.setCell (p := ⟨w.heap.size + 1, 0, none⟩) (by show w.heap.size ≤ w.heap.size + 1; omega) (d0) |>.setCell (p := ⟨w.heap.size + 1, 1, none⟩) (by show w.heap.size ≤ w.heap.size + 1; omega) (d1) |>.setCell (p := ⟨w.heap.size + 1, 2, none⟩) (by show w.heap.size ≤ w.heap.size + 1; omega) (d2) |>.setCell (p := ⟨w.heap.size + 1, 3, none⟩) (by show w.heap.size ≤ w.heap.size + 1; omega) (d3) |>.setCell (p := ⟨w.heap.size + 1, 4, none⟩) (by show w.heap.size ≤ w.heap.size + 1; omega) (.int .i64 x.fNode)
  have u1 := (Up.refl (w.heap.size + 1 + 1) w1) |>.setCell ⟨w.heap.size + 1 + 1, 0, none⟩ (by show w.heap.size + 1 + 1 ≤ w.heap.size + 1 + 1; omega) (d0) |>.setCell ⟨w.heap.size + 1 + 1, 1, none⟩ (by show w.heap.size + 1 + 1 ≤ w.heap.size + 1 + 1; omega) (d1) |>.setCell ⟨w.heap.size + 1 + 1, 2, none⟩ (by show w.heap.size + 1 + 1 ≤ w.heap.size + 1 + 1; omega) (d2) |>.setCell ⟨w.heap.size + 1 + 1, 3, none⟩ (by show w.heap.size + 1 + 1 ≤ w.heap.size + 1 + 1; omega) (d3) |>.setCell ⟨w.heap.size + 1 + 1, 4, none⟩ (by show w.heap.size + 1 + 1 ≤ w.heap.size + 1 + 1; omega) (.int .i64 x.fNode) |>.setCell ⟨w.heap.size + 1, 0, none⟩ (by show w.heap.size + 1 ≤ w.heap.size + 1 + 1; omega) (d0) |>.setCell ⟨w.heap.size + 1, 1, none⟩ (by show w.heap.size + 1 ≤ w.heap.size + 1 + 1; omega) (d1) |>.setCell ⟨w.heap.size + 1, 2, none⟩ (by show w.heap.size + 1 ≤ w.heap.size + 1 + 1; omega) (d2) |>.setCell ⟨w.heap.size + 1, 3, none⟩ (by show w.heap.size + 1 ≤ w.heap.size + 1 + 1; omega) (d3) |>.setCell ⟨w.heap.size + 1, 4, none⟩ (by show w.heap.size + 1 ≤ w.heap.size + 1 + 1; omega) (.int .i64 x.fNode)
  have j1 := join2 n1 s1 List.nodup_nil (b2 := []) (mid := w1.heap.size) (hi := w1.heap.size) (by simp) z1 (Nat.le_refl _)
  refine bodyPost_ret (v := .agg #[d0, d1, d2, d3, .int .i64 x.fNode]) (by simp [results, Tryz.results120, go_sem, *]) rfl ⟨[d0, d1, d2, d3, .int .i64 x.fNode], _, rfl, TObligation.mk_own (u1.own o1 s1 (by omega)) HNode.out, j1.1, ?_, hV⟩
  intro b hb
  have := j1.2 b hb
  simp
  omega
set_option maxRecDepth 100000 in
set_option maxHeartbeats 1000000 in
theorem toObligationS_c (l : List TObligation) : ∀ (_ : szs TObligation.sz l ≤ 1048576) (w : World) (K : Nat → Prop) (_ : ∀ b, K b → b < w.heap.size) (v : Value) (_ : Rep w K (.sl (l.map TObligation.enc)) [v]),
    Calls Tryz.prog 58 #[v] w fun e w' => ∃ a cap bs, e = .returned (.slice a l.length cap) ∧ Own w' (.sl (l.map TObligation.enc)) [.slice a l.length cap] bs ∧ bs.Nodup ∧ (∀ b ∈ bs, w.heap.size ≤ b ∧ b < w'.heap.size) ∧ Below w.heap.size w w' := by
  intro hz w K hK v h
  have hlen : l.length ≤ 1048576 := by unfold szs at hz; omega
  obtain ⟨a, cap, rfl, hc, hm, -, hE⟩ := open_sl TObligation.width h
  unfold maxLen at hm
  clear h
  obtain ⟨i0, h2, hz0, hz1, hz2⟩ := info_parts zinfo112
  go_enter Tryz.func58, Tryz.ntmps58
  go_wp2_with (at_make; refine wpList_make_full _ rfl _ _ 52 rfl w.heap.size 112 i0 _ 5 Tryz.underlying52 h2 hz0 hz1 _ _ _ _ l.length rfl rfl rfl rfl (by rw [hz2]; omega) (by unfold maxLen; omega) (Nat.le_refl _) ?_)
  intro wm hown hgr
  have hB0 : Below w.heap.size w wm := (Below.refl _ _).grown hgr (Nat.le_refl _) (by simp)
  have hR : l.length = 0 ∨ RowOf wm w.heap.size 112 (l.length * 5) := (rowOf_made hown).symm
  clear hown hgr
  go_wp2
  go_loopw [4] (fun i wr => ∃ (k : Nat) (r : List Nat), k ≤ l.length ∧ i = .int .i64 k ∧ (l.length = 0 ∨ RowOf wr w.heap.size 112 (l.length * 5)) ∧ OwnE wr ((l.take k).map TObligation.enc) w.heap.size 0 r ∧ r.Nodup ∧ (∀ b ∈ r, w.heap.size + 1 ≤ b ∧ b < wr.heap.size) ∧ Below w.heap.size w wr) (fun i _ => l.length - (intOf i).toNat)
  case atStart => exact ⟨0, [], Nat.zero_le _, rfl, hR, by simp only [List.take_zero, List.map_nil, OwnE], List.nodup_nil, by simp, hB0⟩
  case round =>
    clear hR hB0
    obtain ⟨k, r, hk, rfl, hR, h1, n1, r1, hB⟩ := hrel
    by_cases hlt : k < l.length
    · obtain ⟨b, off, rfl, hKb, cs, hcs, hr⟩ := hE k hlt
      have hr' := Rep.ext hB hK hr
      have hcs' := hcs.ext hB (hK b hKb)
      have hK' : ∀ b, K b → b < wr.heap.size := fun b h => Nat.lt_of_lt_of_le (hK b h) hB.size
      have hR' : RowOf wr w.heap.size 112 (l.length * 5) := by rcases hR with h | h <;> first | omega | exact h
      have hroom : k * 5 + 5 ≤ l.length * 5 := by have := Nat.mul_le_mul_right 5 (show k + 1 ≤ l.length from hlt); rw [Nat.add_mul] at this; omega
      clear hE hcs hr hR
      have hi : (Tryz.prog.info? 197).map (·.size) = some cs.length := by rw [Rep.length _ _ hr', TObligation.width]; exact infoT197
      have hmem : l[k] ∈ l := List.getElem_mem hlt
      go_wp2_with (with_reducible refine ld rfl 197 _ rfl b _ rfl cs hcs' _ Tryz.underlying197 hi ?_)
      refine (toObligation_c l[k] (by have := szL_le TObligation.sz hmem; unfold szs at hz; omega) _ K hK' _ hr').mono ?_
      rintro e w1 ⟨cs', bs, rfl, o1, n2, r2, hB1⟩
      have hg : w.heap.size < wr.heap.size := hR'.lt
      obtain ⟨cur, hcur, hsz⟩ := hR'.below hB1 hg
      have Hcur := Lib.hid hcur
      have Hsz := Lib.hid hsz
      clear hcur hsz
      have hl' := (Rep.length (K := fun _ => True) _ _ (Own.rep _ _ _ o1 (fun _ _ => trivial))).trans (TObligation.width _)
      have hone := Rep.one (K := fun _ => True) _ _ (Own.rep _ _ _ o1 (fun _ _ => trivial))
      have hi' : (Tryz.prog.info? 112).map (·.size) = some cs'.length := by rw [hl']; exact infoT112
      have Hl' := Lib.hid hl'
      clear hl'
      go_wp2_with (with_reducible refine stA rfl 112 _ _ rfl w.heap.size (k * 5) rfl cs' rfl hi' hone cur 112 Hcur.out (by rw [Hl'.out, Hsz.out]; omega) ?_)
      intro w2 hst
      have R2 : RowOf w2 w.heap.size 112 (l.length * 5) := RowOf.stored ⟨cur, Hcur.out, Hsz.out⟩ hst
      have hrow := row_step TObligation.width hlt h1 n1 r1 hg hB1 o1 n2 r2 hst
      have hB2 := hst.below (hB.trans (hB1.mono hB.size)) (Nat.le_refl _)
      obtain ⟨h1', n1', r1'⟩ := hrow
      have A1 := Lib.hid h1'; have A2 := Lib.hid n1'; have A3 := Lib.hid r1'; have A4 := Lib.hid hB2; have A5 := Lib.hid R2
      clear h1' n1' r1' hB2 R2 h1 n1 r1 hB
      go_wp2
      go_roundw
      case rel => exact ⟨k + 1, _, hlt, by go_num, .inr A5.out, A1.out, A2.out, A3.out, A4.out⟩
      case measure => simp [intOf]; omega
    · obtain rfl : k = l.length := by omega
      rw [List.take_length] at h1
      go_wp2
      go_ret
      rcases hR with h | h
      · exact ⟨_, _, [], rfl, own_nil (List.length_eq_zero_iff.1 h) (by unfold maxLen; omega) (by simp), List.nodup_nil, by simp, hB⟩
      · obtain ⟨bs, o1, n2, r2⟩ := row_done (by unfold maxLen; omega) h h1 n1 r1
        exact ⟨_, _, bs, rfl, o1, n2, r2, hB⟩
set_option maxRecDepth 100000 in
set_option maxHeartbeats 1000000 in
theorem toInferState_c (x : TInferState) : ∀ (_ : x.sz ≤ 1048576) (w : World) (K : Nat → Prop) (_ : ∀ b, K b → b < w.heap.size) (cs : List Value) (_ : Rep w K x.enc cs),
    Calls Tryz.prog 17 #[.agg cs.toArray] w fun e w' => ∃ cs' bs, e = .returned (.agg cs'.toArray) ∧ Own w' x.enc cs' bs ∧ bs.Nodup ∧ (∀ b ∈ bs, w.heap.size ≤ b ∧ b < w'.heap.size) ∧ Below w.heap.size w w' := by
  intro hz w K hK cs h
  obtain ⟨c3, c4, c5, rfl, hNext, hCount, hNode, hBindings, hEquations, hObligations, hCode, hAt⟩ := TInferState.opn h
  clear h
  have HNext := Lib.hid hNext; clear hNext
  have HCount := Lib.hid hCount; clear hCount
  have HNode := Lib.hid hNode; clear hNode
  have HCode := Lib.hid hCode; clear hCode
  have HAt := Lib.hid hAt; clear hAt
  have Hz := Lib.hid hz; clear hz
  have hV0 : Below w.heap.size w (((w.alloc (.cells #[.int .i64 x.fNext, .int .i64 x.fCount, .int .i64 x.fNode, c3, c4, c5, .int .i64 x.fCode, .int .i64 x.fAt] 46)).alloc (.cells #[.int .i64 0, .int .i64 0, .int .i64 0, .slice none 0 0, .slice none 0 0, .slice none 0 0, .int .i64 0, .int .i64 0] 54)).alloc (.cells #[.int .i64 x.fNext, .int .i64 x.fCount, .int .i64 x.fNode, .slice none 0 0, .slice none 0 0, .slice none 0 0, .int .i64 0, .int .i64 0] 54)) := (((Below.refl _ _).alloc (Nat.le_refl _) _).alloc (by simp) _).alloc (by simp <;> omega) _
  have hs0 : w.heap.size + 1 + 1 < (((w.alloc (.cells #[.int .i64 x.fNext, .int .i64 x.fCount, .int .i64 x.fNode, c3, c4, c5, .int .i64 x.fCode, .int .i64 x.fAt] 46)).alloc (.cells #[.int .i64 0, .int .i64 0, .int .i64 0, .slice none 0 0, .slice none 0 0, .slice none 0 0, .int .i64 0, .int .i64 0] 54)).alloc (.cells #[.int .i64 x.fNext, .int .i64 x.fCount, .int .i64 x.fNode, .slice none 0 0, .slice none 0 0, .slice none 0 0, .int .i64 0, .int .i64 0] 54)).heap.size := by simp
  go_enter Tryz.func17, Tryz.ntmps17
  go_wp2_with fail
  refine (toBindingS_c x.fBindings (by have := Hz.out; rw [TInferState.sz_eq] at this; omega) _ K (fun b hb => Nat.lt_of_lt_of_le (hK b hb) hV0.size) _ (Rep.ext hV0 hK hBindings)).mono ?_
  rintro e w1 ⟨a1, p1, b1, rfl, o1, n1, r1, hB1⟩
  have hb1 := hV0.trans (hB1.mono hV0.size)
  have hc1 := (bcell hB1).1
  have hf1 := (bcell hB1).2
  have hz1 : w.heap.size + 1 + 1 < w1.heap.size := Nat.lt_of_lt_of_le hs0 hB1.size
  have hy1 : w.heap.size < w1.heap.size := by omega
  have hx1 : w.heap.size + 1 < w1.heap.size := by omega
  have s1 : ∀ b ∈ b1, w.heap.size + 1 + 1 + 1 ≤ b ∧ b < w1.heap.size := by intro b hb; have := r1 b hb; simp at this; omega
  have z1 : w.heap.size + 1 + 1 + 1 ≤ w1.heap.size := by have := hB1.size; simp at this; omega
  have hV1 := hb1 |>.setCell (p := ⟨w.heap.size + 1 + 1, 3, none⟩) (by show w.heap.size ≤ w.heap.size + 1 + 1; omega) (.slice a1 x.fBindings.length p1)
  have hs1 : w.heap.size + 1 + 1 < _ := Nat.lt_of_lt_of_le hz1 ((Up.refl (w.heap.size + 1 + 1) w1) |>.setCell ⟨w.heap.size + 1 + 1, 3, none⟩ (Nat.le_refl _) (.slice a1 x.fBindings.length p1)).size
  have u1 := (Up.refl (w.heap.size + 1 + 1) w1) |>.setCell ⟨w.heap.size + 1 + 1, 3, none⟩ (Nat.le_refl _) (.slice a1 x.fBindings.length p1)
  go_wp2_with fail
  refine (toEquationS_c x.fEquations (by have := Hz.out; rw [TInferState.sz_eq] at this; omega) _ K (fun b hb => Nat.lt_of_lt_of_le (hK b hb) hV1.size) _ (Rep.ext hV1 hK hEquations)).mono ?_
  rintro e w2 ⟨a2, p2, b2, rfl, o2, n2, r2, hB2⟩
  have hb2 := hV1.trans (hB2.mono hV1.size)
  have hc2 := (bcell hB2).1
  have hf2 := (bcell hB2).2
  have hz2 : w.heap.size + 1 + 1 < w2.heap.size := Nat.lt_of_lt_of_le hs1 hB2.size
  have hy2 : w.heap.size < w2.heap.size := by omega
  have hx2 : w.heap.size + 1 < w2.heap.size := by omega
  have s2 : ∀ b ∈ b2, w1.heap.size ≤ b ∧ b < w2.heap.size := by intro b hb; have := r2 b hb; simp at this; omega
  have z2 : w1.heap.size ≤ w2.heap.size := by have := hB2.size; simp at this; omega
  have u1 := u1.below hB2
  have hV2 := hb2 |>.setCell (p := ⟨w.heap.size + 1 + 1, 4, none⟩) (by show w.heap.size ≤ w.heap.size + 1 + 1; omega) (.slice a2 x.fEquations.length p2)
  have hs2 : w.heap.size + 1 + 1 < _ := Nat.lt_of_lt_of_le hz2 ((Up.refl (w.heap.size + 1 + 1) w2) |>.setCell ⟨w.heap.size + 1 + 1, 4, none⟩ (Nat.le_refl _) (.slice a2 x.fEquations.length p2)).size
  have u1 := u1 |>.setCell ⟨w.heap.size + 1 + 1, 4, none⟩ (Nat.le_refl _) (.slice a2 x.fEquations.length p2)
  have u2 := (Up.refl (w.heap.size + 1 + 1) w2) |>.setCell ⟨w.heap.size + 1 + 1, 4, none⟩ (Nat.le_refl _) (.slice a2 x.fEquations.length p2)
  go_wp2_with fail
  refine (toObligationS_c x.fObligations (by have := Hz.out; rw [TInferState.sz_eq] at this; omega) _ K (fun b hb => Nat.lt_of_lt_of_le (hK b hb) hV2.size) _ (Rep.ext hV2 hK hObligations)).mono ?_
  rintro e w3 ⟨a3, p3, b3, rfl, o3, n3, r3, hB3⟩
  have hb3 := hV2.trans (hB3.mono hV2.size)
  have hc3 := (bcell hB3).1
  have hf3 := (bcell hB3).2
  have hz3 : w.heap.size + 1 + 1 < w3.heap.size := Nat.lt_of_lt_of_le hs2 hB3.size
  have hy3 : w.heap.size < w3.heap.size := by omega
  have hx3 : w.heap.size + 1 < w3.heap.size := by omega
  have s3 : ∀ b ∈ b3, w2.heap.size ≤ b ∧ b < w3.heap.size := by intro b hb; have := r3 b hb; simp at this; omega
  have z3 : w2.heap.size ≤ w3.heap.size := by have := hB3.size; simp at this; omega
  have u1 := u1.below hB3
  have u2 := u2.below hB3
  go_wp2
  have hV := hb3 |>.setCell (p := ⟨w.heap.size + 1 + 1, 5, none⟩) (by show w.heap.size ≤ w.heap.size + 1 + 1; omega) (.slice a3 x.fObligations.length p3) |>.setCell (p := ⟨w.heap.size + 1 + 1, 6, none⟩) (by show w.heap.size ≤ w.heap.size + 1 + 1; omega) (.int .i64 x.fCode) |>.setCell (p := ⟨w.heap.size + 1 + 1, 7, none⟩) (by show w.heap.size ≤ w.heap.size + 1 + 1; omega) (.int .i64 x.fAt) |>.setCell (p := ⟨w.heap.size + 1, 0, none⟩) (by show w.heap.size ≤ w.heap.size + 1; omega) (.int .i64 x.fNext) |>.setCell (p := ⟨w.heap.size + 1, 1, none⟩) (by show w.heap.size ≤ w.heap.size + 1; omega) (.int .i64 x.fCount) |>.setCell (p := ⟨w.heap.size + 1, 2, none⟩) (by show w.heap.size ≤ w.heap.size + 1; omega) (.int .i64 x.fNode) |>.setCell (p := ⟨w.heap.size + 1, 3, none⟩) (by show w.heap.size ≤ w.heap.size + 1; omega) (.slice a1 x.fBindings.length p1) |>.setCell (p := ⟨w.heap.size + 1, 4, none⟩) (by show w.heap.size ≤ w.heap.size + 1; omega) (.slice a2 x.fEquations.length p2) |>.setCell (p := ⟨w.heap.size + 1, 5, none⟩) (by show w.heap.size ≤ w.heap.size + 1; omega) (.slice a3 x.fObligations.length p3) |>.setCell (p := ⟨w.heap.size + 1, 6, none⟩) (by show w.heap.size ≤ w.heap.size + 1; omega) (.int .i64 x.fCode) |>.setCell (p := ⟨w.heap.size + 1, 7, none⟩) (by show w.heap.size ≤ w.heap.size + 1; omega) (.int .i64 x.fAt)
  have u1 := u1 |>.setCell ⟨w.heap.size + 1 + 1, 5, none⟩ (by show w.heap.size + 1 + 1 ≤ w.heap.size + 1 + 1; omega) (.slice a3 x.fObligations.length p3) |>.setCell ⟨w.heap.size + 1 + 1, 6, none⟩ (by show w.heap.size + 1 + 1 ≤ w.heap.size + 1 + 1; omega) (.int .i64 x.fCode) |>.setCell ⟨w.heap.size + 1 + 1, 7, none⟩ (by show w.heap.size + 1 + 1 ≤ w.heap.size + 1 + 1; omega) (.int .i64 x.fAt) |>.setCell ⟨w.heap.size + 1, 0, none⟩ (by show w.heap.size + 1 ≤ w.heap.size + 1 + 1; omega) (.int .i64 x.fNext) |>.setCell ⟨w.heap.size + 1, 1, none⟩ (by show w.heap.size + 1 ≤ w.heap.size + 1 + 1; omega) (.int .i64 x.fCount) |>.setCell ⟨w.heap.size + 1, 2, none⟩ (by show w.heap.size + 1 ≤ w.heap.size + 1 + 1; omega) (.int .i64 x.fNode) |>.setCell ⟨w.heap.size + 1, 3, none⟩ (by show w.heap.size + 1 ≤ w.heap.size + 1 + 1; omega) (.slice a1 x.fBindings.length p1) |>.setCell ⟨w.heap.size + 1, 4, none⟩ (by show w.heap.size + 1 ≤ w.heap.size + 1 + 1; omega) (.slice a2 x.fEquations.length p2) |>.setCell ⟨w.heap.size + 1, 5, none⟩ (by show w.heap.size + 1 ≤ w.heap.size + 1 + 1; omega) (.slice a3 x.fObligations.length p3) |>.setCell ⟨w.heap.size + 1, 6, none⟩ (by show w.heap.size + 1 ≤ w.heap.size + 1 + 1; omega) (.int .i64 x.fCode) |>.setCell ⟨w.heap.size + 1, 7, none⟩ (by show w.heap.size + 1 ≤ w.heap.size + 1 + 1; omega) (.int .i64 x.fAt)
  have u2 := u2 |>.setCell ⟨w.heap.size + 1 + 1, 5, none⟩ (by show w.heap.size + 1 + 1 ≤ w.heap.size + 1 + 1; omega) (.slice a3 x.fObligations.length p3) |>.setCell ⟨w.heap.size + 1 + 1, 6, none⟩ (by show w.heap.size + 1 + 1 ≤ w.heap.size + 1 + 1; omega) (.int .i64 x.fCode) |>.setCell ⟨w.heap.size + 1 + 1, 7, none⟩ (by show w.heap.size + 1 + 1 ≤ w.heap.size + 1 + 1; omega) (.int .i64 x.fAt) |>.setCell ⟨w.heap.size + 1, 0, none⟩ (by show w.heap.size + 1 ≤ w.heap.size + 1 + 1; omega) (.int .i64 x.fNext) |>.setCell ⟨w.heap.size + 1, 1, none⟩ (by show w.heap.size + 1 ≤ w.heap.size + 1 + 1; omega) (.int .i64 x.fCount) |>.setCell ⟨w.heap.size + 1, 2, none⟩ (by show w.heap.size + 1 ≤ w.heap.size + 1 + 1; omega) (.int .i64 x.fNode) |>.setCell ⟨w.heap.size + 1, 3, none⟩ (by show w.heap.size + 1 ≤ w.heap.size + 1 + 1; omega) (.slice a1 x.fBindings.length p1) |>.setCell ⟨w.heap.size + 1, 4, none⟩ (by show w.heap.size + 1 ≤ w.heap.size + 1 + 1; omega) (.slice a2 x.fEquations.length p2) |>.setCell ⟨w.heap.size + 1, 5, none⟩ (by show w.heap.size + 1 ≤ w.heap.size + 1 + 1; omega) (.slice a3 x.fObligations.length p3) |>.setCell ⟨w.heap.size + 1, 6, none⟩ (by show w.heap.size + 1 ≤ w.heap.size + 1 + 1; omega) (.int .i64 x.fCode) |>.setCell ⟨w.heap.size + 1, 7, none⟩ (by show w.heap.size + 1 ≤ w.heap.size + 1 + 1; omega) (.int .i64 x.fAt)
  have u3 := (Up.refl (w.heap.size + 1 + 1) w3) |>.setCell ⟨w.heap.size + 1 + 1, 5, none⟩ (by show w.heap.size + 1 + 1 ≤ w.heap.size + 1 + 1; omega) (.slice a3 x.fObligations.length p3) |>.setCell ⟨w.heap.size + 1 + 1, 6, none⟩ (by show w.heap.size + 1 + 1 ≤ w.heap.size + 1 + 1; omega) (.int .i64 x.fCode) |>.setCell ⟨w.heap.size + 1 + 1, 7, none⟩ (by show w.heap.size + 1 + 1 ≤ w.heap.size + 1 + 1; omega) (.int .i64 x.fAt) |>.setCell ⟨w.heap.size + 1, 0, none⟩ (by show w.heap.size + 1 ≤ w.heap.size + 1 + 1; omega) (.int .i64 x.fNext) |>.setCell ⟨w.heap.size + 1, 1, none⟩ (by show w.heap.size + 1 ≤ w.heap.size + 1 + 1; omega) (.int .i64 x.fCount) |>.setCell ⟨w.heap.size + 1, 2, none⟩ (by show w.heap.size + 1 ≤ w.heap.size + 1 + 1; omega) (.int .i64 x.fNode) |>.setCell ⟨w.heap.size + 1, 3, none⟩ (by show w.heap.size + 1 ≤ w.heap.size + 1 + 1; omega) (.slice a1 x.fBindings.length p1) |>.setCell ⟨w.heap.size + 1, 4, none⟩ (by show w.heap.size + 1 ≤ w.heap.size + 1 + 1; omega) (.slice a2 x.fEquations.length p2) |>.setCell ⟨w.heap.size + 1, 5, none⟩ (by show w.heap.size + 1 ≤ w.heap.size + 1 + 1; omega) (.slice a3 x.fObligations.length p3) |>.setCell ⟨w.heap.size + 1, 6, none⟩ (by show w.heap.size + 1 ≤ w.heap.size + 1 + 1; omega) (.int .i64 x.fCode) |>.setCell ⟨w.heap.size + 1, 7, none⟩ (by show w.heap.size + 1 ≤ w.heap.size + 1 + 1; omega) (.int .i64 x.fAt)
  have j3 := join2 n3 s3 List.nodup_nil (b2 := []) (mid := w3.heap.size) (hi := w3.heap.size) (by simp) z3 (Nat.le_refl _)
  have j2 := join2 n2 s2 j3.1 j3.2 z2 (by omega)
  have j1 := join2 n1 s1 j2.1 j2.2 z1 (by omega)
  refine bodyPost_ret (v := .agg #[.int .i64 x.fNext, .int .i64 x.fCount, .int .i64 x.fNode, .slice a1 x.fBindings.length p1, .slice a2 x.fEquations.length p2, .slice a3 x.fObligations.length p3, .int .i64 x.fCode, .int .i64 x.fAt]) (by simp [results, Tryz.results17, go_sem, *]) rfl ⟨[.int .i64 x.fNext, .int .i64 x.fCount, .int .i64 x.fNode, .slice a1 x.fBindings.length p1, .slice a2 x.fEquations.length p2, .slice a3 x.fObligations.length p3, .int .i64 x.fCode, .int .i64 x.fAt], _, rfl, TInferState.mk_own HNext.out HCount.out HNode.out (u1.own o1 s1 (by omega)) (u2.own o2 s2 (by omega)) (u3.own o3 s3 (by omega)) HCode.out HAt.out, j1.1, ?_, hV⟩
  intro b hb
  have := j1.2 b hb
  simp
  omega
end Go.Proofs.YtkmiecgcibjkbaaGreat
