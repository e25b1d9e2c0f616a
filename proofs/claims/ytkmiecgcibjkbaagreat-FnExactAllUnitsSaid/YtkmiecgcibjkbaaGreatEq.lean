/- The functions eq.. of the laws: each tells whether two values are equal. No condition. -/
import Derived.Test.YtkmiecgcibjkbaaGreatTypes
import Derived.Test.YtkmiecgcibjkbaaGreatReg
namespace Go.Proofs.YtkmiecgcibjkbaaGreat
open Go.RowKit
set_option maxRecDepth 100000 in
set_option maxHeartbeats 1000000 in
theorem eqStringS_c (l m : List ByteArray) : ∀ (w : World) (K : Nat → Prop) (_ : ∀ b, K b → b < w.heap.size) (u v : Value) (_ : Rep w K (.sl (l.map encS)) [u]) (_ : Rep w K (.sl (m.map encS)) [v]),
    Calls Tryz.prog 19 #[u, v] w fun e w' => e = .returned (.bool (deq l m)) ∧ Below w.heap.size w w' := by
  intro w K hK u v h k
  obtain ⟨a, cap, rfl, hc, hm, -, hE⟩ := open_sl encS_w h
  obtain ⟨a', cap', rfl, hc', hm', -, hE'⟩ := open_sl encS_w k
  unfold maxLen at hm hm'
  clear h k
  by_cases hl : l.length = m.length
  · have hl1 : l.length ≤ m.length := by omega
    have hl2 : m.length ≤ l.length := by omega
    have bl : (l.length != m.length) = false := by simp [hl]
    have bl' : ((l.length : Int) != (m.length : Int)) = false := by simp [hl]
    have Hl := Lib.hid hl; clear hl
    have Hg : Hid (deq (l.drop 0) (m.drop 0) = deq l m) := rfl
    go_enter Tryz.func19, Tryz.ntmps19
    go_wp2
    go_loopw [5] (fun i wr => ∃ (n : Nat), n ≤ l.length ∧ i = .int .i64 n ∧ Hid (deq (l.drop n) (m.drop n) = deq l m) ∧ Below w.heap.size w wr) (fun i _ => l.length - (intOf i).toNat)
    case atStart => exact ⟨0, Nat.zero_le _, rfl, Hg, Below.refl _ _⟩
    case round =>
      clear Hg
      obtain ⟨n, hn, rfl, Hs, hB⟩ := hrel
      by_cases hlt : n < l.length
      · have hlt' : n < m.length := by omega
        obtain ⟨b, off, rfl, hKb, cs, hcs, hr⟩ := hE n hlt
        obtain ⟨b', off', rfl, hKb', cs', hcs', hr'⟩ := hE' n hlt'
        have gr := Rep.ext hB hK hr
        have gr' := Rep.ext hB hK hr'
        have gcs := hcs.ext hB (hK b hKb)
        have gcs' := hcs'.ext hB (hK b' hKb')
        have hK' : ∀ b, K b → b < wr.heap.size := fun b h => Nat.lt_of_lt_of_le (hK b h) hB.size
        have Hd : Hid (l.drop n = l[n] :: l.drop (n + 1)) := List.drop_eq_getElem_cons hlt
        have Hd' : Hid (m.drop n = m[n] :: m.drop (n + 1)) := List.drop_eq_getElem_cons hlt'
        clear hE hE' hcs hcs' hr hr'
        simp only [encS, Rep] at gr gr'
        obtain ⟨rfl, -⟩ := gr
        obtain ⟨rfl, -⟩ := gr'
        have g0 : ∀ w', Below wr.heap.size wr w' → w'.cell? ⟨b, off + n, none⟩ = some (.string l[n]) := fun w' h => by simpa using (gcs.ext h (hK' b hKb)) 0 _ rfl
        have g0' : ∀ w', Below wr.heap.size wr w' → w'.cell? ⟨b', off' + n, none⟩ = some (.string m[n]) := fun w' h => by simpa using (gcs'.ext h (hK' b' hKb')) 0 _ rfl
        have hI0 : Below wr.heap.size wr wr.drew := (Below.refl _ _).drew
        clear gcs gcs'
        generalize l[n] = x at *
        generalize m[n] = y at *
        go_wp2_with fail
        refine rg 9 (Below wr.heap.size wr) (by kernel_rfl) rfl ?_
        refine rg_seg (fuel := 0) [0, 1, 2, 3, 4, 5, 6, 7, 8] hI0 (by kernel_rfl) rfl ?_
        simp only [pick, List.getElem?_cons_zero, List.getElem?_cons_succ]
        iterate 8 (refine sg_fix _ rfl (fun w' hI => by go_simp; rfl) ?_; simp only [Act.put, List.setIfInBounds_toArray, List.set_cons_zero, List.set_cons_succ])
        by_cases h3 : x = y
        · have b3 : (!x.toList == y.toList) = false := by simp [h3]
          have H3 := Lib.hid h3; clear h3
          refine sg_fix _ rfl (fun w' hI => by go_simp; rfl) ?_; simp only [Act.put, List.setIfInBounds_toArray, List.set_cons_zero, List.set_cons_succ]
          refine sg_nil (rg_end (by kernel_rfl) ?_)
          go_wp2
          go_roundw
          case rel =>
            refine ⟨n + 1, hlt, by go_num, ?_, hB.drew⟩
            have e := Hs.out
            rw [Hd.out, Hd'.out, H3.out, deq_cons] at e
            exact e
          case measure => simp [intOf]; omega
        · have b3 : (!x.toList == y.toList) = true := by simpa using fun q => h3 (ba_ext q)
          refine sg_fix _ rfl (fun w' hI => by go_simp; rfl) ?_; simp only [Act.put, List.setIfInBounds_toArray, List.set_cons_zero, List.set_cons_succ]
          refine sg_nil (rg_end (by kernel_rfl) ?_)
          have e := Hs.out
          rw [Hd.out, Hd'.out, deq_ne (fun q => h3 (List.cons.inj q).1)] at e
          have Hf := Lib.hid e
          clear e h3
          go_wp2
          go_ret
          exact ⟨ret_bool Hf.out, hB.drew⟩
      · obtain rfl : n = l.length := by omega
        go_wp2
        go_ret
        refine ⟨ret_bool ?_, hB⟩
        rw [← Hs.out, List.drop_length, List.drop_eq_nil_of_le hl2]
        exact (deq_eq rfl).symm
  · have bl : (l.length != m.length) = true := by simpa using hl
    have bl' : ((l.length : Int) != (m.length : Int)) = true := by simp; omega
    have Hl := Lib.hid hl; clear hl
    go_enter Tryz.func19, Tryz.ntmps19
    go_wp2
    go_ret
    exact ⟨ret_bool (deq_ne (fun q => Hl.out (congrArg List.length q))).symm, Below.refl _ _⟩
theorem TInstanceRef.ext {x y : TInstanceRef} (e0 : x.fPackage = y.fPackage) (e1 : x.fAt = y.fAt) : x = y := by
  cases x; cases y; simp only at *; subst e0 e1; rfl
set_option maxRecDepth 100000 in
set_option maxHeartbeats 1000000 in
theorem eqInstanceRef_c (x y : TInstanceRef) : ∀ (w : World) (K : Nat → Prop) (_ : ∀ b, K b → b < w.heap.size) (cs ds : List Value) (_ : Rep w K x.enc cs) (_ : Rep w K y.enc ds),
    Calls Tryz.prog 255 #[.agg cs.toArray, .agg ds.toArray] w fun e w' => e = .returned (.bool (deq x y)) ∧ Below w.heap.size w w' := by
  intro w K hK cs ds h k
  obtain ⟨rfl, hPackage, hAt⟩ := TInstanceRef.opn h
  obtain ⟨rfl, kPackage, kAt⟩ := TInstanceRef.opn k
  clear h k
  clear hPackage kPackage
  clear hAt kAt
  have hW : Below w.heap.size w ((w.alloc (.cells #[.int .i64 x.fPackage, .int .i64 x.fAt] 238)).alloc (.cells #[.int .i64 y.fPackage, .int .i64 y.fAt] 238)) := ((Below.refl _ _).alloc (Nat.le_refl _) _).alloc (by simp) _
  have hx : Below (w.heap.size + 1 + 1) ((w.alloc (.cells #[.int .i64 x.fPackage, .int .i64 x.fAt] 238)).alloc (.cells #[.int .i64 y.fPackage, .int .i64 y.fAt] 238)) ((w.alloc (.cells #[.int .i64 x.fPackage, .int .i64 x.fAt] 238)).alloc (.cells #[.int .i64 y.fPackage, .int .i64 y.fAt] 238)) := Below.refl _ _
  go_enter Tryz.func255, Tryz.ntmps255
  by_cases e0 : x.fPackage = y.fPackage
  · have b0 : (x.fPackage != y.fPackage) = false := by simp [e0]
    have E0 := Lib.hid e0; clear e0
    by_cases e1 : x.fAt = y.fAt
    · have b1 : (x.fAt != y.fAt) = false := by simp [e1]
      have E1 := Lib.hid e1; clear e1
      go_wp2
      go_ret
      exact ⟨ret_bool (deq_eq (TInstanceRef.ext E0.out E1.out)).symm, hW⟩
    · have b1 : (x.fAt != y.fAt) = true := by simpa using e1
      have E1 := Lib.hid e1; clear e1
      go_wp2
      go_ret
      exact ⟨ret_bool (deq_ne (fun q => E1.out (congrArg (·.fAt) q))).symm, hW⟩
  · have b0 : (x.fPackage != y.fPackage) = true := by simpa using e0
    have E0 := Lib.hid e0; clear e0
    go_wp2
    go_ret
    exact ⟨ret_bool (deq_ne (fun q => E0.out (congrArg (·.fPackage) q))).symm, hW⟩
theorem TEvidence.ext {x y : TEvidence} (e0 : x.fKind = y.fKind) (e1 : x.fN = y.fN) (e2 : x.fAt = y.fAt) (e3 : x.fArgs = y.fArgs) : x = y := by
  cases x; cases y; simp only at *; subst e0 e1 e2 e3; rfl
theorem infoE240 : (Tryz.prog.info? 240).map (·.size) = some 5 := by kernel_rfl
def EqEvidence (N : Nat) : Prop := ∀ (x y : TEvidence), SizeOf.sizeOf x < N → ∀ (w : World) (K : Nat → Prop) (_ : ∀ b, K b → b < w.heap.size) (cs ds : List Value) (_ : Rep w K x.enc cs) (_ : Rep w K y.enc ds),
    Calls Tryz.prog 234 #[.agg cs.toArray, .agg ds.toArray] w fun e w' => e = .returned (.bool (deq x y)) ∧ Below w.heap.size w w'
def EqEvidenceS (N : Nat) : Prop := ∀ (l m : List TEvidence), SizeOf.sizeOf l < N → ∀ (w : World) (K : Nat → Prop) (_ : ∀ b, K b → b < w.heap.size) (u v : Value) (_ : Rep w K (.sl (l.map TEvidence.enc)) [u]) (_ : Rep w K (.sl (m.map TEvidence.enc)) [v]),
    Calls Tryz.prog 196 #[u, v] w fun e w' => e = .returned (.bool (deq l m)) ∧ Below w.heap.size w w'
set_option maxRecDepth 100000 in
set_option maxHeartbeats 1000000 in
theorem stepEqEvidence (N : Nat) (_iEqEvidence : EqEvidence N) (iEqEvidenceS : EqEvidenceS N) : EqEvidence (N + 1) := by
  intro x y hN w K hK cs ds h k
  obtain ⟨c2, c3, c4, rfl, hKind, hN, hAt, hArgs⟩ := TEvidence.opn h
  obtain ⟨d2, d3, d4, rfl, kKind, kN, kAt, kArgs⟩ := TEvidence.opn k
  clear h k
  clear hKind kKind
  clear hN kN
  have hW : Below w.heap.size w ((w.alloc (.cells #[.int .i64 x.fKind, .int .i64 x.fN, c2, c3, c4] 240)).alloc (.cells #[.int .i64 y.fKind, .int .i64 y.fN, d2, d3, d4] 240)) := ((Below.refl _ _).alloc (Nat.le_refl _) _).alloc (by simp) _
  have hx : Below (w.heap.size + 1 + 1) ((w.alloc (.cells #[.int .i64 x.fKind, .int .i64 x.fN, c2, c3, c4] 240)).alloc (.cells #[.int .i64 y.fKind, .int .i64 y.fN, d2, d3, d4] 240)) ((w.alloc (.cells #[.int .i64 x.fKind, .int .i64 x.fN, c2, c3, c4] 240)).alloc (.cells #[.int .i64 y.fKind, .int .i64 y.fN, d2, d3, d4] 240)) := Below.refl _ _
  go_enter Tryz.func234, Tryz.ntmps234
  by_cases e0 : x.fKind = y.fKind
  · have b0 : (x.fKind != y.fKind) = false := by simp [e0]
    have E0 := Lib.hid e0; clear e0
    by_cases e1 : x.fN = y.fN
    · have b1 : (x.fN != y.fN) = false := by simp [e1]
      have E1 := Lib.hid e1; clear e1
      go_wp2_with fail
      refine (eqInstanceRef_c x.fAt y.fAt _ K (fun b hb => Nat.lt_of_lt_of_le (hK b hb) hW.size) _ _ (Rep.ext hW hK hAt) (Rep.ext hW hK kAt)).mono ?_
      rintro e w2 ⟨rfl, hB2⟩
      have hx2 : Below (w.heap.size + 1 + 1) ((w.alloc (.cells #[.int .i64 x.fKind, .int .i64 x.fN, c2, c3, c4] 240)).alloc (.cells #[.int .i64 y.fKind, .int .i64 y.fN, d2, d3, d4] 240)) w2 := hx.trans (hB2.mono (by have := hx.size; simp at this ⊢ <;> omega))
      have hb2 : Below w.heap.size w w2 := hW.trans (hx2.mono (by omega))
      have hc2 := (bcell hx2).1
      by_cases e2 : x.fAt = y.fAt
      · rw [deq_eq e2]
        have E2 := Lib.hid e2; clear e2
        go_wp2_with fail
        refine (iEqEvidenceS x.fArgs y.fArgs (by have := TEvidence.lt_fArgs x; omega) _ K (fun b hb => Nat.lt_of_lt_of_le (hK b hb) hb2.size) _ _ (Rep.ext hb2 hK hArgs) (Rep.ext hb2 hK kArgs)).mono ?_
        rintro e w3 ⟨rfl, hB3⟩
        have hx3 : Below (w.heap.size + 1 + 1) ((w.alloc (.cells #[.int .i64 x.fKind, .int .i64 x.fN, c2, c3, c4] 240)).alloc (.cells #[.int .i64 y.fKind, .int .i64 y.fN, d2, d3, d4] 240)) w3 := hx2.trans (hB3.mono (by have := hx2.size; simp at this ⊢ <;> omega))
        have hb3 : Below w.heap.size w w3 := hW.trans (hx3.mono (by omega))
        have hc3 := (bcell hx3).1
        by_cases e3 : x.fArgs = y.fArgs
        · rw [deq_eq e3]
          have E3 := Lib.hid e3; clear e3
          go_wp2
          go_ret
          exact ⟨ret_bool (deq_eq (TEvidence.ext E0.out E1.out E2.out E3.out)).symm, hb3⟩
        · rw [deq_ne e3]
          have E3 := Lib.hid e3; clear e3
          go_wp2
          go_ret
          exact ⟨ret_bool (deq_ne (fun q => E3.out (congrArg (·.fArgs) q))).symm, hb3⟩
      · rw [deq_ne e2]
        have E2 := Lib.hid e2; clear e2
        go_wp2
        go_ret
        exact ⟨ret_bool (deq_ne (fun q => E2.out (congrArg (·.fAt) q))).symm, hb2⟩
    · have b1 : (x.fN != y.fN) = true := by simpa using e1
      have E1 := Lib.hid e1; clear e1
      go_wp2
      go_ret
      exact ⟨ret_bool (deq_ne (fun q => E1.out (congrArg (·.fN) q))).symm, hW⟩
  · have b0 : (x.fKind != y.fKind) = true := by simpa using e0
    have E0 := Lib.hid e0; clear e0
    go_wp2
    go_ret
    exact ⟨ret_bool (deq_ne (fun q => E0.out (congrArg (·.fKind) q))).symm, hW⟩
set_option maxRecDepth 100000 in
set_option maxHeartbeats 1000000 in
theorem stepEqEvidenceS (N : Nat) (iEqEvidence : EqEvidence N) (_iEqEvidenceS : EqEvidenceS N) : EqEvidenceS (N + 1) := by
  intro l m hN w K hK u v h k
  obtain ⟨a, cap, rfl, hc, hm, -, hE⟩ := open_sl TEvidence.width h
  obtain ⟨a', cap', rfl, hc', hm', -, hE'⟩ := open_sl TEvidence.width k
  unfold maxLen at hm hm'
  clear h k
  by_cases hl : l.length = m.length
  · have hl1 : l.length ≤ m.length := by omega
    have hl2 : m.length ≤ l.length := by omega
    have bl : (l.length != m.length) = false := by simp [hl]
    have bl' : ((l.length : Int) != (m.length : Int)) = false := by simp [hl]
    have Hl := Lib.hid hl; clear hl
    have Hg : Hid (deq (l.drop 0) (m.drop 0) = deq l m) := rfl
    go_enter Tryz.func196, Tryz.ntmps196
    go_wp2
    go_loopw [5] (fun i wr => ∃ (n : Nat), n ≤ l.length ∧ i = .int .i64 n ∧ Hid (deq (l.drop n) (m.drop n) = deq l m) ∧ Below w.heap.size w wr) (fun i _ => l.length - (intOf i).toNat)
    case atStart => exact ⟨0, Nat.zero_le _, rfl, Hg, Below.refl _ _⟩
    case round =>
      clear Hg
      obtain ⟨n, hn, rfl, Hs, hB⟩ := hrel
      by_cases hlt : n < l.length
      · have hlt' : n < m.length := by omega
        obtain ⟨b, off, rfl, hKb, cs, hcs, hr⟩ := hE n hlt
        obtain ⟨b', off', rfl, hKb', cs', hcs', hr'⟩ := hE' n hlt'
        have gr := Rep.ext hB hK hr
        have gr' := Rep.ext hB hK hr'
        have gcs := hcs.ext hB (hK b hKb)
        have gcs' := hcs'.ext hB (hK b' hKb')
        have hK' : ∀ b, K b → b < wr.heap.size := fun b h => Nat.lt_of_lt_of_le (hK b h) hB.size
        have Hd : Hid (l.drop n = l[n] :: l.drop (n + 1)) := List.drop_eq_getElem_cons hlt
        have Hd' : Hid (m.drop n = m[n] :: m.drop (n + 1)) := List.drop_eq_getElem_cons hlt'
        clear hE hE' hcs hcs' hr hr'
        have hi : (Tryz.prog.info? 240).map (·.size) = some cs.length := by rw [Rep.length _ _ gr, TEvidence.width]; exact infoE240
        have hi' : (Tryz.prog.info? 240).map (·.size) = some cs'.length := by rw [Rep.length _ _ gr', TEvidence.width]; exact infoE240
        have hmem : l[n] ∈ l := List.getElem_mem hlt
        generalize l[n] = x at *
        generalize m[n] = y at *
        go_wp2_with fail
        have hI1 : ∀ w', Below wr.heap.size wr w' → Cells w' b (off + n * 5) cs := fun w' h => gcs.ext h (hK' b hKb)
        have hI2 : ∀ w', Below wr.heap.size wr w' → Cells w' b' (off' + n * 5) cs' := fun w' h => gcs'.ext h (hK' b' hKb')
        have hI0 : Below wr.heap.size wr wr.drew := (Below.refl _ _).drew
        refine rg 10 (Below wr.heap.size wr) (by kernel_rfl) rfl ?_
        refine rg_seg (fuel := 2) [0, 1, 2, 3, 4, 5, 6, 7] hI0 (by kernel_rfl) rfl ?_
        simp only [pick, List.getElem?_cons_zero, List.getElem?_cons_succ]
        iterate 3 (refine sg_fix _ rfl (fun w' hI => by go_simp; rfl) ?_; simp only [Act.put, List.setIfInBounds_toArray, List.set_cons_zero, List.set_cons_succ])
        refine sg_fix _ rfl (fun w' hI => run_ld 240 _ rfl b _ rfl cs (hI1 w' hI) _ Tryz.underlying240 hi) ?_
        simp only [Act.put, List.setIfInBounds_toArray, List.set_cons_zero, List.set_cons_succ]
        iterate 3 (refine sg_fix _ rfl (fun w' hI => by go_simp; rfl) ?_; simp only [Act.put, List.setIfInBounds_toArray, List.set_cons_zero, List.set_cons_succ])
        refine sg_fix _ rfl (fun w' hI => run_ld 240 _ rfl b' _ rfl cs' (hI2 w' hI) _ Tryz.underlying240 hi') ?_
        simp only [Act.put, List.setIfInBounds_toArray, List.set_cons_zero, List.set_cons_succ]
        refine sg_nil ?_
        refine rg_one (fuel := 1) 8 (by kernel_rfl) rfl (fun K1 hK1 => ?_)
        simp only [pick, List.getElem?_cons_zero, List.getElem?_cons_succ]
        refine rg_call rfl _ _ (by go_simp; exact ⟨rfl, rfl⟩) ?_
        refine (iEqEvidence x y (by have := List.sizeOf_lt_of_mem hmem; omega) wr.drew K hK' _ _ (Rep.ext hI0 hK' gr) (Rep.ext hI0 hK' gr')).mono ?_
        rintro e w1 ⟨rfl, hB1⟩
        have hB2 := hB.drew.trans (hB1.mono hB.size)
        refine ⟨_, rfl, hK1 _ _ (hI0.trans hB1) ?_⟩
        simp only [Act.put, List.setIfInBounds_toArray, List.set_cons_zero, List.set_cons_succ]
        refine rg_seg (fuel := 0) [9] (hI0.trans hB1) (by kernel_rfl) rfl ?_
        simp only [pick, List.getElem?_cons_zero, List.getElem?_cons_succ]
        by_cases h3 : x = y
        · rw [deq_eq h3]
          have H3 := Lib.hid h3; clear h3
          refine sg_fix _ rfl (fun w' hI => by go_simp; rfl) ?_; simp only [Act.put, List.setIfInBounds_toArray, List.set_cons_zero, List.set_cons_succ]
          refine sg_nil (rg_end (by kernel_rfl) ?_)
          go_wp2
          go_roundw
          case rel =>
            refine ⟨n + 1, hlt, by go_num, ?_, hB2⟩
            have e := Hs.out
            rw [Hd.out, Hd'.out, H3.out, deq_cons] at e
            exact e
          case measure => simp [intOf]; omega
        · rw [deq_ne h3]
          refine sg_fix _ rfl (fun w' hI => by go_simp; rfl) ?_; simp only [Act.put, List.setIfInBounds_toArray, List.set_cons_zero, List.set_cons_succ]
          refine sg_nil (rg_end (by kernel_rfl) ?_)
          have e := Hs.out
          rw [Hd.out, Hd'.out, deq_ne (fun q => h3 (List.cons.inj q).1)] at e
          have Hf := Lib.hid e
          clear e h3
          go_wp2
          go_ret
          exact ⟨ret_bool Hf.out, hB2⟩
      · obtain rfl : n = l.length := by omega
        go_wp2
        go_ret
        refine ⟨ret_bool ?_, hB⟩
        rw [← Hs.out, List.drop_length, List.drop_eq_nil_of_le hl2]
        exact (deq_eq rfl).symm
  · have bl : (l.length != m.length) = true := by simpa using hl
    have bl' : ((l.length : Int) != (m.length : Int)) = true := by simp; omega
    have Hl := Lib.hid hl; clear hl
    go_enter Tryz.func196, Tryz.ntmps196
    go_wp2
    go_ret
    exact ⟨ret_bool (deq_ne (fun q => Hl.out (congrArg List.length q))).symm, Below.refl _ _⟩
theorem eqEvidence_all : ∀ N : Nat, EqEvidence N ∧ EqEvidenceS N
  | 0 => ⟨fun _ _ h => absurd h (Nat.not_lt_zero _), fun _ _ h => absurd h (Nat.not_lt_zero _)⟩
  | N + 1 => by
    obtain ⟨i0, i1⟩ := eqEvidence_all N
    exact ⟨stepEqEvidence N i0 i1, stepEqEvidenceS N i0 i1⟩
theorem eqEvidence_c (x y : TEvidence) : ∀ (w : World) (K : Nat → Prop) (_ : ∀ b, K b → b < w.heap.size) (cs ds : List Value) (_ : Rep w K x.enc cs) (_ : Rep w K y.enc ds),
    Calls Tryz.prog 234 #[.agg cs.toArray, .agg ds.toArray] w fun e w' => e = .returned (.bool (deq x y)) ∧ Below w.heap.size w w' := (eqEvidence_all (SizeOf.sizeOf x + 1)).1 x y (Nat.lt_succ_self _)
theorem eqEvidenceS_c (l m : List TEvidence) : ∀ (w : World) (K : Nat → Prop) (_ : ∀ b, K b → b < w.heap.size) (u v : Value) (_ : Rep w K (.sl (l.map TEvidence.enc)) [u]) (_ : Rep w K (.sl (m.map TEvidence.enc)) [v]),
    Calls Tryz.prog 196 #[u, v] w fun e w' => e = .returned (.bool (deq l m)) ∧ Below w.heap.size w w' := (eqEvidence_all (SizeOf.sizeOf l + 1)).2 l m (Nat.lt_succ_self _)
theorem TType.ext {x y : TType} (e0 : x.fKind = y.fKind) (e1 : x.fName = y.fName) (e2 : x.fArgs = y.fArgs) : x = y := by
  cases x; cases y; simp only at *; subst e0 e1 e2; rfl
theorem infoE88 : (Tryz.prog.info? 88).map (·.size) = some 3 := by kernel_rfl
def EqType (N : Nat) : Prop := ∀ (x y : TType), SizeOf.sizeOf x < N → ∀ (w : World) (K : Nat → Prop) (_ : ∀ b, K b → b < w.heap.size) (cs ds : List Value) (_ : Rep w K x.enc cs) (_ : Rep w K y.enc ds),
    Calls Tryz.prog 142 #[.agg cs.toArray, .agg ds.toArray] w fun e w' => e = .returned (.bool (deq x y)) ∧ Below w.heap.size w w'
def EqTypeS (N : Nat) : Prop := ∀ (l m : List TType), SizeOf.sizeOf l < N → ∀ (w : World) (K : Nat → Prop) (_ : ∀ b, K b → b < w.heap.size) (u v : Value) (_ : Rep w K (.sl (l.map TType.enc)) [u]) (_ : Rep w K (.sl (m.map TType.enc)) [v]),
    Calls Tryz.prog 169 #[u, v] w fun e w' => e = .returned (.bool (deq l m)) ∧ Below w.heap.size w w'
set_option maxRecDepth 100000 in
set_option maxHeartbeats 1000000 in
theorem stepEqType (N : Nat) (_iEqType : EqType N) (iEqTypeS : EqTypeS N) : EqType (N + 1) := by
  intro x y hN w K hK cs ds h k
  obtain ⟨c2, rfl, hKind, hName, hArgs⟩ := TType.opn h
  obtain ⟨d2, rfl, kKind, kName, kArgs⟩ := TType.opn k
  clear h k
  clear hKind kKind
  clear hName kName
  have hW : Below w.heap.size w ((w.alloc (.cells #[.int .i64 x.fKind, .string x.fName, c2] 88)).alloc (.cells #[.int .i64 y.fKind, .string y.fName, d2] 88)) := ((Below.refl _ _).alloc (Nat.le_refl _) _).alloc (by simp) _
  have hx : Below (w.heap.size + 1 + 1) ((w.alloc (.cells #[.int .i64 x.fKind, .string x.fName, c2] 88)).alloc (.cells #[.int .i64 y.fKind, .string y.fName, d2] 88)) ((w.alloc (.cells #[.int .i64 x.fKind, .string x.fName, c2] 88)).alloc (.cells #[.int .i64 y.fKind, .string y.fName, d2] 88)) := Below.refl _ _
  go_enter Tryz.func142, Tryz.ntmps142
  by_cases e0 : x.fKind = y.fKind
  · have b0 : (x.fKind != y.fKind) = false := by simp [e0]
    have E0 := Lib.hid e0; clear e0
    by_cases e1 : x.fName = y.fName
    · have b1 : (!x.fName.toList == y.fName.toList) = false := by simp [e1]
      have E1 := Lib.hid e1; clear e1
      go_wp2_with fail
      refine (iEqTypeS x.fArgs y.fArgs (by have := TType.lt_fArgs x; omega) _ K (fun b hb => Nat.lt_of_lt_of_le (hK b hb) hW.size) _ _ (Rep.ext hW hK hArgs) (Rep.ext hW hK kArgs)).mono ?_
      rintro e w2 ⟨rfl, hB2⟩
      have hx2 : Below (w.heap.size + 1 + 1) ((w.alloc (.cells #[.int .i64 x.fKind, .string x.fName, c2] 88)).alloc (.cells #[.int .i64 y.fKind, .string y.fName, d2] 88)) w2 := hx.trans (hB2.mono (by have := hx.size; simp at this ⊢ <;> omega))
      have hb2 : Below w.heap.size w w2 := hW.trans (hx2.mono (by omega))
      have hc2 := (bcell hx2).1
      by_cases e2 : x.fArgs = y.fArgs
      · rw [deq_eq e2]
        have E2 := Lib.hid e2; clear e2
        go_wp2
        go_ret
        exact ⟨ret_bool (deq_eq (TType.ext E0.out E1.out E2.out)).symm, hb2⟩
      · rw [deq_ne e2]
        have E2 := Lib.hid e2; clear e2
        go_wp2
        go_ret
        exact ⟨ret_bool (deq_ne (fun q => E2.out (congrArg (·.fArgs) q))).symm, hb2⟩
    · have b1 : (!x.fName.toList == y.fName.toList) = true := by simpa using fun q => e1 (ba_ext q)
      have E1 := Lib.hid e1; clear e1
      go_wp2
      go_ret
      exact ⟨ret_bool (deq_ne (fun q => E1.out (congrArg (·.fName) q))).symm, hW⟩
  · have b0 : (x.fKind != y.fKind) = true := by simpa using e0
    have E0 := Lib.hid e0; clear e0
    go_wp2
    go_ret
    exact ⟨ret_bool (deq_ne (fun q => E0.out (congrArg (·.fKind) q))).symm, hW⟩
set_option maxRecDepth 100000 in
set_option maxHeartbeats 1000000 in
theorem stepEqTypeS (N : Nat) (iEqType : EqType N) (_iEqTypeS : EqTypeS N) : EqTypeS (N + 1) := by
  intro l m hN w K hK u v h k
  obtain ⟨a, cap, rfl, hc, hm, -, hE⟩ := open_sl TType.width h
  obtain ⟨a', cap', rfl, hc', hm', -, hE'⟩ := open_sl TType.width k
  unfold maxLen at hm hm'
  clear h k
  by_cases hl : l.length = m.length
  · have hl1 : l.length ≤ m.length := by omega
    have hl2 : m.length ≤ l.length := by omega
    have bl : (l.length != m.length) = false := by simp [hl]
    have bl' : ((l.length : Int) != (m.length : Int)) = false := by simp [hl]
    have Hl := Lib.hid hl; clear hl
    have Hg : Hid (deq (l.drop 0) (m.drop 0) = deq l m) := rfl
    go_enter Tryz.func169, Tryz.ntmps169
    go_wp2
    go_loopw [5] (fun i wr => ∃ (n : Nat), n ≤ l.length ∧ i = .int .i64 n ∧ Hid (deq (l.drop n) (m.drop n) = deq l m) ∧ Below w.heap.size w wr) (fun i _ => l.length - (intOf i).toNat)
    case atStart => exact ⟨0, Nat.zero_le _, rfl, Hg, Below.refl _ _⟩
    case round =>
      clear Hg
      obtain ⟨n, hn, rfl, Hs, hB⟩ := hrel
      by_cases hlt : n < l.length
      · have hlt' : n < m.length := by omega
        obtain ⟨b, off, rfl, hKb, cs, hcs, hr⟩ := hE n hlt
        obtain ⟨b', off', rfl, hKb', cs', hcs', hr'⟩ := hE' n hlt'
        have gr := Rep.ext hB hK hr
        have gr' := Rep.ext hB hK hr'
        have gcs := hcs.ext hB (hK b hKb)
        have gcs' := hcs'.ext hB (hK b' hKb')
        have hK' : ∀ b, K b → b < wr.heap.size := fun b h => Nat.lt_of_lt_of_le (hK b h) hB.size
        have Hd : Hid (l.drop n = l[n] :: l.drop (n + 1)) := List.drop_eq_getElem_cons hlt
        have Hd' : Hid (m.drop n = m[n] :: m.drop (n + 1)) := List.drop_eq_getElem_cons hlt'
        clear hE hE' hcs hcs' hr hr'
        have hi : (Tryz.prog.info? 88).map (·.size) = some cs.length := by rw [Rep.length _ _ gr, TType.width]; exact infoE88
        have hi' : (Tryz.prog.info? 88).map (·.size) = some cs'.length := by rw [Rep.length _ _ gr', TType.width]; exact infoE88
        have hmem : l[n] ∈ l := List.getElem_mem hlt
        generalize l[n] = x at *
        generalize m[n] = y at *
        go_wp2_with fail
        have hI1 : ∀ w', Below wr.heap.size wr w' → Cells w' b (off + n * 3) cs := fun w' h => gcs.ext h (hK' b hKb)
        have hI2 : ∀ w', Below wr.heap.size wr w' → Cells w' b' (off' + n * 3) cs' := fun w' h => gcs'.ext h (hK' b' hKb')
        have hI0 : Below wr.heap.size wr wr.drew := (Below.refl _ _).drew
        refine rg 10 (Below wr.heap.size wr) (by kernel_rfl) rfl ?_
        refine rg_seg (fuel := 2) [0, 1, 2, 3, 4, 5, 6, 7] hI0 (by kernel_rfl) rfl ?_
        simp only [pick, List.getElem?_cons_zero, List.getElem?_cons_succ]
        iterate 3 (refine sg_fix _ rfl (fun w' hI => by go_simp; rfl) ?_; simp only [Act.put, List.setIfInBounds_toArray, List.set_cons_zero, List.set_cons_succ])
        refine sg_fix _ rfl (fun w' hI => run_ld 88 _ rfl b _ rfl cs (hI1 w' hI) _ Tryz.underlying88 hi) ?_
        simp only [Act.put, List.setIfInBounds_toArray, List.set_cons_zero, List.set_cons_succ]
        iterate 3 (refine sg_fix _ rfl (fun w' hI => by go_simp; rfl) ?_; simp only [Act.put, List.setIfInBounds_toArray, List.set_cons_zero, List.set_cons_succ])
        refine sg_fix _ rfl (fun w' hI => run_ld 88 _ rfl b' _ rfl cs' (hI2 w' hI) _ Tryz.underlying88 hi') ?_
        simp only [Act.put, List.setIfInBounds_toArray, List.set_cons_zero, List.set_cons_succ]
        refine sg_nil ?_
        refine rg_one (fuel := 1) 8 (by kernel_rfl) rfl (fun K1 hK1 => ?_)
        simp only [pick, List.getElem?_cons_zero, List.getElem?_cons_succ]
        refine rg_call rfl _ _ (by go_simp; exact ⟨rfl, rfl⟩) ?_
        refine (iEqType x y (by have := List.sizeOf_lt_of_mem hmem; omega) wr.drew K hK' _ _ (Rep.ext hI0 hK' gr) (Rep.ext hI0 hK' gr')).mono ?_
        rintro e w1 ⟨rfl, hB1⟩
        have hB2 := hB.drew.trans (hB1.mono hB.size)
        refine ⟨_, rfl, hK1 _ _ (hI0.trans hB1) ?_⟩
        simp only [Act.put, List.setIfInBounds_toArray, List.set_cons_zero, List.set_cons_succ]
        refine rg_seg (fuel := 0) [9] (hI0.trans hB1) (by kernel_rfl) rfl ?_
        simp only [pick, List.getElem?_cons_zero, List.getElem?_cons_succ]
        by_cases h3 : x = y
        · rw [deq_eq h3]
          have H3 := Lib.hid h3; clear h3
          refine sg_fix _ rfl (fun w' hI => by go_simp; rfl) ?_; simp only [Act.put, List.setIfInBounds_toArray, List.set_cons_zero, List.set_cons_succ]
          refine sg_nil (rg_end (by kernel_rfl) ?_)
          go_wp2
          go_roundw
          case rel =>
            refine ⟨n + 1, hlt, by go_num, ?_, hB2⟩
            have e := Hs.out
            rw [Hd.out, Hd'.out, H3.out, deq_cons] at e
            exact e
          case measure => simp [intOf]; omega
        · rw [deq_ne h3]
          refine sg_fix _ rfl (fun w' hI => by go_simp; rfl) ?_; simp only [Act.put, List.setIfInBounds_toArray, List.set_cons_zero, List.set_cons_succ]
          refine sg_nil (rg_end (by kernel_rfl) ?_)
          have e := Hs.out
          rw [Hd.out, Hd'.out, deq_ne (fun q => h3 (List.cons.inj q).1)] at e
          have Hf := Lib.hid e
          clear e h3
          go_wp2
          go_ret
          exact ⟨ret_bool Hf.out, hB2⟩
      · obtain rfl : n = l.length := by omega
        go_wp2
        go_ret
        refine ⟨ret_bool ?_, hB⟩
        rw [← Hs.out, List.drop_length, List.drop_eq_nil_of_le hl2]
        exact (deq_eq rfl).symm
  · have bl : (l.length != m.length) = true := by simpa using hl
    have bl' : ((l.length : Int) != (m.length : Int)) = true := by simp; omega
    have Hl := Lib.hid hl; clear hl
    go_enter Tryz.func169, Tryz.ntmps169
    go_wp2
    go_ret
    exact ⟨ret_bool (deq_ne (fun q => Hl.out (congrArg List.length q))).symm, Below.refl _ _⟩
theorem eqType_all : ∀ N : Nat, EqType N ∧ EqTypeS N
  | 0 => ⟨fun _ _ h => absurd h (Nat.not_lt_zero _), fun _ _ h => absurd h (Nat.not_lt_zero _)⟩
  | N + 1 => by
    obtain ⟨i0, i1⟩ := eqType_all N
    exact ⟨stepEqType N i0 i1, stepEqTypeS N i0 i1⟩
theorem eqType_c (x y : TType) : ∀ (w : World) (K : Nat → Prop) (_ : ∀ b, K b → b < w.heap.size) (cs ds : List Value) (_ : Rep w K x.enc cs) (_ : Rep w K y.enc ds),
    Calls Tryz.prog 142 #[.agg cs.toArray, .agg ds.toArray] w fun e w' => e = .returned (.bool (deq x y)) ∧ Below w.heap.size w w' := (eqType_all (SizeOf.sizeOf x + 1)).1 x y (Nat.lt_succ_self _)
theorem eqTypeS_c (l m : List TType) : ∀ (w : World) (K : Nat → Prop) (_ : ∀ b, K b → b < w.heap.size) (u v : Value) (_ : Rep w K (.sl (l.map TType.enc)) [u]) (_ : Rep w K (.sl (m.map TType.enc)) [v]),
    Calls Tryz.prog 169 #[u, v] w fun e w' => e = .returned (.bool (deq l m)) ∧ Below w.heap.size w w' := (eqType_all (SizeOf.sizeOf l + 1)).2 l m (Nat.lt_succ_self _)
theorem TBound.ext {x y : TBound} (e0 : x.fTrait = y.fTrait) (e1 : x.fType = y.fType) : x = y := by
  cases x; cases y; simp only at *; subst e0 e1; rfl
set_option maxRecDepth 100000 in
set_option maxHeartbeats 1000000 in
theorem eqBound_c (x y : TBound) : ∀ (w : World) (K : Nat → Prop) (_ : ∀ b, K b → b < w.heap.size) (cs ds : List Value) (_ : Rep w K x.enc cs) (_ : Rep w K y.enc ds),
    Calls Tryz.prog 189 #[.agg cs.toArray, .agg ds.toArray] w fun e w' => e = .returned (.bool (deq x y)) ∧ Below w.heap.size w w' := by
  intro w K hK cs ds h k
  obtain ⟨c1, c2, c3, rfl, hTrait, hType⟩ := TBound.opn h
  obtain ⟨d1, d2, d3, rfl, kTrait, kType⟩ := TBound.opn k
  clear h k
  clear hTrait kTrait
  have hW : Below w.heap.size w ((w.alloc (.cells #[.string x.fTrait, c1, c2, c3] 110)).alloc (.cells #[.string y.fTrait, d1, d2, d3] 110)) := ((Below.refl _ _).alloc (Nat.le_refl _) _).alloc (by simp) _
  have hx : Below (w.heap.size + 1 + 1) ((w.alloc (.cells #[.string x.fTrait, c1, c2, c3] 110)).alloc (.cells #[.string y.fTrait, d1, d2, d3] 110)) ((w.alloc (.cells #[.string x.fTrait, c1, c2, c3] 110)).alloc (.cells #[.string y.fTrait, d1, d2, d3] 110)) := Below.refl _ _
  go_enter Tryz.func189, Tryz.ntmps189
  by_cases e0 : x.fTrait = y.fTrait
  · have b0 : (!x.fTrait.toList == y.fTrait.toList) = false := by simp [e0]
    have E0 := Lib.hid e0; clear e0
    go_wp2_with fail
    refine (eqType_c x.fType y.fType _ K (fun b hb => Nat.lt_of_lt_of_le (hK b hb) hW.size) _ _ (Rep.ext hW hK hType) (Rep.ext hW hK kType)).mono ?_
    rintro e w1 ⟨rfl, hB1⟩
    have hx1 : Below (w.heap.size + 1 + 1) ((w.alloc (.cells #[.string x.fTrait, c1, c2, c3] 110)).alloc (.cells #[.string y.fTrait, d1, d2, d3] 110)) w1 := hx.trans (hB1.mono (by have := hx.size; simp at this ⊢ <;> omega))
    have hb1 : Below w.heap.size w w1 := hW.trans (hx1.mono (by omega))
    have hc1 := (bcell hx1).1
    by_cases e1 : x.fType = y.fType
    · rw [deq_eq e1]
      have E1 := Lib.hid e1; clear e1
      go_wp2
      go_ret
      exact ⟨ret_bool (deq_eq (TBound.ext E0.out E1.out)).symm, hb1⟩
    · rw [deq_ne e1]
      have E1 := Lib.hid e1; clear e1
      go_wp2
      go_ret
      exact ⟨ret_bool (deq_ne (fun q => E1.out (congrArg (·.fType) q))).symm, hb1⟩
  · have b0 : (!x.fTrait.toList == y.fTrait.toList) = true := by simpa using fun q => e0 (ba_ext q)
    have E0 := Lib.hid e0; clear e0
    go_wp2
    go_ret
    exact ⟨ret_bool (deq_ne (fun q => E0.out (congrArg (·.fTrait) q))).symm, hW⟩
theorem infoE110 : (Tryz.prog.info? 110).map (·.size) = some 4 := by kernel_rfl
set_option maxRecDepth 100000 in
set_option maxHeartbeats 1000000 in
theorem eqBoundS_c (l m : List TBound) : ∀ (w : World) (K : Nat → Prop) (_ : ∀ b, K b → b < w.heap.size) (u v : Value) (_ : Rep w K (.sl (l.map TBound.enc)) [u]) (_ : Rep w K (.sl (m.map TBound.enc)) [v]),
    Calls Tryz.prog 140 #[u, v] w fun e w' => e = .returned (.bool (deq l m)) ∧ Below w.heap.size w w' := by
  intro w K hK u v h k
  obtain ⟨a, cap, rfl, hc, hm, -, hE⟩ := open_sl TBound.width h
  obtain ⟨a', cap', rfl, hc', hm', -, hE'⟩ := open_sl TBound.width k
  unfold maxLen at hm hm'
  clear h k
  by_cases hl : l.length = m.length
  · have hl1 : l.length ≤ m.length := by omega
    have hl2 : m.length ≤ l.length := by omega
    have bl : (l.length != m.length) = false := by simp [hl]
    have bl' : ((l.length : Int) != (m.length : Int)) = false := by simp [hl]
    have Hl := Lib.hid hl; clear hl
    have Hg : Hid (deq (l.drop 0) (m.drop 0) = deq l m) := rfl
    go_enter Tryz.func140, Tryz.ntmps140
    go_wp2
    go_loopw [5] (fun i wr => ∃ (n : Nat), n ≤ l.length ∧ i = .int .i64 n ∧ Hid (deq (l.drop n) (m.drop n) = deq l m) ∧ Below w.heap.size w wr) (fun i _ => l.length - (intOf i).toNat)
    case atStart => exact ⟨0, Nat.zero_le _, rfl, Hg, Below.refl _ _⟩
    case round =>
      clear Hg
      obtain ⟨n, hn, rfl, Hs, hB⟩ := hrel
      by_cases hlt : n < l.length
      · have hlt' : n < m.length := by omega
        obtain ⟨b, off, rfl, hKb, cs, hcs, hr⟩ := hE n hlt
        obtain ⟨b', off', rfl, hKb', cs', hcs', hr'⟩ := hE' n hlt'
        have gr := Rep.ext hB hK hr
        have gr' := Rep.ext hB hK hr'
        have gcs := hcs.ext hB (hK b hKb)
        have gcs' := hcs'.ext hB (hK b' hKb')
        have hK' : ∀ b, K b → b < wr.heap.size := fun b h => Nat.lt_of_lt_of_le (hK b h) hB.size
        have Hd : Hid (l.drop n = l[n] :: l.drop (n + 1)) := List.drop_eq_getElem_cons hlt
        have Hd' : Hid (m.drop n = m[n] :: m.drop (n + 1)) := List.drop_eq_getElem_cons hlt'
        clear hE hE' hcs hcs' hr hr'
        have hi : (Tryz.prog.info? 110).map (·.size) = some cs.length := by rw [Rep.length _ _ gr, TBound.width]; exact infoE110
        have hi' : (Tryz.prog.info? 110).map (·.size) = some cs'.length := by rw [Rep.length _ _ gr', TBound.width]; exact infoE110
        have hmem : l[n] ∈ l := List.getElem_mem hlt
        generalize l[n] = x at *
        generalize m[n] = y at *
        go_wp2_with fail
        have hI1 : ∀ w', Below wr.heap.size wr w' → Cells w' b (off + n * 4) cs := fun w' h => gcs.ext h (hK' b hKb)
        have hI2 : ∀ w', Below wr.heap.size wr w' → Cells w' b' (off' + n * 4) cs' := fun w' h => gcs'.ext h (hK' b' hKb')
        have hI0 : Below wr.heap.size wr wr.drew := (Below.refl _ _).drew
        refine rg 10 (Below wr.heap.size wr) (by kernel_rfl) rfl ?_
        refine rg_seg (fuel := 2) [0, 1, 2, 3, 4, 5, 6, 7] hI0 (by kernel_rfl) rfl ?_
        simp only [pick, List.getElem?_cons_zero, List.getElem?_cons_succ]
        iterate 3 (refine sg_fix _ rfl (fun w' hI => by go_simp; rfl) ?_; simp only [Act.put, List.setIfInBounds_toArray, List.set_cons_zero, List.set_cons_succ])
        refine sg_fix _ rfl (fun w' hI => run_ld 110 _ rfl b _ rfl cs (hI1 w' hI) _ Tryz.underlying110 hi) ?_
        simp only [Act.put, List.setIfInBounds_toArray, List.set_cons_zero, List.set_cons_succ]
        iterate 3 (refine sg_fix _ rfl (fun w' hI => by go_simp; rfl) ?_; simp only [Act.put, List.setIfInBounds_toArray, List.set_cons_zero, List.set_cons_succ])
        refine sg_fix _ rfl (fun w' hI => run_ld 110 _ rfl b' _ rfl cs' (hI2 w' hI) _ Tryz.underlying110 hi') ?_
        simp only [Act.put, List.setIfInBounds_toArray, List.set_cons_zero, List.set_cons_succ]
        refine sg_nil ?_
        refine rg_one (fuel := 1) 8 (by kernel_rfl) rfl (fun K1 hK1 => ?_)
        simp only [pick, List.getElem?_cons_zero, List.getElem?_cons_succ]
        refine rg_call rfl _ _ (by go_simp; exact ⟨rfl, rfl⟩) ?_
        refine (eqBound_c x y wr.drew K hK' _ _ (Rep.ext hI0 hK' gr) (Rep.ext hI0 hK' gr')).mono ?_
        rintro e w1 ⟨rfl, hB1⟩
        have hB2 := hB.drew.trans (hB1.mono hB.size)
        refine ⟨_, rfl, hK1 _ _ (hI0.trans hB1) ?_⟩
        simp only [Act.put, List.setIfInBounds_toArray, List.set_cons_zero, List.set_cons_succ]
        refine rg_seg (fuel := 0) [9] (hI0.trans hB1) (by kernel_rfl) rfl ?_
        simp only [pick, List.getElem?_cons_zero, List.getElem?_cons_succ]
        by_cases h3 : x = y
        · rw [deq_eq h3]
          have H3 := Lib.hid h3; clear h3
          refine sg_fix _ rfl (fun w' hI => by go_simp; rfl) ?_; simp only [Act.put, List.setIfInBounds_toArray, List.set_cons_zero, List.set_cons_succ]
          refine sg_nil (rg_end (by kernel_rfl) ?_)
          go_wp2
          go_roundw
          case rel =>
            refine ⟨n + 1, hlt, by go_num, ?_, hB2⟩
            have e := Hs.out
            rw [Hd.out, Hd'.out, H3.out, deq_cons] at e
            exact e
          case measure => simp [intOf]; omega
        · rw [deq_ne h3]
          refine sg_fix _ rfl (fun w' hI => by go_simp; rfl) ?_; simp only [Act.put, List.setIfInBounds_toArray, List.set_cons_zero, List.set_cons_succ]
          refine sg_nil (rg_end (by kernel_rfl) ?_)
          have e := Hs.out
          rw [Hd.out, Hd'.out, deq_ne (fun q => h3 (List.cons.inj q).1)] at e
          have Hf := Lib.hid e
          clear e h3
          go_wp2
          go_ret
          exact ⟨ret_bool Hf.out, hB2⟩
      · obtain rfl : n = l.length := by omega
        go_wp2
        go_ret
        refine ⟨ret_bool ?_, hB⟩
        rw [← Hs.out, List.drop_length, List.drop_eq_nil_of_le hl2]
        exact (deq_eq rfl).symm
  · have bl : (l.length != m.length) = true := by simpa using hl
    have bl' : ((l.length : Int) != (m.length : Int)) = true := by simp; omega
    have Hl := Lib.hid hl; clear hl
    go_enter Tryz.func140, Tryz.ntmps140
    go_wp2
    go_ret
    exact ⟨ret_bool (deq_ne (fun q => Hl.out (congrArg List.length q))).symm, Below.refl _ _⟩
theorem TCoreArm.ext {x y : TCoreArm} (e0 : x.fConstructor = y.fConstructor) (e1 : x.fVars = y.fVars) (e2 : x.fBody = y.fBody) : x = y := by
  cases x; cases y; simp only at *; subst e0 e1 e2; rfl
theorem TCore.ext {x y : TCore} (e0 : x.fKind = y.fKind) (e1 : x.fTrait = y.fTrait) (e2 : x.fName = y.fName) (e3 : x.fN = y.fN) (e4 : x.fType = y.fType) (e5 : x.fTypeArgs = y.fTypeArgs) (e6 : x.fEvidence = y.fEvidence) (e7 : x.fArgs = y.fArgs) (e8 : x.fArms = y.fArms) : x = y := by
  cases x; cases y; simp only at *; subst e0 e1 e2 e3 e4 e5 e6 e7 e8; rfl
theorem infoE242 : (Tryz.prog.info? 242).map (·.size) = some 13 := by kernel_rfl
theorem infoE136 : (Tryz.prog.info? 136).map (·.size) = some 11 := by kernel_rfl
def EqCoreArm (N : Nat) : Prop := ∀ (x y : TCoreArm), SizeOf.sizeOf x < N → ∀ (w : World) (K : Nat → Prop) (_ : ∀ b, K b → b < w.heap.size) (cs ds : List Value) (_ : Rep w K x.enc cs) (_ : Rep w K y.enc ds),
    Calls Tryz.prog 235 #[.agg cs.toArray, .agg ds.toArray] w fun e w' => e = .returned (.bool (deq x y)) ∧ Below w.heap.size w w'
def EqCoreArmS (N : Nat) : Prop := ∀ (l m : List TCoreArm), SizeOf.sizeOf l < N → ∀ (w : World) (K : Nat → Prop) (_ : ∀ b, K b → b < w.heap.size) (u v : Value) (_ : Rep w K (.sl (l.map TCoreArm.enc)) [u]) (_ : Rep w K (.sl (m.map TCoreArm.enc)) [v]),
    Calls Tryz.prog 198 #[u, v] w fun e w' => e = .returned (.bool (deq l m)) ∧ Below w.heap.size w w'
def EqCore (N : Nat) : Prop := ∀ (x y : TCore), SizeOf.sizeOf x < N → ∀ (w : World) (K : Nat → Prop) (_ : ∀ b, K b → b < w.heap.size) (cs ds : List Value) (_ : Rep w K x.enc cs) (_ : Rep w K y.enc ds),
    Calls Tryz.prog 143 #[.agg cs.toArray, .agg ds.toArray] w fun e w' => e = .returned (.bool (deq x y)) ∧ Below w.heap.size w w'
def EqCoreS (N : Nat) : Prop := ∀ (l m : List TCore), SizeOf.sizeOf l < N → ∀ (w : World) (K : Nat → Prop) (_ : ∀ b, K b → b < w.heap.size) (u v : Value) (_ : Rep w K (.sl (l.map TCore.enc)) [u]) (_ : Rep w K (.sl (m.map TCore.enc)) [v]),
    Calls Tryz.prog 197 #[u, v] w fun e w' => e = .returned (.bool (deq l m)) ∧ Below w.heap.size w w'
set_option maxRecDepth 100000 in
set_option maxHeartbeats 1000000 in
theorem stepEqCoreArm (N : Nat) (_iEqCoreArm : EqCoreArm N) (_iEqCoreArmS : EqCoreArmS N) (iEqCore : EqCore N) (_iEqCoreS : EqCoreS N) : EqCoreArm (N + 1) := by
  intro x y hN w K hK cs ds h k
  obtain ⟨c1, c2, c3, c4, c5, c6, c7, c8, c9, c10, c11, c12, rfl, hConstructor, hVars, hBody⟩ := TCoreArm.opn h
  obtain ⟨d1, d2, d3, d4, d5, d6, d7, d8, d9, d10, d11, d12, rfl, kConstructor, kVars, kBody⟩ := TCoreArm.opn k
  clear h k
  clear hConstructor kConstructor
  have hW : Below w.heap.size w ((w.alloc (.cells #[.string x.fConstructor, c1, c2, c3, c4, c5, c6, c7, c8, c9, c10, c11, c12] 242)).alloc (.cells #[.string y.fConstructor, d1, d2, d3, d4, d5, d6, d7, d8, d9, d10, d11, d12] 242)) := ((Below.refl _ _).alloc (Nat.le_refl _) _).alloc (by simp) _
  have hx : Below (w.heap.size + 1 + 1) ((w.alloc (.cells #[.string x.fConstructor, c1, c2, c3, c4, c5, c6, c7, c8, c9, c10, c11, c12] 242)).alloc (.cells #[.string y.fConstructor, d1, d2, d3, d4, d5, d6, d7, d8, d9, d10, d11, d12] 242)) ((w.alloc (.cells #[.string x.fConstructor, c1, c2, c3, c4, c5, c6, c7, c8, c9, c10, c11, c12] 242)).alloc (.cells #[.string y.fConstructor, d1, d2, d3, d4, d5, d6, d7, d8, d9, d10, d11, d12] 242)) := Below.refl _ _
  go_enter Tryz.func235, Tryz.ntmps235
  by_cases e0 : x.fConstructor = y.fConstructor
  · have b0 : (!x.fConstructor.toList == y.fConstructor.toList) = false := by simp [e0]
    have E0 := Lib.hid e0; clear e0
    go_wp2_with fail
    refine (eqStringS_c x.fVars y.fVars _ K (fun b hb => Nat.lt_of_lt_of_le (hK b hb) hW.size) _ _ (Rep.ext hW hK hVars) (Rep.ext hW hK kVars)).mono ?_
    rintro e w1 ⟨rfl, hB1⟩
    have hx1 : Below (w.heap.size + 1 + 1) ((w.alloc (.cells #[.string x.fConstructor, c1, c2, c3, c4, c5, c6, c7, c8, c9, c10, c11, c12] 242)).alloc (.cells #[.string y.fConstructor, d1, d2, d3, d4, d5, d6, d7, d8, d9, d10, d11, d12] 242)) w1 := hx.trans (hB1.mono (by have := hx.size; simp at this ⊢ <;> omega))
    have hb1 : Below w.heap.size w w1 := hW.trans (hx1.mono (by omega))
    have hc1 := (bcell hx1).1
    by_cases e1 : x.fVars = y.fVars
    · rw [deq_eq e1]
      have E1 := Lib.hid e1; clear e1
      go_wp2_with fail
      refine (iEqCore x.fBody y.fBody (by have := TCoreArm.lt_fBody x; omega) _ K (fun b hb => Nat.lt_of_lt_of_le (hK b hb) hb1.size) _ _ (Rep.ext hb1 hK hBody) (Rep.ext hb1 hK kBody)).mono ?_
      rintro e w2 ⟨rfl, hB2⟩
      have hx2 : Below (w.heap.size + 1 + 1) ((w.alloc (.cells #[.string x.fConstructor, c1, c2, c3, c4, c5, c6, c7, c8, c9, c10, c11, c12] 242)).alloc (.cells #[.string y.fConstructor, d1, d2, d3, d4, d5, d6, d7, d8, d9, d10, d11, d12] 242)) w2 := hx1.trans (hB2.mono (by have := hx1.size; simp at this ⊢ <;> omega))
      have hb2 : Below w.heap.size w w2 := hW.trans (hx2.mono (by omega))
      have hc2 := (bcell hx2).1
      by_cases e2 : x.fBody = y.fBody
      · rw [deq_eq e2]
        have E2 := Lib.hid e2; clear e2
        go_wp2
        go_ret
        exact ⟨ret_bool (deq_eq (TCoreArm.ext E0.out E1.out E2.out)).symm, hb2⟩
      · rw [deq_ne e2]
        have E2 := Lib.hid e2; clear e2
        go_wp2
        go_ret
        exact ⟨ret_bool (deq_ne (fun q => E2.out (congrArg (·.fBody) q))).symm, hb2⟩
    · rw [deq_ne e1]
      have E1 := Lib.hid e1; clear e1
      go_wp2
      go_ret
      exact ⟨ret_bool (deq_ne (fun q => E1.out (congrArg (·.fVars) q))).symm, hb1⟩
  · have b0 : (!x.fConstructor.toList == y.fConstructor.toList) = true := by simpa using fun q => e0 (ba_ext q)
    have E0 := Lib.hid e0; clear e0
    go_wp2
    go_ret
    exact ⟨ret_bool (deq_ne (fun q => E0.out (congrArg (·.fConstructor) q))).symm, hW⟩
set_option maxRecDepth 100000 in
set_option maxHeartbeats 1000000 in
theorem stepEqCoreArmS (N : Nat) (iEqCoreArm : EqCoreArm N) (_iEqCoreArmS : EqCoreArmS N) (_iEqCore : EqCore N) (_iEqCoreS : EqCoreS N) : EqCoreArmS (N + 1) := by
  intro l m hN w K hK u v h k
  obtain ⟨a, cap, rfl, hc, hm, -, hE⟩ := open_sl TCoreArm.width h
  obtain ⟨a', cap', rfl, hc', hm', -, hE'⟩ := open_sl TCoreArm.width k
  unfold maxLen at hm hm'
  clear h k
  by_cases hl : l.length = m.length
  · have hl1 : l.length ≤ m.length := by omega
    have hl2 : m.length ≤ l.length := by omega
    have bl : (l.length != m.length) = false := by simp [hl]
    have bl' : ((l.length : Int) != (m.length : Int)) = false := by simp [hl]
    have Hl := Lib.hid hl; clear hl
    have Hg : Hid (deq (l.drop 0) (m.drop 0) = deq l m) := rfl
    go_enter Tryz.func198, Tryz.ntmps198
    go_wp2
    go_loopw [5] (fun i wr => ∃ (n : Nat), n ≤ l.length ∧ i = .int .i64 n ∧ Hid (deq (l.drop n) (m.drop n) = deq l m) ∧ Below w.heap.size w wr) (fun i _ => l.length - (intOf i).toNat)
    case atStart => exact ⟨0, Nat.zero_le _, rfl, Hg, Below.refl _ _⟩
    case round =>
      clear Hg
      obtain ⟨n, hn, rfl, Hs, hB⟩ := hrel
      by_cases hlt : n < l.length
      · have hlt' : n < m.length := by omega
        obtain ⟨b, off, rfl, hKb, cs, hcs, hr⟩ := hE n hlt
        obtain ⟨b', off', rfl, hKb', cs', hcs', hr'⟩ := hE' n hlt'
        have gr := Rep.ext hB hK hr
        have gr' := Rep.ext hB hK hr'
        have gcs := hcs.ext hB (hK b hKb)
        have gcs' := hcs'.ext hB (hK b' hKb')
        have hK' : ∀ b, K b → b < wr.heap.size := fun b h => Nat.lt_of_lt_of_le (hK b h) hB.size
        have Hd : Hid (l.drop n = l[n] :: l.drop (n + 1)) := List.drop_eq_getElem_cons hlt
        have Hd' : Hid (m.drop n = m[n] :: m.drop (n + 1)) := List.drop_eq_getElem_cons hlt'
        clear hE hE' hcs hcs' hr hr'
        have hi : (Tryz.prog.info? 242).map (·.size) = some cs.length := by rw [Rep.length _ _ gr, TCoreArm.width]; exact infoE242
        have hi' : (Tryz.prog.info? 242).map (·.size) = some cs'.length := by rw [Rep.length _ _ gr', TCoreArm.width]; exact infoE242
        have hmem : l[n] ∈ l := List.getElem_mem hlt
        generalize l[n] = x at *
        generalize m[n] = y at *
        go_wp2_with fail
        have hI1 : ∀ w', Below wr.heap.size wr w' → Cells w' b (off + n * 13) cs := fun w' h => gcs.ext h (hK' b hKb)
        have hI2 : ∀ w', Below wr.heap.size wr w' → Cells w' b' (off' + n * 13) cs' := fun w' h => gcs'.ext h (hK' b' hKb')
        have hI0 : Below wr.heap.size wr wr.drew := (Below.refl _ _).drew
        refine rg 10 (Below wr.heap.size wr) (by kernel_rfl) rfl ?_
        refine rg_seg (fuel := 2) [0, 1, 2, 3, 4, 5, 6, 7] hI0 (by kernel_rfl) rfl ?_
        simp only [pick, List.getElem?_cons_zero, List.getElem?_cons_succ]
        iterate 3 (refine sg_fix _ rfl (fun w' hI => by go_simp; rfl) ?_; simp only [Act.put, List.setIfInBounds_toArray, List.set_cons_zero, List.set_cons_succ])
        refine sg_fix _ rfl (fun w' hI => run_ld 242 _ rfl b _ rfl cs (hI1 w' hI) _ Tryz.underlying242 hi) ?_
        simp only [Act.put, List.setIfInBounds_toArray, List.set_cons_zero, List.set_cons_succ]
        iterate 3 (refine sg_fix _ rfl (fun w' hI => by go_simp; rfl) ?_; simp only [Act.put, List.setIfInBounds_toArray, List.set_cons_zero, List.set_cons_succ])
        refine sg_fix _ rfl (fun w' hI => run_ld 242 _ rfl b' _ rfl cs' (hI2 w' hI) _ Tryz.underlying242 hi') ?_
        simp only [Act.put, List.setIfInBounds_toArray, List.set_cons_zero, List.set_cons_succ]
        refine sg_nil ?_
        refine rg_one (fuel := 1) 8 (by kernel_rfl) rfl (fun K1 hK1 => ?_)
        simp only [pick, List.getElem?_cons_zero, List.getElem?_cons_succ]
        refine rg_call rfl _ _ (by go_simp; exact ⟨rfl, rfl⟩) ?_
        refine (iEqCoreArm x y (by have := List.sizeOf_lt_of_mem hmem; omega) wr.drew K hK' _ _ (Rep.ext hI0 hK' gr) (Rep.ext hI0 hK' gr')).mono ?_
        rintro e w1 ⟨rfl, hB1⟩
        have hB2 := hB.drew.trans (hB1.mono hB.size)
        refine ⟨_, rfl, hK1 _ _ (hI0.trans hB1) ?_⟩
        simp only [Act.put, List.setIfInBounds_toArray, List.set_cons_zero, List.set_cons_succ]
        refine rg_seg (fuel := 0) [9] (hI0.trans hB1) (by kernel_rfl) rfl ?_
        simp only [pick, List.getElem?_cons_zero, List.getElem?_cons_succ]
        by_cases h3 : x = y
        · rw [deq_eq h3]
          have H3 := Lib.hid h3; clear h3
          refine sg_fix _ rfl (fun w' hI => by go_simp; rfl) ?_; simp only [Act.put, List.setIfInBounds_toArray, List.set_cons_zero, List.set_cons_succ]
          refine sg_nil (rg_end (by kernel_rfl) ?_)
          go_wp2
          go_roundw
          case rel =>
            refine ⟨n + 1, hlt, by go_num, ?_, hB2⟩
            have e := Hs.out
            rw [Hd.out, Hd'.out, H3.out, deq_cons] at e
            exact e
          case measure => simp [intOf]; omega
        · rw [deq_ne h3]
          refine sg_fix _ rfl (fun w' hI => by go_simp; rfl) ?_; simp only [Act.put, List.setIfInBounds_toArray, List.set_cons_zero, List.set_cons_succ]
          refine sg_nil (rg_end (by kernel_rfl) ?_)
          have e := Hs.out
          rw [Hd.out, Hd'.out, deq_ne (fun q => h3 (List.cons.inj q).1)] at e
          have Hf := Lib.hid e
          clear e h3
          go_wp2
          go_ret
          exact ⟨ret_bool Hf.out, hB2⟩
      · obtain rfl : n = l.length := by omega
        go_wp2
        go_ret
        refine ⟨ret_bool ?_, hB⟩
        rw [← Hs.out, List.drop_length, List.drop_eq_nil_of_le hl2]
        exact (deq_eq rfl).symm
  · have bl : (l.length != m.length) = true := by simpa using hl
    have bl' : ((l.length : Int) != (m.length : Int)) = true := by simp; omega
    have Hl := Lib.hid hl; clear hl
    go_enter Tryz.func198, Tryz.ntmps198
    go_wp2
    go_ret
    exact ⟨ret_bool (deq_ne (fun q => Hl.out (congrArg List.length q))).symm, Below.refl _ _⟩
set_option maxRecDepth 100000 in
set_option maxHeartbeats 1000000 in
theorem stepEqCore (N : Nat) (_iEqCoreArm : EqCoreArm N) (iEqCoreArmS : EqCoreArmS N) (_iEqCore : EqCore N) (iEqCoreS : EqCoreS N) : EqCore (N + 1) := by
  intro x y hN w K hK cs ds h k
  obtain ⟨c4, c5, c6, c7, c8, c9, c10, rfl, hKind, hTrait, hName, hN, hType, hTypeArgs, hEvidence, hArgs, hArms⟩ := TCore.opn h
  obtain ⟨d4, d5, d6, d7, d8, d9, d10, rfl, kKind, kTrait, kName, kN, kType, kTypeArgs, kEvidence, kArgs, kArms⟩ := TCore.opn k
  clear h k
  clear hKind kKind
  clear hTrait kTrait
  clear hName kName
  clear hN kN
  have hW : Below w.heap.size w ((w.alloc (.cells #[.int .i64 x.fKind, .string x.fTrait, .string x.fName, .int .i64 x.fN, c4, c5, c6, c7, c8, c9, c10] 136)).alloc (.cells #[.int .i64 y.fKind, .string y.fTrait, .string y.fName, .int .i64 y.fN, d4, d5, d6, d7, d8, d9, d10] 136)) := ((Below.refl _ _).alloc (Nat.le_refl _) _).alloc (by simp) _
  have hx : Below (w.heap.size + 1 + 1) ((w.alloc (.cells #[.int .i64 x.fKind, .string x.fTrait, .string x.fName, .int .i64 x.fN, c4, c5, c6, c7, c8, c9, c10] 136)).alloc (.cells #[.int .i64 y.fKind, .string y.fTrait, .string y.fName, .int .i64 y.fN, d4, d5, d6, d7, d8, d9, d10] 136)) ((w.alloc (.cells #[.int .i64 x.fKind, .string x.fTrait, .string x.fName, .int .i64 x.fN, c4, c5, c6, c7, c8, c9, c10] 136)).alloc (.cells #[.int .i64 y.fKind, .string y.fTrait, .string y.fName, .int .i64 y.fN, d4, d5, d6, d7, d8, d9, d10] 136)) := Below.refl _ _
  go_enter Tryz.func143, Tryz.ntmps143
  by_cases e0 : x.fKind = y.fKind
  · have b0 : (x.fKind != y.fKind) = false := by simp [e0]
    have E0 := Lib.hid e0; clear e0
    by_cases e1 : x.fTrait = y.fTrait
    · have b1 : (!x.fTrait.toList == y.fTrait.toList) = false := by simp [e1]
      have E1 := Lib.hid e1; clear e1
      by_cases e2 : x.fName = y.fName
      · have b2 : (!x.fName.toList == y.fName.toList) = false := by simp [e2]
        have E2 := Lib.hid e2; clear e2
        by_cases e3 : x.fN = y.fN
        · have b3 : (x.fN != y.fN) = false := by simp [e3]
          have E3 := Lib.hid e3; clear e3
          go_wp2_with fail
          refine (eqType_c x.fType y.fType _ K (fun b hb => Nat.lt_of_lt_of_le (hK b hb) hW.size) _ _ (Rep.ext hW hK hType) (Rep.ext hW hK kType)).mono ?_
          rintro e w4 ⟨rfl, hB4⟩
          have hx4 : Below (w.heap.size + 1 + 1) ((w.alloc (.cells #[.int .i64 x.fKind, .string x.fTrait, .string x.fName, .int .i64 x.fN, c4, c5, c6, c7, c8, c9, c10] 136)).alloc (.cells #[.int .i64 y.fKind, .string y.fTrait, .string y.fName, .int .i64 y.fN, d4, d5, d6, d7, d8, d9, d10] 136)) w4 := hx.trans (hB4.mono (by have := hx.size; simp at this ⊢ <;> omega))
          have hb4 : Below w.heap.size w w4 := hW.trans (hx4.mono (by omega))
          have hc4 := (bcell hx4).1
          by_cases e4 : x.fType = y.fType
          · rw [deq_eq e4]
            have E4 := Lib.hid e4; clear e4
            go_wp2_with fail
            refine (eqTypeS_c x.fTypeArgs y.fTypeArgs _ K (fun b hb => Nat.lt_of_lt_of_le (hK b hb) hb4.size) _ _ (Rep.ext hb4 hK hTypeArgs) (Rep.ext hb4 hK kTypeArgs)).mono ?_
            rintro e w5 ⟨rfl, hB5⟩
            have hx5 : Below (w.heap.size + 1 + 1) ((w.alloc (.cells #[.int .i64 x.fKind, .string x.fTrait, .string x.fName, .int .i64 x.fN, c4, c5, c6, c7, c8, c9, c10] 136)).alloc (.cells #[.int .i64 y.fKind, .string y.fTrait, .string y.fName, .int .i64 y.fN, d4, d5, d6, d7, d8, d9, d10] 136)) w5 := hx4.trans (hB5.mono (by have := hx4.size; simp at this ⊢ <;> omega))
            have hb5 : Below w.heap.size w w5 := hW.trans (hx5.mono (by omega))
            have hc5 := (bcell hx5).1
            by_cases e5 : x.fTypeArgs = y.fTypeArgs
            · rw [deq_eq e5]
              have E5 := Lib.hid e5; clear e5
              go_wp2_with fail
              refine (eqEvidenceS_c x.fEvidence y.fEvidence _ K (fun b hb => Nat.lt_of_lt_of_le (hK b hb) hb5.size) _ _ (Rep.ext hb5 hK hEvidence) (Rep.ext hb5 hK kEvidence)).mono ?_
              rintro e w6 ⟨rfl, hB6⟩
              have hx6 : Below (w.heap.size + 1 + 1) ((w.alloc (.cells #[.int .i64 x.fKind, .string x.fTrait, .string x.fName, .int .i64 x.fN, c4, c5, c6, c7, c8, c9, c10] 136)).alloc (.cells #[.int .i64 y.fKind, .string y.fTrait, .string y.fName, .int .i64 y.fN, d4, d5, d6, d7, d8, d9, d10] 136)) w6 := hx5.trans (hB6.mono (by have := hx5.size; simp at this ⊢ <;> omega))
              have hb6 : Below w.heap.size w w6 := hW.trans (hx6.mono (by omega))
              have hc6 := (bcell hx6).1
              by_cases e6 : x.fEvidence = y.fEvidence
              · rw [deq_eq e6]
                have E6 := Lib.hid e6; clear e6
                go_wp2_with fail
                refine (iEqCoreS x.fArgs y.fArgs (by have := TCore.lt_fArgs x; omega) _ K (fun b hb => Nat.lt_of_lt_of_le (hK b hb) hb6.size) _ _ (Rep.ext hb6 hK hArgs) (Rep.ext hb6 hK kArgs)).mono ?_
                rintro e w7 ⟨rfl, hB7⟩
                have hx7 : Below (w.heap.size + 1 + 1) ((w.alloc (.cells #[.int .i64 x.fKind, .string x.fTrait, .string x.fName, .int .i64 x.fN, c4, c5, c6, c7, c8, c9, c10] 136)).alloc (.cells #[.int .i64 y.fKind, .string y.fTrait, .string y.fName, .int .i64 y.fN, d4, d5, d6, d7, d8, d9, d10] 136)) w7 := hx6.trans (hB7.mono (by have := hx6.size; simp at this ⊢ <;> omega))
                have hb7 : Below w.heap.size w w7 := hW.trans (hx7.mono (by omega))
                have hc7 := (bcell hx7).1
                by_cases e7 : x.fArgs = y.fArgs
                · rw [deq_eq e7]
                  have E7 := Lib.hid e7; clear e7
                  go_wp2_with fail
                  refine (iEqCoreArmS x.fArms y.fArms (by have := TCore.lt_fArms x; omega) _ K (fun b hb => Nat.lt_of_lt_of_le (hK b hb) hb7.size) _ _ (Rep.ext hb7 hK hArms) (Rep.ext hb7 hK kArms)).mono ?_
                  rintro e w8 ⟨rfl, hB8⟩
                  have hx8 : Below (w.heap.size + 1 + 1) ((w.alloc (.cells #[.int .i64 x.fKind, .string x.fTrait, .string x.fName, .int .i64 x.fN, c4, c5, c6, c7, c8, c9, c10] 136)).alloc (.cells #[.int .i64 y.fKind, .string y.fTrait, .string y.fName, .int .i64 y.fN, d4, d5, d6, d7, d8, d9, d10] 136)) w8 := hx7.trans (hB8.mono (by have := hx7.size; simp at this ⊢ <;> omega))
                  have hb8 : Below w.heap.size w w8 := hW.trans (hx8.mono (by omega))
                  have hc8 := (bcell hx8).1
                  by_cases e8 : x.fArms = y.fArms
                  · rw [deq_eq e8]
                    have E8 := Lib.hid e8; clear e8
                    go_wp2
                    go_ret
                    exact ⟨ret_bool (deq_eq (TCore.ext E0.out E1.out E2.out E3.out E4.out E5.out E6.out E7.out E8.out)).symm, hb8⟩
                  · rw [deq_ne e8]
                    have E8 := Lib.hid e8; clear e8
                    go_wp2
                    go_ret
                    exact ⟨ret_bool (deq_ne (fun q => E8.out (congrArg (·.fArms) q))).symm, hb8⟩
                · rw [deq_ne e7]
                  have E7 := Lib.hid e7; clear e7
                  go_wp2
                  go_ret
                  exact ⟨ret_bool (deq_ne (fun q => E7.out (congrArg (·.fArgs) q))).symm, hb7⟩
              · rw [deq_ne e6]
                have E6 := Lib.hid e6; clear e6
                go_wp2
                go_ret
                exact ⟨ret_bool (deq_ne (fun q => E6.out (congrArg (·.fEvidence) q))).symm, hb6⟩
            · rw [deq_ne e5]
              have E5 := Lib.hid e5; clear e5
              go_wp2
              go_ret
              exact ⟨ret_bool (deq_ne (fun q => E5.out (congrArg (·.fTypeArgs) q))).symm, hb5⟩
          · rw [deq_ne e4]
            have E4 := Lib.hid e4; clear e4
            go_wp2
            go_ret
            exact ⟨ret_bool (deq_ne (fun q => E4.out (congrArg (·.fType) q))).symm, hb4⟩
        · have b3 : (x.fN != y.fN) = true := by simpa using e3
          have E3 := Lib.hid e3; clear e3
          go_wp2
          go_ret
          exact ⟨ret_bool (deq_ne (fun q => E3.out (congrArg (·.fN) q))).symm, hW⟩
      · have b2 : (!x.fName.toList == y.fName.toList) = true := by simpa using fun q => e2 (ba_ext q)
        have E2 := Lib.hid e2; clear e2
        go_wp2
        go_ret
        exact ⟨ret_bool (deq_ne (fun q => E2.out (congrArg (·.fName) q))).symm, hW⟩
    · have b1 : (!x.fTrait.toList == y.fTrait.toList) = true := by simpa using fun q => e1 (ba_ext q)
      have E1 := Lib.hid e1; clear e1
      go_wp2
      go_ret
      exact ⟨ret_bool (deq_ne (fun q => E1.out (congrArg (·.fTrait) q))).symm, hW⟩
  · have b0 : (x.fKind != y.fKind) = true := by simpa using e0
    have E0 := Lib.hid e0; clear e0
    go_wp2
    go_ret
    exact ⟨ret_bool (deq_ne (fun q => E0.out (congrArg (·.fKind) q))).symm, hW⟩
set_option maxRecDepth 100000 in
set_option maxHeartbeats 1000000 in
theorem stepEqCoreS (N : Nat) (_iEqCoreArm : EqCoreArm N) (_iEqCoreArmS : EqCoreArmS N) (iEqCore : EqCore N) (_iEqCoreS : EqCoreS N) : EqCoreS (N + 1) := by
  intro l m hN w K hK u v h k
  obtain ⟨a, cap, rfl, hc, hm, -, hE⟩ := open_sl TCore.width h
  obtain ⟨a', cap', rfl, hc', hm', -, hE'⟩ := open_sl TCore.width k
  unfold maxLen at hm hm'
  clear h k
  by_cases hl : l.length = m.length
  · have hl1 : l.length ≤ m.length := by omega
    have hl2 : m.length ≤ l.length := by omega
    have bl : (l.length != m.length) = false := by simp [hl]
    have bl' : ((l.length : Int) != (m.length : Int)) = false := by simp [hl]
    have Hl := Lib.hid hl; clear hl
    have Hg : Hid (deq (l.drop 0) (m.drop 0) = deq l m) := rfl
    go_enter Tryz.func197, Tryz.ntmps197
    go_wp2
    go_loopw [5] (fun i wr => ∃ (n : Nat), n ≤ l.length ∧ i = .int .i64 n ∧ Hid (deq (l.drop n) (m.drop n) = deq l m) ∧ Below w.heap.size w wr) (fun i _ => l.length - (intOf i).toNat)
    case atStart => exact ⟨0, Nat.zero_le _, rfl, Hg, Below.refl _ _⟩
    case round =>
      clear Hg
      obtain ⟨n, hn, rfl, Hs, hB⟩ := hrel
      by_cases hlt : n < l.length
      · have hlt' : n < m.length := by omega
        obtain ⟨b, off, rfl, hKb, cs, hcs, hr⟩ := hE n hlt
        obtain ⟨b', off', rfl, hKb', cs', hcs', hr'⟩ := hE' n hlt'
        have gr := Rep.ext hB hK hr
        have gr' := Rep.ext hB hK hr'
        have gcs := hcs.ext hB (hK b hKb)
        have gcs' := hcs'.ext hB (hK b' hKb')
        have hK' : ∀ b, K b → b < wr.heap.size := fun b h => Nat.lt_of_lt_of_le (hK b h) hB.size
        have Hd : Hid (l.drop n = l[n] :: l.drop (n + 1)) := List.drop_eq_getElem_cons hlt
        have Hd' : Hid (m.drop n = m[n] :: m.drop (n + 1)) := List.drop_eq_getElem_cons hlt'
        clear hE hE' hcs hcs' hr hr'
        have hi : (Tryz.prog.info? 136).map (·.size) = some cs.length := by rw [Rep.length _ _ gr, TCore.width]; exact infoE136
        have hi' : (Tryz.prog.info? 136).map (·.size) = some cs'.length := by rw [Rep.length _ _ gr', TCore.width]; exact infoE136
        have hmem : l[n] ∈ l := List.getElem_mem hlt
        generalize l[n] = x at *
        generalize m[n] = y at *
        go_wp2_with fail
        have hI1 : ∀ w', Below wr.heap.size wr w' → Cells w' b (off + n * 11) cs := fun w' h => gcs.ext h (hK' b hKb)
        have hI2 : ∀ w', Below wr.heap.size wr w' → Cells w' b' (off' + n * 11) cs' := fun w' h => gcs'.ext h (hK' b' hKb')
        have hI0 : Below wr.heap.size wr wr.drew := (Below.refl _ _).drew
        refine rg 10 (Below wr.heap.size wr) (by kernel_rfl) rfl ?_
        refine rg_seg (fuel := 2) [0, 1, 2, 3, 4, 5, 6, 7] hI0 (by kernel_rfl) rfl ?_
        simp only [pick, List.getElem?_cons_zero, List.getElem?_cons_succ]
        iterate 3 (refine sg_fix _ rfl (fun w' hI => by go_simp; rfl) ?_; simp only [Act.put, List.setIfInBounds_toArray, List.set_cons_zero, List.set_cons_succ])
        refine sg_fix _ rfl (fun w' hI => run_ld 136 _ rfl b _ rfl cs (hI1 w' hI) _ Tryz.underlying136 hi) ?_
        simp only [Act.put, List.setIfInBounds_toArray, List.set_cons_zero, List.set_cons_succ]
        iterate 3 (refine sg_fix _ rfl (fun w' hI => by go_simp; rfl) ?_; simp only [Act.put, List.setIfInBounds_toArray, List.set_cons_zero, List.set_cons_succ])
        refine sg_fix _ rfl (fun w' hI => run_ld 136 _ rfl b' _ rfl cs' (hI2 w' hI) _ Tryz.underlying136 hi') ?_
        simp only [Act.put, List.setIfInBounds_toArray, List.set_cons_zero, List.set_cons_succ]
        refine sg_nil ?_
        refine rg_one (fuel := 1) 8 (by kernel_rfl) rfl (fun K1 hK1 => ?_)
        simp only [pick, List.getElem?_cons_zero, List.getElem?_cons_succ]
        refine rg_call rfl _ _ (by go_simp; exact ⟨rfl, rfl⟩) ?_
        refine (iEqCore x y (by have := List.sizeOf_lt_of_mem hmem; omega) wr.drew K hK' _ _ (Rep.ext hI0 hK' gr) (Rep.ext hI0 hK' gr')).mono ?_
        rintro e w1 ⟨rfl, hB1⟩
        have hB2 := hB.drew.trans (hB1.mono hB.size)
        refine ⟨_, rfl, hK1 _ _ (hI0.trans hB1) ?_⟩
        simp only [Act.put, List.setIfInBounds_toArray, List.set_cons_zero, List.set_cons_succ]
        refine rg_seg (fuel := 0) [9] (hI0.trans hB1) (by kernel_rfl) rfl ?_
        simp only [pick, List.getElem?_cons_zero, List.getElem?_cons_succ]
        by_cases h3 : x = y
        · rw [deq_eq h3]
          have H3 := Lib.hid h3; clear h3
          refine sg_fix _ rfl (fun w' hI => by go_simp; rfl) ?_; simp only [Act.put, List.setIfInBounds_toArray, List.set_cons_zero, List.set_cons_succ]
          refine sg_nil (rg_end (by kernel_rfl) ?_)
          go_wp2
          go_roundw
          case rel =>
            refine ⟨n + 1, hlt, by go_num, ?_, hB2⟩
            have e := Hs.out
            rw [Hd.out, Hd'.out, H3.out, deq_cons] at e
            exact e
          case measure => simp [intOf]; omega
        · rw [deq_ne h3]
          refine sg_fix _ rfl (fun w' hI => by go_simp; rfl) ?_; simp only [Act.put, List.setIfInBounds_toArray, List.set_cons_zero, List.set_cons_succ]
          refine sg_nil (rg_end (by kernel_rfl) ?_)
          have e := Hs.out
          rw [Hd.out, Hd'.out, deq_ne (fun q => h3 (List.cons.inj q).1)] at e
          have Hf := Lib.hid e
          clear e h3
          go_wp2
          go_ret
          exact ⟨ret_bool Hf.out, hB2⟩
      · obtain rfl : n = l.length := by omega
        go_wp2
        go_ret
        refine ⟨ret_bool ?_, hB⟩
        rw [← Hs.out, List.drop_length, List.drop_eq_nil_of_le hl2]
        exact (deq_eq rfl).symm
  · have bl : (l.length != m.length) = true := by simpa using hl
    have bl' : ((l.length : Int) != (m.length : Int)) = true := by simp; omega
    have Hl := Lib.hid hl; clear hl
    go_enter Tryz.func197, Tryz.ntmps197
    go_wp2
    go_ret
    exact ⟨ret_bool (deq_ne (fun q => Hl.out (congrArg List.length q))).symm, Below.refl _ _⟩
theorem eqCoreArmCore_all : ∀ N : Nat, EqCoreArm N ∧ EqCoreArmS N ∧ EqCore N ∧ EqCoreS N
  | 0 => ⟨fun _ _ h => absurd h (Nat.not_lt_zero _), fun _ _ h => absurd h (Nat.not_lt_zero _), fun _ _ h => absurd h (Nat.not_lt_zero _), fun _ _ h => absurd h (Nat.not_lt_zero _)⟩
  | N + 1 => by
    obtain ⟨i0, i1, i2, i3⟩ := eqCoreArmCore_all N
    exact ⟨stepEqCoreArm N i0 i1 i2 i3, stepEqCoreArmS N i0 i1 i2 i3, stepEqCore N i0 i1 i2 i3, stepEqCoreS N i0 i1 i2 i3⟩
theorem eqCoreArm_c (x y : TCoreArm) : ∀ (w : World) (K : Nat → Prop) (_ : ∀ b, K b → b < w.heap.size) (cs ds : List Value) (_ : Rep w K x.enc cs) (_ : Rep w K y.enc ds),
    Calls Tryz.prog 235 #[.agg cs.toArray, .agg ds.toArray] w fun e w' => e = .returned (.bool (deq x y)) ∧ Below w.heap.size w w' := (eqCoreArmCore_all (SizeOf.sizeOf x + 1)).1 x y (Nat.lt_succ_self _)
theorem eqCoreArmS_c (l m : List TCoreArm) : ∀ (w : World) (K : Nat → Prop) (_ : ∀ b, K b → b < w.heap.size) (u v : Value) (_ : Rep w K (.sl (l.map TCoreArm.enc)) [u]) (_ : Rep w K (.sl (m.map TCoreArm.enc)) [v]),
    Calls Tryz.prog 198 #[u, v] w fun e w' => e = .returned (.bool (deq l m)) ∧ Below w.heap.size w w' := (eqCoreArmCore_all (SizeOf.sizeOf l + 1)).2.1 l m (Nat.lt_succ_self _)
theorem eqCore_c (x y : TCore) : ∀ (w : World) (K : Nat → Prop) (_ : ∀ b, K b → b < w.heap.size) (cs ds : List Value) (_ : Rep w K x.enc cs) (_ : Rep w K y.enc ds),
    Calls Tryz.prog 143 #[.agg cs.toArray, .agg ds.toArray] w fun e w' => e = .returned (.bool (deq x y)) ∧ Below w.heap.size w w' := (eqCoreArmCore_all (SizeOf.sizeOf x + 1)).2.2.1 x y (Nat.lt_succ_self _)
theorem eqCoreS_c (l m : List TCore) : ∀ (w : World) (K : Nat → Prop) (_ : ∀ b, K b → b < w.heap.size) (u v : Value) (_ : Rep w K (.sl (l.map TCore.enc)) [u]) (_ : Rep w K (.sl (m.map TCore.enc)) [v]),
    Calls Tryz.prog 197 #[u, v] w fun e w' => e = .returned (.bool (deq l m)) ∧ Below w.heap.size w w' := (eqCoreArmCore_all (SizeOf.sizeOf l + 1)).2.2.2 l m (Nat.lt_succ_self _)
theorem TParam.ext {x y : TParam} (e0 : x.fName = y.fName) (e1 : x.fType = y.fType) : x = y := by
  cases x; cases y; simp only at *; subst e0 e1; rfl
set_option maxRecDepth 100000 in
set_option maxHeartbeats 1000000 in
theorem eqParam_c (x y : TParam) : ∀ (w : World) (K : Nat → Prop) (_ : ∀ b, K b → b < w.heap.size) (cs ds : List Value) (_ : Rep w K x.enc cs) (_ : Rep w K y.enc ds),
    Calls Tryz.prog 195 #[.agg cs.toArray, .agg ds.toArray] w fun e w' => e = .returned (.bool (deq x y)) ∧ Below w.heap.size w w' := by
  intro w K hK cs ds h k
  obtain ⟨c1, c2, c3, rfl, hName, hType⟩ := TParam.opn h
  obtain ⟨d1, d2, d3, rfl, kName, kType⟩ := TParam.opn k
  clear h k
  clear hName kName
  have hW : Below w.heap.size w ((w.alloc (.cells #[.string x.fName, c1, c2, c3] 223)).alloc (.cells #[.string y.fName, d1, d2, d3] 223)) := ((Below.refl _ _).alloc (Nat.le_refl _) _).alloc (by simp) _
  have hx : Below (w.heap.size + 1 + 1) ((w.alloc (.cells #[.string x.fName, c1, c2, c3] 223)).alloc (.cells #[.string y.fName, d1, d2, d3] 223)) ((w.alloc (.cells #[.string x.fName, c1, c2, c3] 223)).alloc (.cells #[.string y.fName, d1, d2, d3] 223)) := Below.refl _ _
  go_enter Tryz.func195, Tryz.ntmps195
  by_cases e0 : x.fName = y.fName
  · have b0 : (!x.fName.toList == y.fName.toList) = false := by simp [e0]
    have E0 := Lib.hid e0; clear e0
    go_wp2_with fail
    refine (eqType_c x.fType y.fType _ K (fun b hb => Nat.lt_of_lt_of_le (hK b hb) hW.size) _ _ (Rep.ext hW hK hType) (Rep.ext hW hK kType)).mono ?_
    rintro e w1 ⟨rfl, hB1⟩
    have hx1 : Below (w.heap.size + 1 + 1) ((w.alloc (.cells #[.string x.fName, c1, c2, c3] 223)).alloc (.cells #[.string y.fName, d1, d2, d3] 223)) w1 := hx.trans (hB1.mono (by have := hx.size; simp at this ⊢ <;> omega))
    have hb1 : Below w.heap.size w w1 := hW.trans (hx1.mono (by omega))
    have hc1 := (bcell hx1).1
    by_cases e1 : x.fType = y.fType
    · rw [deq_eq e1]
      have E1 := Lib.hid e1; clear e1
      go_wp2
      go_ret
      exact ⟨ret_bool (deq_eq (TParam.ext E0.out E1.out)).symm, hb1⟩
    · rw [deq_ne e1]
      have E1 := Lib.hid e1; clear e1
      go_wp2
      go_ret
      exact ⟨ret_bool (deq_ne (fun q => E1.out (congrArg (·.fType) q))).symm, hb1⟩
  · have b0 : (!x.fName.toList == y.fName.toList) = true := by simpa using fun q => e0 (ba_ext q)
    have E0 := Lib.hid e0; clear e0
    go_wp2
    go_ret
    exact ⟨ret_bool (deq_ne (fun q => E0.out (congrArg (·.fName) q))).symm, hW⟩
theorem infoE223 : (Tryz.prog.info? 223).map (·.size) = some 4 := by kernel_rfl
set_option maxRecDepth 100000 in
set_option maxHeartbeats 1000000 in
theorem eqParamS_c (l m : List TParam) : ∀ (w : World) (K : Nat → Prop) (_ : ∀ b, K b → b < w.heap.size) (u v : Value) (_ : Rep w K (.sl (l.map TParam.enc)) [u]) (_ : Rep w K (.sl (m.map TParam.enc)) [v]),
    Calls Tryz.prog 141 #[u, v] w fun e w' => e = .returned (.bool (deq l m)) ∧ Below w.heap.size w w' := by
  intro w K hK u v h k
  obtain ⟨a, cap, rfl, hc, hm, -, hE⟩ := open_sl TParam.width h
  obtain ⟨a', cap', rfl, hc', hm', -, hE'⟩ := open_sl TParam.width k
  unfold maxLen at hm hm'
  clear h k
  by_cases hl : l.length = m.length
  · have hl1 : l.length ≤ m.length := by omega
    have hl2 : m.length ≤ l.length := by omega
    have bl : (l.length != m.length) = false := by simp [hl]
    have bl' : ((l.length : Int) != (m.length : Int)) = false := by simp [hl]
    have Hl := Lib.hid hl; clear hl
    have Hg : Hid (deq (l.drop 0) (m.drop 0) = deq l m) := rfl
    go_enter Tryz.func141, Tryz.ntmps141
    go_wp2
    go_loopw [5] (fun i wr => ∃ (n : Nat), n ≤ l.length ∧ i = .int .i64 n ∧ Hid (deq (l.drop n) (m.drop n) = deq l m) ∧ Below w.heap.size w wr) (fun i _ => l.length - (intOf i).toNat)
    case atStart => exact ⟨0, Nat.zero_le _, rfl, Hg, Below.refl _ _⟩
    case round =>
      clear Hg
      obtain ⟨n, hn, rfl, Hs, hB⟩ := hrel
      by_cases hlt : n < l.length
      · have hlt' : n < m.length := by omega
        obtain ⟨b, off, rfl, hKb, cs, hcs, hr⟩ := hE n hlt
        obtain ⟨b', off', rfl, hKb', cs', hcs', hr'⟩ := hE' n hlt'
        have gr := Rep.ext hB hK hr
        have gr' := Rep.ext hB hK hr'
        have gcs := hcs.ext hB (hK b hKb)
        have gcs' := hcs'.ext hB (hK b' hKb')
        have hK' : ∀ b, K b → b < wr.heap.size := fun b h => Nat.lt_of_lt_of_le (hK b h) hB.size
        have Hd : Hid (l.drop n = l[n] :: l.drop (n + 1)) := List.drop_eq_getElem_cons hlt
        have Hd' : Hid (m.drop n = m[n] :: m.drop (n + 1)) := List.drop_eq_getElem_cons hlt'
        clear hE hE' hcs hcs' hr hr'
        have hi : (Tryz.prog.info? 223).map (·.size) = some cs.length := by rw [Rep.length _ _ gr, TParam.width]; exact infoE223
        have hi' : (Tryz.prog.info? 223).map (·.size) = some cs'.length := by rw [Rep.length _ _ gr', TParam.width]; exact infoE223
        have hmem : l[n] ∈ l := List.getElem_mem hlt
        generalize l[n] = x at *
        generalize m[n] = y at *
        go_wp2_with fail
        have hI1 : ∀ w', Below wr.heap.size wr w' → Cells w' b (off + n * 4) cs := fun w' h => gcs.ext h (hK' b hKb)
        have hI2 : ∀ w', Below wr.heap.size wr w' → Cells w' b' (off' + n * 4) cs' := fun w' h => gcs'.ext h (hK' b' hKb')
        have hI0 : Below wr.heap.size wr wr.drew := (Below.refl _ _).drew
        refine rg 10 (Below wr.heap.size wr) (by kernel_rfl) rfl ?_
        refine rg_seg (fuel := 2) [0, 1, 2, 3, 4, 5, 6, 7] hI0 (by kernel_rfl) rfl ?_
        simp only [pick, List.getElem?_cons_zero, List.getElem?_cons_succ]
        iterate 3 (refine sg_fix _ rfl (fun w' hI => by go_simp; rfl) ?_; simp only [Act.put, List.setIfInBounds_toArray, List.set_cons_zero, List.set_cons_succ])
        refine sg_fix _ rfl (fun w' hI => run_ld 223 _ rfl b _ rfl cs (hI1 w' hI) _ Tryz.underlying223 hi) ?_
        simp only [Act.put, List.setIfInBounds_toArray, List.set_cons_zero, List.set_cons_succ]
        iterate 3 (refine sg_fix _ rfl (fun w' hI => by go_simp; rfl) ?_; simp only [Act.put, List.setIfInBounds_toArray, List.set_cons_zero, List.set_cons_succ])
        refine sg_fix _ rfl (fun w' hI => run_ld 223 _ rfl b' _ rfl cs' (hI2 w' hI) _ Tryz.underlying223 hi') ?_
        simp only [Act.put, List.setIfInBounds_toArray, List.set_cons_zero, List.set_cons_succ]
        refine sg_nil ?_
        refine rg_one (fuel := 1) 8 (by kernel_rfl) rfl (fun K1 hK1 => ?_)
        simp only [pick, List.getElem?_cons_zero, List.getElem?_cons_succ]
        refine rg_call rfl _ _ (by go_simp; exact ⟨rfl, rfl⟩) ?_
        refine (eqParam_c x y wr.drew K hK' _ _ (Rep.ext hI0 hK' gr) (Rep.ext hI0 hK' gr')).mono ?_
        rintro e w1 ⟨rfl, hB1⟩
        have hB2 := hB.drew.trans (hB1.mono hB.size)
        refine ⟨_, rfl, hK1 _ _ (hI0.trans hB1) ?_⟩
        simp only [Act.put, List.setIfInBounds_toArray, List.set_cons_zero, List.set_cons_succ]
        refine rg_seg (fuel := 0) [9] (hI0.trans hB1) (by kernel_rfl) rfl ?_
        simp only [pick, List.getElem?_cons_zero, List.getElem?_cons_succ]
        by_cases h3 : x = y
        · rw [deq_eq h3]
          have H3 := Lib.hid h3; clear h3
          refine sg_fix _ rfl (fun w' hI => by go_simp; rfl) ?_; simp only [Act.put, List.setIfInBounds_toArray, List.set_cons_zero, List.set_cons_succ]
          refine sg_nil (rg_end (by kernel_rfl) ?_)
          go_wp2
          go_roundw
          case rel =>
            refine ⟨n + 1, hlt, by go_num, ?_, hB2⟩
            have e := Hs.out
            rw [Hd.out, Hd'.out, H3.out, deq_cons] at e
            exact e
          case measure => simp [intOf]; omega
        · rw [deq_ne h3]
          refine sg_fix _ rfl (fun w' hI => by go_simp; rfl) ?_; simp only [Act.put, List.setIfInBounds_toArray, List.set_cons_zero, List.set_cons_succ]
          refine sg_nil (rg_end (by kernel_rfl) ?_)
          have e := Hs.out
          rw [Hd.out, Hd'.out, deq_ne (fun q => h3 (List.cons.inj q).1)] at e
          have Hf := Lib.hid e
          clear e h3
          go_wp2
          go_ret
          exact ⟨ret_bool Hf.out, hB2⟩
      · obtain rfl : n = l.length := by omega
        go_wp2
        go_ret
        refine ⟨ret_bool ?_, hB⟩
        rw [← Hs.out, List.drop_length, List.drop_eq_nil_of_le hl2]
        exact (deq_eq rfl).symm
  · have bl : (l.length != m.length) = true := by simpa using hl
    have bl' : ((l.length : Int) != (m.length : Int)) = true := by simp; omega
    have Hl := Lib.hid hl; clear hl
    go_enter Tryz.func141, Tryz.ntmps141
    go_wp2
    go_ret
    exact ⟨ret_bool (deq_ne (fun q => Hl.out (congrArg List.length q))).symm, Below.refl _ _⟩
theorem TUnit.ext {x y : TUnit} (e0 : x.fKind = y.fKind) (e1 : x.fPackage = y.fPackage) (e2 : x.fAt = y.fAt) (e3 : x.fSub = y.fSub) (e4 : x.fVars = y.fVars) (e5 : x.fWhere = y.fWhere) (e6 : x.fParams = y.fParams) (e7 : x.fResult = y.fResult) (e8 : x.fBody = y.fBody) : x = y := by
  cases x; cases y; simp only at *; subst e0 e1 e2 e3 e4 e5 e6 e7 e8; rfl
set_option maxRecDepth 100000 in
set_option maxHeartbeats 1000000 in
theorem eqUnit_c (x y : TUnit) : ∀ (w : World) (K : Nat → Prop) (_ : ∀ b, K b → b < w.heap.size) (cs ds : List Value) (_ : Rep w K x.enc cs) (_ : Rep w K y.enc ds),
    Calls Tryz.prog 73 #[.agg cs.toArray, .agg ds.toArray] w fun e w' => e = .returned (.bool (deq x y)) ∧ Below w.heap.size w w' := by
  intro w K hK cs ds h k
  obtain ⟨c4, c5, c6, c7, c8, c9, c10, c11, c12, c13, c14, c15, c16, c17, c18, c19, c20, rfl, hKind, hPackage, hAt, hSub, hVars, hWhere, hParams, hResult, hBody⟩ := TUnit.opn h
  obtain ⟨d4, d5, d6, d7, d8, d9, d10, d11, d12, d13, d14, d15, d16, d17, d18, d19, d20, rfl, kKind, kPackage, kAt, kSub, kVars, kWhere, kParams, kResult, kBody⟩ := TUnit.opn k
  clear h k
  clear hKind kKind
  clear hPackage kPackage
  clear hAt kAt
  clear hSub kSub
  have hW : Below w.heap.size w ((w.alloc (.cells #[.int .i64 x.fKind, .int .i64 x.fPackage, .int .i64 x.fAt, .int .i64 x.fSub, c4, c5, c6, c7, c8, c9, c10, c11, c12, c13, c14, c15, c16, c17, c18, c19, c20] 138)).alloc (.cells #[.int .i64 y.fKind, .int .i64 y.fPackage, .int .i64 y.fAt, .int .i64 y.fSub, d4, d5, d6, d7, d8, d9, d10, d11, d12, d13, d14, d15, d16, d17, d18, d19, d20] 138)) := ((Below.refl _ _).alloc (Nat.le_refl _) _).alloc (by simp) _
  have hx : Below (w.heap.size + 1 + 1) ((w.alloc (.cells #[.int .i64 x.fKind, .int .i64 x.fPackage, .int .i64 x.fAt, .int .i64 x.fSub, c4, c5, c6, c7, c8, c9, c10, c11, c12, c13, c14, c15, c16, c17, c18, c19, c20] 138)).alloc (.cells #[.int .i64 y.fKind, .int .i64 y.fPackage, .int .i64 y.fAt, .int .i64 y.fSub, d4, d5, d6, d7, d8, d9, d10, d11, d12, d13, d14, d15, d16, d17, d18, d19, d20] 138)) ((w.alloc (.cells #[.int .i64 x.fKind, .int .i64 x.fPackage, .int .i64 x.fAt, .int .i64 x.fSub, c4, c5, c6, c7, c8, c9, c10, c11, c12, c13, c14, c15, c16, c17, c18, c19, c20] 138)).alloc (.cells #[.int .i64 y.fKind, .int .i64 y.fPackage, .int .i64 y.fAt, .int .i64 y.fSub, d4, d5, d6, d7, d8, d9, d10, d11, d12, d13, d14, d15, d16, d17, d18, d19, d20] 138)) := Below.refl _ _
  go_enter Tryz.func73, Tryz.ntmps73
  by_cases e0 : x.fKind = y.fKind
  · have b0 : (x.fKind != y.fKind) = false := by simp [e0]
    have E0 := Lib.hid e0; clear e0
    by_cases e1 : x.fPackage = y.fPackage
    · have b1 : (x.fPackage != y.fPackage) = false := by simp [e1]
      have E1 := Lib.hid e1; clear e1
      by_cases e2 : x.fAt = y.fAt
      · have b2 : (x.fAt != y.fAt) = false := by simp [e2]
        have E2 := Lib.hid e2; clear e2
        by_cases e3 : x.fSub = y.fSub
        · have b3 : (x.fSub != y.fSub) = false := by simp [e3]
          have E3 := Lib.hid e3; clear e3
          go_wp2_with fail
          refine (eqStringS_c x.fVars y.fVars _ K (fun b hb => Nat.lt_of_lt_of_le (hK b hb) hW.size) _ _ (Rep.ext hW hK hVars) (Rep.ext hW hK kVars)).mono ?_
          rintro e w4 ⟨rfl, hB4⟩
          have hx4 : Below (w.heap.size + 1 + 1) ((w.alloc (.cells #[.int .i64 x.fKind, .int .i64 x.fPackage, .int .i64 x.fAt, .int .i64 x.fSub, c4, c5, c6, c7, c8, c9, c10, c11, c12, c13, c14, c15, c16, c17, c18, c19, c20] 138)).alloc (.cells #[.int .i64 y.fKind, .int .i64 y.fPackage, .int .i64 y.fAt, .int .i64 y.fSub, d4, d5, d6, d7, d8, d9, d10, d11, d12, d13, d14, d15, d16, d17, d18, d19, d20] 138)) w4 := hx.trans (hB4.mono (by have := hx.size; simp at this ⊢ <;> omega))
          have hb4 : Below w.heap.size w w4 := hW.trans (hx4.mono (by omega))
          have hc4 := (bcell hx4).1
          by_cases e4 : x.fVars = y.fVars
          · rw [deq_eq e4]
            have E4 := Lib.hid e4; clear e4
            go_wp2_with fail
            refine (eqBoundS_c x.fWhere y.fWhere _ K (fun b hb => Nat.lt_of_lt_of_le (hK b hb) hb4.size) _ _ (Rep.ext hb4 hK hWhere) (Rep.ext hb4 hK kWhere)).mono ?_
            rintro e w5 ⟨rfl, hB5⟩
            have hx5 : Below (w.heap.size + 1 + 1) ((w.alloc (.cells #[.int .i64 x.fKind, .int .i64 x.fPackage, .int .i64 x.fAt, .int .i64 x.fSub, c4, c5, c6, c7, c8, c9, c10, c11, c12, c13, c14, c15, c16, c17, c18, c19, c20] 138)).alloc (.cells #[.int .i64 y.fKind, .int .i64 y.fPackage, .int .i64 y.fAt, .int .i64 y.fSub, d4, d5, d6, d7, d8, d9, d10, d11, d12, d13, d14, d15, d16, d17, d18, d19, d20] 138)) w5 := hx4.trans (hB5.mono (by have := hx4.size; simp at this ⊢ <;> omega))
            have hb5 : Below w.heap.size w w5 := hW.trans (hx5.mono (by omega))
            have hc5 := (bcell hx5).1
            by_cases e5 : x.fWhere = y.fWhere
            · rw [deq_eq e5]
              have E5 := Lib.hid e5; clear e5
              go_wp2_with fail
              refine (eqParamS_c x.fParams y.fParams _ K (fun b hb => Nat.lt_of_lt_of_le (hK b hb) hb5.size) _ _ (Rep.ext hb5 hK hParams) (Rep.ext hb5 hK kParams)).mono ?_
              rintro e w6 ⟨rfl, hB6⟩
              have hx6 : Below (w.heap.size + 1 + 1) ((w.alloc (.cells #[.int .i64 x.fKind, .int .i64 x.fPackage, .int .i64 x.fAt, .int .i64 x.fSub, c4, c5, c6, c7, c8, c9, c10, c11, c12, c13, c14, c15, c16, c17, c18, c19, c20] 138)).alloc (.cells #[.int .i64 y.fKind, .int .i64 y.fPackage, .int .i64 y.fAt, .int .i64 y.fSub, d4, d5, d6, d7, d8, d9, d10, d11, d12, d13, d14, d15, d16, d17, d18, d19, d20] 138)) w6 := hx5.trans (hB6.mono (by have := hx5.size; simp at this ⊢ <;> omega))
              have hb6 : Below w.heap.size w w6 := hW.trans (hx6.mono (by omega))
              have hc6 := (bcell hx6).1
              by_cases e6 : x.fParams = y.fParams
              · rw [deq_eq e6]
                have E6 := Lib.hid e6; clear e6
                go_wp2_with fail
                refine (eqType_c x.fResult y.fResult _ K (fun b hb => Nat.lt_of_lt_of_le (hK b hb) hb6.size) _ _ (Rep.ext hb6 hK hResult) (Rep.ext hb6 hK kResult)).mono ?_
                rintro e w7 ⟨rfl, hB7⟩
                have hx7 : Below (w.heap.size + 1 + 1) ((w.alloc (.cells #[.int .i64 x.fKind, .int .i64 x.fPackage, .int .i64 x.fAt, .int .i64 x.fSub, c4, c5, c6, c7, c8, c9, c10, c11, c12, c13, c14, c15, c16, c17, c18, c19, c20] 138)).alloc (.cells #[.int .i64 y.fKind, .int .i64 y.fPackage, .int .i64 y.fAt, .int .i64 y.fSub, d4, d5, d6, d7, d8, d9, d10, d11, d12, d13, d14, d15, d16, d17, d18, d19, d20] 138)) w7 := hx6.trans (hB7.mono (by have := hx6.size; simp at this ⊢ <;> omega))
                have hb7 : Below w.heap.size w w7 := hW.trans (hx7.mono (by omega))
                have hc7 := (bcell hx7).1
                by_cases e7 : x.fResult = y.fResult
                · rw [deq_eq e7]
                  have E7 := Lib.hid e7; clear e7
                  go_wp2_with fail
                  refine (eqCore_c x.fBody y.fBody _ K (fun b hb => Nat.lt_of_lt_of_le (hK b hb) hb7.size) _ _ (Rep.ext hb7 hK hBody) (Rep.ext hb7 hK kBody)).mono ?_
                  rintro e w8 ⟨rfl, hB8⟩
                  have hx8 : Below (w.heap.size + 1 + 1) ((w.alloc (.cells #[.int .i64 x.fKind, .int .i64 x.fPackage, .int .i64 x.fAt, .int .i64 x.fSub, c4, c5, c6, c7, c8, c9, c10, c11, c12, c13, c14, c15, c16, c17, c18, c19, c20] 138)).alloc (.cells #[.int .i64 y.fKind, .int .i64 y.fPackage, .int .i64 y.fAt, .int .i64 y.fSub, d4, d5, d6, d7, d8, d9, d10, d11, d12, d13, d14, d15, d16, d17, d18, d19, d20] 138)) w8 := hx7.trans (hB8.mono (by have := hx7.size; simp at this ⊢ <;> omega))
                  have hb8 : Below w.heap.size w w8 := hW.trans (hx8.mono (by omega))
                  have hc8 := (bcell hx8).1
                  by_cases e8 : x.fBody = y.fBody
                  · rw [deq_eq e8]
                    have E8 := Lib.hid e8; clear e8
                    go_wp2
                    go_ret
                    exact ⟨ret_bool (deq_eq (TUnit.ext E0.out E1.out E2.out E3.out E4.out E5.out E6.out E7.out E8.out)).symm, hb8⟩
                  · rw [deq_ne e8]
                    have E8 := Lib.hid e8; clear e8
                    go_wp2
                    go_ret
                    exact ⟨ret_bool (deq_ne (fun q => E8.out (congrArg (·.fBody) q))).symm, hb8⟩
                · rw [deq_ne e7]
                  have E7 := Lib.hid e7; clear e7
                  go_wp2
                  go_ret
                  exact ⟨ret_bool (deq_ne (fun q => E7.out (congrArg (·.fResult) q))).symm, hb7⟩
              · rw [deq_ne e6]
                have E6 := Lib.hid e6; clear e6
                go_wp2
                go_ret
                exact ⟨ret_bool (deq_ne (fun q => E6.out (congrArg (·.fParams) q))).symm, hb6⟩
            · rw [deq_ne e5]
              have E5 := Lib.hid e5; clear e5
              go_wp2
              go_ret
              exact ⟨ret_bool (deq_ne (fun q => E5.out (congrArg (·.fWhere) q))).symm, hb5⟩
          · rw [deq_ne e4]
            have E4 := Lib.hid e4; clear e4
            go_wp2
            go_ret
            exact ⟨ret_bool (deq_ne (fun q => E4.out (congrArg (·.fVars) q))).symm, hb4⟩
        · have b3 : (x.fSub != y.fSub) = true := by simpa using e3
          have E3 := Lib.hid e3; clear e3
          go_wp2
          go_ret
          exact ⟨ret_bool (deq_ne (fun q => E3.out (congrArg (·.fSub) q))).symm, hW⟩
      · have b2 : (x.fAt != y.fAt) = true := by simpa using e2
        have E2 := Lib.hid e2; clear e2
        go_wp2
        go_ret
        exact ⟨ret_bool (deq_ne (fun q => E2.out (congrArg (·.fAt) q))).symm, hW⟩
    · have b1 : (x.fPackage != y.fPackage) = true := by simpa using e1
      have E1 := Lib.hid e1; clear e1
      go_wp2
      go_ret
      exact ⟨ret_bool (deq_ne (fun q => E1.out (congrArg (·.fPackage) q))).symm, hW⟩
  · have b0 : (x.fKind != y.fKind) = true := by simpa using e0
    have E0 := Lib.hid e0; clear e0
    go_wp2
    go_ret
    exact ⟨ret_bool (deq_ne (fun q => E0.out (congrArg (·.fKind) q))).symm, hW⟩
theorem infoE138 : (Tryz.prog.info? 138).map (·.size) = some 21 := by kernel_rfl
set_option maxRecDepth 100000 in
set_option maxHeartbeats 1000000 in
theorem eqUnitS_c (l m : List TUnit) : ∀ (w : World) (K : Nat → Prop) (_ : ∀ b, K b → b < w.heap.size) (u v : Value) (_ : Rep w K (.sl (l.map TUnit.enc)) [u]) (_ : Rep w K (.sl (m.map TUnit.enc)) [v]),
    Calls Tryz.prog 28 #[u, v] w fun e w' => e = .returned (.bool (deq l m)) ∧ Below w.heap.size w w' := by
  intro w K hK u v h k
  obtain ⟨a, cap, rfl, hc, hm, -, hE⟩ := open_sl TUnit.width h
  obtain ⟨a', cap', rfl, hc', hm', -, hE'⟩ := open_sl TUnit.width k
  unfold maxLen at hm hm'
  clear h k
  by_cases hl : l.length = m.length
  · have hl1 : l.length ≤ m.length := by omega
    have hl2 : m.length ≤ l.length := by omega
    have bl : (l.length != m.length) = false := by simp [hl]
    have bl' : ((l.length : Int) != (m.length : Int)) = false := by simp [hl]
    have Hl := Lib.hid hl; clear hl
    have Hg : Hid (deq (l.drop 0) (m.drop 0) = deq l m) := rfl
    go_enter Tryz.func28, Tryz.ntmps28
    go_wp2
    go_loopw [5] (fun i wr => ∃ (n : Nat), n ≤ l.length ∧ i = .int .i64 n ∧ Hid (deq (l.drop n) (m.drop n) = deq l m) ∧ Below w.heap.size w wr) (fun i _ => l.length - (intOf i).toNat)
    case atStart => exact ⟨0, Nat.zero_le _, rfl, Hg, Below.refl _ _⟩
    case round =>
      clear Hg
      obtain ⟨n, hn, rfl, Hs, hB⟩ := hrel
      by_cases hlt : n < l.length
      · have hlt' : n < m.length := by omega
        obtain ⟨b, off, rfl, hKb, cs, hcs, hr⟩ := hE n hlt
        obtain ⟨b', off', rfl, hKb', cs', hcs', hr'⟩ := hE' n hlt'
        have gr := Rep.ext hB hK hr
        have gr' := Rep.ext hB hK hr'
        have gcs := hcs.ext hB (hK b hKb)
        have gcs' := hcs'.ext hB (hK b' hKb')
        have hK' : ∀ b, K b → b < wr.heap.size := fun b h => Nat.lt_of_lt_of_le (hK b h) hB.size
        have Hd : Hid (l.drop n = l[n] :: l.drop (n + 1)) := List.drop_eq_getElem_cons hlt
        have Hd' : Hid (m.drop n = m[n] :: m.drop (n + 1)) := List.drop_eq_getElem_cons hlt'
        clear hE hE' hcs hcs' hr hr'
        have hi : (Tryz.prog.info? 138).map (·.size) = some cs.length := by rw [Rep.length _ _ gr, TUnit.width]; exact infoE138
        have hi' : (Tryz.prog.info? 138).map (·.size) = some cs'.length := by rw [Rep.length _ _ gr', TUnit.width]; exact infoE138
        have hmem : l[n] ∈ l := List.getElem_mem hlt
        generalize l[n] = x at *
        generalize m[n] = y at *
        go_wp2_with fail
        have hI1 : ∀ w', Below wr.heap.size wr w' → Cells w' b (off + n * 21) cs := fun w' h => gcs.ext h (hK' b hKb)
        have hI2 : ∀ w', Below wr.heap.size wr w' → Cells w' b' (off' + n * 21) cs' := fun w' h => gcs'.ext h (hK' b' hKb')
        have hI0 : Below wr.heap.size wr wr.drew := (Below.refl _ _).drew
        refine rg 10 (Below wr.heap.size wr) (by kernel_rfl) rfl ?_
        refine rg_seg (fuel := 2) [0, 1, 2, 3, 4, 5, 6, 7] hI0 (by kernel_rfl) rfl ?_
        simp only [pick, List.getElem?_cons_zero, List.getElem?_cons_succ]
        iterate 3 (refine sg_fix _ rfl (fun w' hI => by go_simp; rfl) ?_; simp only [Act.put, List.setIfInBounds_toArray, List.set_cons_zero, List.set_cons_succ])
        refine sg_fix _ rfl (fun w' hI => run_ld 138 _ rfl b _ rfl cs (hI1 w' hI) _ Tryz.underlying138 hi) ?_
        simp only [Act.put, List.setIfInBounds_toArray, List.set_cons_zero, List.set_cons_succ]
        iterate 3 (refine sg_fix _ rfl (fun w' hI => by go_simp; rfl) ?_; simp only [Act.put, List.setIfInBounds_toArray, List.set_cons_zero, List.set_cons_succ])
        refine sg_fix _ rfl (fun w' hI => run_ld 138 _ rfl b' _ rfl cs' (hI2 w' hI) _ Tryz.underlying138 hi') ?_
        simp only [Act.put, List.setIfInBounds_toArray, List.set_cons_zero, List.set_cons_succ]
        refine sg_nil ?_
        refine rg_one (fuel := 1) 8 (by kernel_rfl) rfl (fun K1 hK1 => ?_)
        simp only [pick, List.getElem?_cons_zero, List.getElem?_cons_succ]
        refine rg_call rfl _ _ (by go_simp; exact ⟨rfl, rfl⟩) ?_
        refine (eqUnit_c x y wr.drew K hK' _ _ (Rep.ext hI0 hK' gr) (Rep.ext hI0 hK' gr')).mono ?_
        rintro e w1 ⟨rfl, hB1⟩
        have hB2 := hB.drew.trans (hB1.mono hB.size)
        refine ⟨_, rfl, hK1 _ _ (hI0.trans hB1) ?_⟩
        simp only [Act.put, List.setIfInBounds_toArray, List.set_cons_zero, List.set_cons_succ]
        refine rg_seg (fuel := 0) [9] (hI0.trans hB1) (by kernel_rfl) rfl ?_
        simp only [pick, List.getElem?_cons_zero, List.getElem?_cons_succ]
        by_cases h3 : x = y
        · rw [deq_eq h3]
          have H3 := Lib.hid h3; clear h3
          refine sg_fix _ rfl (fun w' hI => by go_simp; rfl) ?_; simp only [Act.put, List.setIfInBounds_toArray, List.set_cons_zero, List.set_cons_succ]
          refine sg_nil (rg_end (by kernel_rfl) ?_)
          go_wp2
          go_roundw
          case rel =>
            refine ⟨n + 1, hlt, by go_num, ?_, hB2⟩
            have e := Hs.out
            rw [Hd.out, Hd'.out, H3.out, deq_cons] at e
            exact e
          case measure => simp [intOf]; omega
        · rw [deq_ne h3]
          refine sg_fix _ rfl (fun w' hI => by go_simp; rfl) ?_; simp only [Act.put, List.setIfInBounds_toArray, List.set_cons_zero, List.set_cons_succ]
          refine sg_nil (rg_end (by kernel_rfl) ?_)
          have e := Hs.out
          rw [Hd.out, Hd'.out, deq_ne (fun q => h3 (List.cons.inj q).1)] at e
          have Hf := Lib.hid e
          clear e h3
          go_wp2
          go_ret
          exact ⟨ret_bool Hf.out, hB2⟩
      · obtain rfl : n = l.length := by omega
        go_wp2
        go_ret
        refine ⟨ret_bool ?_, hB⟩
        rw [← Hs.out, List.drop_length, List.drop_eq_nil_of_le hl2]
        exact (deq_eq rfl).symm
  · have bl : (l.length != m.length) = true := by simpa using hl
    have bl' : ((l.length : Int) != (m.length : Int)) = true := by simp; omega
    have Hl := Lib.hid hl; clear hl
    go_enter Tryz.func28, Tryz.ntmps28
    go_wp2
    go_ret
    exact ⟨ret_bool (deq_ne (fun q => Hl.out (congrArg List.length q))).symm, Below.refl _ _⟩
theorem TUnitError.ext {x y : TUnitError} (e0 : x.fKind = y.fKind) (e1 : x.fPackage = y.fPackage) (e2 : x.fAt = y.fAt) (e3 : x.fSub = y.fSub) (e4 : x.fCode = y.fCode) (e5 : x.fNode = y.fNode) : x = y := by
  cases x; cases y; simp only at *; subst e0 e1 e2 e3 e4 e5; rfl
set_option maxRecDepth 100000 in
set_option maxHeartbeats 1000000 in
theorem eqUnitError_c (x y : TUnitError) : ∀ (w : World) (K : Nat → Prop) (_ : ∀ b, K b → b < w.heap.size) (cs ds : List Value) (_ : Rep w K x.enc cs) (_ : Rep w K y.enc ds),
    Calls Tryz.prog 236 #[.agg cs.toArray, .agg ds.toArray] w fun e w' => e = .returned (.bool (deq x y)) ∧ Below w.heap.size w w' := by
  intro w K hK cs ds h k
  obtain ⟨rfl, hKind, hPackage, hAt, hSub, hCode, hNode⟩ := TUnitError.opn h
  obtain ⟨rfl, kKind, kPackage, kAt, kSub, kCode, kNode⟩ := TUnitError.opn k
  clear h k
  clear hKind kKind
  clear hPackage kPackage
  clear hAt kAt
  clear hSub kSub
  clear hCode kCode
  clear hNode kNode
  have hW : Below w.heap.size w ((w.alloc (.cells #[.int .i64 x.fKind, .int .i64 x.fPackage, .int .i64 x.fAt, .int .i64 x.fSub, .int .i64 x.fCode, .int .i64 x.fNode] 284)).alloc (.cells #[.int .i64 y.fKind, .int .i64 y.fPackage, .int .i64 y.fAt, .int .i64 y.fSub, .int .i64 y.fCode, .int .i64 y.fNode] 284)) := ((Below.refl _ _).alloc (Nat.le_refl _) _).alloc (by simp) _
  have hx : Below (w.heap.size + 1 + 1) ((w.alloc (.cells #[.int .i64 x.fKind, .int .i64 x.fPackage, .int .i64 x.fAt, .int .i64 x.fSub, .int .i64 x.fCode, .int .i64 x.fNode] 284)).alloc (.cells #[.int .i64 y.fKind, .int .i64 y.fPackage, .int .i64 y.fAt, .int .i64 y.fSub, .int .i64 y.fCode, .int .i64 y.fNode] 284)) ((w.alloc (.cells #[.int .i64 x.fKind, .int .i64 x.fPackage, .int .i64 x.fAt, .int .i64 x.fSub, .int .i64 x.fCode, .int .i64 x.fNode] 284)).alloc (.cells #[.int .i64 y.fKind, .int .i64 y.fPackage, .int .i64 y.fAt, .int .i64 y.fSub, .int .i64 y.fCode, .int .i64 y.fNode] 284)) := Below.refl _ _
  go_enter Tryz.func236, Tryz.ntmps236
  by_cases e0 : x.fKind = y.fKind
  · have b0 : (x.fKind != y.fKind) = false := by simp [e0]
    have E0 := Lib.hid e0; clear e0
    by_cases e1 : x.fPackage = y.fPackage
    · have b1 : (x.fPackage != y.fPackage) = false := by simp [e1]
      have E1 := Lib.hid e1; clear e1
      by_cases e2 : x.fAt = y.fAt
      · have b2 : (x.fAt != y.fAt) = false := by simp [e2]
        have E2 := Lib.hid e2; clear e2
        by_cases e3 : x.fSub = y.fSub
        · have b3 : (x.fSub != y.fSub) = false := by simp [e3]
          have E3 := Lib.hid e3; clear e3
          by_cases e4 : x.fCode = y.fCode
          · have b4 : (x.fCode != y.fCode) = false := by simp [e4]
            have E4 := Lib.hid e4; clear e4
            by_cases e5 : x.fNode = y.fNode
            · have b5 : (x.fNode != y.fNode) = false := by simp [e5]
              have E5 := Lib.hid e5; clear e5
              go_wp2
              go_ret
              exact ⟨ret_bool (deq_eq (TUnitError.ext E0.out E1.out E2.out E3.out E4.out E5.out)).symm, hW⟩
            · have b5 : (x.fNode != y.fNode) = true := by simpa using e5
              have E5 := Lib.hid e5; clear e5
              go_wp2
              go_ret
              exact ⟨ret_bool (deq_ne (fun q => E5.out (congrArg (·.fNode) q))).symm, hW⟩
          · have b4 : (x.fCode != y.fCode) = true := by simpa using e4
            have E4 := Lib.hid e4; clear e4
            go_wp2
            go_ret
            exact ⟨ret_bool (deq_ne (fun q => E4.out (congrArg (·.fCode) q))).symm, hW⟩
        · have b3 : (x.fSub != y.fSub) = true := by simpa using e3
          have E3 := Lib.hid e3; clear e3
          go_wp2
          go_ret
          exact ⟨ret_bool (deq_ne (fun q => E3.out (congrArg (·.fSub) q))).symm, hW⟩
      · have b2 : (x.fAt != y.fAt) = true := by simpa using e2
        have E2 := Lib.hid e2; clear e2
        go_wp2
        go_ret
        exact ⟨ret_bool (deq_ne (fun q => E2.out (congrArg (·.fAt) q))).symm, hW⟩
    · have b1 : (x.fPackage != y.fPackage) = true := by simpa using e1
      have E1 := Lib.hid e1; clear e1
      go_wp2
      go_ret
      exact ⟨ret_bool (deq_ne (fun q => E1.out (congrArg (·.fPackage) q))).symm, hW⟩
  · have b0 : (x.fKind != y.fKind) = true := by simpa using e0
    have E0 := Lib.hid e0; clear e0
    go_wp2
    go_ret
    exact ⟨ret_bool (deq_ne (fun q => E0.out (congrArg (·.fKind) q))).symm, hW⟩
theorem infoE284 : (Tryz.prog.info? 284).map (·.size) = some 6 := by kernel_rfl
set_option maxRecDepth 100000 in
set_option maxHeartbeats 1000000 in
theorem eqUnitErrorS_c (l m : List TUnitError) : ∀ (w : World) (K : Nat → Prop) (_ : ∀ b, K b → b < w.heap.size) (u v : Value) (_ : Rep w K (.sl (l.map TUnitError.enc)) [u]) (_ : Rep w K (.sl (m.map TUnitError.enc)) [v]),
    Calls Tryz.prog 199 #[u, v] w fun e w' => e = .returned (.bool (deq l m)) ∧ Below w.heap.size w w' := by
  intro w K hK u v h k
  obtain ⟨a, cap, rfl, hc, hm, -, hE⟩ := open_sl TUnitError.width h
  obtain ⟨a', cap', rfl, hc', hm', -, hE'⟩ := open_sl TUnitError.width k
  unfold maxLen at hm hm'
  clear h k
  by_cases hl : l.length = m.length
  · have hl1 : l.length ≤ m.length := by omega
    have hl2 : m.length ≤ l.length := by omega
    have bl : (l.length != m.length) = false := by simp [hl]
    have bl' : ((l.length : Int) != (m.length : Int)) = false := by simp [hl]
    have Hl := Lib.hid hl; clear hl
    have Hg : Hid (deq (l.drop 0) (m.drop 0) = deq l m) := rfl
    go_enter Tryz.func199, Tryz.ntmps199
    go_wp2
    go_loopw [5] (fun i wr => ∃ (n : Nat), n ≤ l.length ∧ i = .int .i64 n ∧ Hid (deq (l.drop n) (m.drop n) = deq l m) ∧ Below w.heap.size w wr) (fun i _ => l.length - (intOf i).toNat)
    case atStart => exact ⟨0, Nat.zero_le _, rfl, Hg, Below.refl _ _⟩
    case round =>
      clear Hg
      obtain ⟨n, hn, rfl, Hs, hB⟩ := hrel
      by_cases hlt : n < l.length
      · have hlt' : n < m.length := by omega
        obtain ⟨b, off, rfl, hKb, cs, hcs, hr⟩ := hE n hlt
        obtain ⟨b', off', rfl, hKb', cs', hcs', hr'⟩ := hE' n hlt'
        have gr := Rep.ext hB hK hr
        have gr' := Rep.ext hB hK hr'
        have gcs := hcs.ext hB (hK b hKb)
        have gcs' := hcs'.ext hB (hK b' hKb')
        have hK' : ∀ b, K b → b < wr.heap.size := fun b h => Nat.lt_of_lt_of_le (hK b h) hB.size
        have Hd : Hid (l.drop n = l[n] :: l.drop (n + 1)) := List.drop_eq_getElem_cons hlt
        have Hd' : Hid (m.drop n = m[n] :: m.drop (n + 1)) := List.drop_eq_getElem_cons hlt'
        clear hE hE' hcs hcs' hr hr'
        have hi : (Tryz.prog.info? 284).map (·.size) = some cs.length := by rw [Rep.length _ _ gr, TUnitError.width]; exact infoE284
        have hi' : (Tryz.prog.info? 284).map (·.size) = some cs'.length := by rw [Rep.length _ _ gr', TUnitError.width]; exact infoE284
        have hmem : l[n] ∈ l := List.getElem_mem hlt
        generalize l[n] = x at *
        generalize m[n] = y at *
        go_wp2_with fail
        have hI1 : ∀ w', Below wr.heap.size wr w' → Cells w' b (off + n * 6) cs := fun w' h => gcs.ext h (hK' b hKb)
        have hI2 : ∀ w', Below wr.heap.size wr w' → Cells w' b' (off' + n * 6) cs' := fun w' h => gcs'.ext h (hK' b' hKb')
        have hI0 : Below wr.heap.size wr wr.drew := (Below.refl _ _).drew
        refine rg 10 (Below wr.heap.size wr) (by kernel_rfl) rfl ?_
        refine rg_seg (fuel := 2) [0, 1, 2, 3, 4, 5, 6, 7] hI0 (by kernel_rfl) rfl ?_
        simp only [pick, List.getElem?_cons_zero, List.getElem?_cons_succ]
        iterate 3 (refine sg_fix _ rfl (fun w' hI => by go_simp; rfl) ?_; simp only [Act.put, List.setIfInBounds_toArray, List.set_cons_zero, List.set_cons_succ])
        refine sg_fix _ rfl (fun w' hI => run_ld 284 _ rfl b _ rfl cs (hI1 w' hI) _ Tryz.underlying284 hi) ?_
        simp only [Act.put, List.setIfInBounds_toArray, List.set_cons_zero, List.set_cons_succ]
        iterate 3 (refine sg_fix _ rfl (fun w' hI => by go_simp; rfl) ?_; simp only [Act.put, List.setIfInBounds_toArray, List.set_cons_zero, List.set_cons_succ])
        refine sg_fix _ rfl (fun w' hI => run_ld 284 _ rfl b' _ rfl cs' (hI2 w' hI) _ Tryz.underlying284 hi') ?_
        simp only [Act.put, List.setIfInBounds_toArray, List.set_cons_zero, List.set_cons_succ]
        refine sg_nil ?_
        refine rg_one (fuel := 1) 8 (by kernel_rfl) rfl (fun K1 hK1 => ?_)
        simp only [pick, List.getElem?_cons_zero, List.getElem?_cons_succ]
        refine rg_call rfl _ _ (by go_simp; exact ⟨rfl, rfl⟩) ?_
        refine (eqUnitError_c x y wr.drew K hK' _ _ (Rep.ext hI0 hK' gr) (Rep.ext hI0 hK' gr')).mono ?_
        rintro e w1 ⟨rfl, hB1⟩
        have hB2 := hB.drew.trans (hB1.mono hB.size)
        refine ⟨_, rfl, hK1 _ _ (hI0.trans hB1) ?_⟩
        simp only [Act.put, List.setIfInBounds_toArray, List.set_cons_zero, List.set_cons_succ]
        refine rg_seg (fuel := 0) [9] (hI0.trans hB1) (by kernel_rfl) rfl ?_
        simp only [pick, List.getElem?_cons_zero, List.getElem?_cons_succ]
        by_cases h3 : x = y
        · rw [deq_eq h3]
          have H3 := Lib.hid h3; clear h3
          refine sg_fix _ rfl (fun w' hI => by go_simp; rfl) ?_; simp only [Act.put, List.setIfInBounds_toArray, List.set_cons_zero, List.set_cons_succ]
          refine sg_nil (rg_end (by kernel_rfl) ?_)
          go_wp2
          go_roundw
          case rel =>
            refine ⟨n + 1, hlt, by go_num, ?_, hB2⟩
            have e := Hs.out
            rw [Hd.out, Hd'.out, H3.out, deq_cons] at e
            exact e
          case measure => simp [intOf]; omega
        · rw [deq_ne h3]
          refine sg_fix _ rfl (fun w' hI => by go_simp; rfl) ?_; simp only [Act.put, List.setIfInBounds_toArray, List.set_cons_zero, List.set_cons_succ]
          refine sg_nil (rg_end (by kernel_rfl) ?_)
          have e := Hs.out
          rw [Hd.out, Hd'.out, deq_ne (fun q => h3 (List.cons.inj q).1)] at e
          have Hf := Lib.hid e
          clear e h3
          go_wp2
          go_ret
          exact ⟨ret_bool Hf.out, hB2⟩
      · obtain rfl : n = l.length := by omega
        go_wp2
        go_ret
        refine ⟨ret_bool ?_, hB⟩
        rw [← Hs.out, List.drop_length, List.drop_eq_nil_of_le hl2]
        exact (deq_eq rfl).symm
  · have bl : (l.length != m.length) = true := by simpa using hl
    have bl' : ((l.length : Int) != (m.length : Int)) = true := by simp; omega
    have Hl := Lib.hid hl; clear hl
    go_enter Tryz.func199, Tryz.ntmps199
    go_wp2
    go_ret
    exact ⟨ret_bool (deq_ne (fun q => Hl.out (congrArg List.length q))).symm, Below.refl _ _⟩
theorem TBuiltPackage.ext {x y : TBuiltPackage} (e0 : x.fName = y.fName) (e1 : x.fKey = y.fKey) (e2 : x.fUnits = y.fUnits) (e3 : x.fErrors = y.fErrors) : x = y := by
  cases x; cases y; simp only at *; subst e0 e1 e2 e3; rfl
set_option maxRecDepth 100000 in
set_option maxHeartbeats 1000000 in
theorem eqBuiltPackage_c (x y : TBuiltPackage) : ∀ (w : World) (K : Nat → Prop) (_ : ∀ b, K b → b < w.heap.size) (cs ds : List Value) (_ : Rep w K x.enc cs) (_ : Rep w K y.enc ds),
    Calls Tryz.prog 144 #[.agg cs.toArray, .agg ds.toArray] w fun e w' => e = .returned (.bool (deq x y)) ∧ Below w.heap.size w w' := by
  intro w K hK cs ds h k
  obtain ⟨c2, c3, rfl, hName, hKey, hUnits, hErrors⟩ := TBuiltPackage.opn h
  obtain ⟨d2, d3, rfl, kName, kKey, kUnits, kErrors⟩ := TBuiltPackage.opn k
  clear h k
  clear hName kName
  clear hKey kKey
  have hW : Below w.heap.size w ((w.alloc (.cells #[.string x.fName, .string x.fKey, c2, c3] 127)).alloc (.cells #[.string y.fName, .string y.fKey, d2, d3] 127)) := ((Below.refl _ _).alloc (Nat.le_refl _) _).alloc (by simp) _
  have hx : Below (w.heap.size + 1 + 1) ((w.alloc (.cells #[.string x.fName, .string x.fKey, c2, c3] 127)).alloc (.cells #[.string y.fName, .string y.fKey, d2, d3] 127)) ((w.alloc (.cells #[.string x.fName, .string x.fKey, c2, c3] 127)).alloc (.cells #[.string y.fName, .string y.fKey, d2, d3] 127)) := Below.refl _ _
  go_enter Tryz.func144, Tryz.ntmps144
  by_cases e0 : x.fName = y.fName
  · have b0 : (!x.fName.toList == y.fName.toList) = false := by simp [e0]
    have E0 := Lib.hid e0; clear e0
    by_cases e1 : x.fKey = y.fKey
    · have b1 : (!x.fKey.toList == y.fKey.toList) = false := by simp [e1]
      have E1 := Lib.hid e1; clear e1
      go_wp2_with fail
      refine (eqUnitS_c x.fUnits y.fUnits _ K (fun b hb => Nat.lt_of_lt_of_le (hK b hb) hW.size) _ _ (Rep.ext hW hK hUnits) (Rep.ext hW hK kUnits)).mono ?_
      rintro e w2 ⟨rfl, hB2⟩
      have hx2 : Below (w.heap.size + 1 + 1) ((w.alloc (.cells #[.string x.fName, .string x.fKey, c2, c3] 127)).alloc (.cells #[.string y.fName, .string y.fKey, d2, d3] 127)) w2 := hx.trans (hB2.mono (by have := hx.size; simp at this ⊢ <;> omega))
      have hb2 : Below w.heap.size w w2 := hW.trans (hx2.mono (by omega))
      have hc2 := (bcell hx2).1
      by_cases e2 : x.fUnits = y.fUnits
      · rw [deq_eq e2]
        have E2 := Lib.hid e2; clear e2
        go_wp2_with fail
        refine (eqUnitErrorS_c x.fErrors y.fErrors _ K (fun b hb => Nat.lt_of_lt_of_le (hK b hb) hb2.size) _ _ (Rep.ext hb2 hK hErrors) (Rep.ext hb2 hK kErrors)).mono ?_
        rintro e w3 ⟨rfl, hB3⟩
        have hx3 : Below (w.heap.size + 1 + 1) ((w.alloc (.cells #[.string x.fName, .string x.fKey, c2, c3] 127)).alloc (.cells #[.string y.fName, .string y.fKey, d2, d3] 127)) w3 := hx2.trans (hB3.mono (by have := hx2.size; simp at this ⊢ <;> omega))
        have hb3 : Below w.heap.size w w3 := hW.trans (hx3.mono (by omega))
        have hc3 := (bcell hx3).1
        by_cases e3 : x.fErrors = y.fErrors
        · rw [deq_eq e3]
          have E3 := Lib.hid e3; clear e3
          go_wp2
          go_ret
          exact ⟨ret_bool (deq_eq (TBuiltPackage.ext E0.out E1.out E2.out E3.out)).symm, hb3⟩
        · rw [deq_ne e3]
          have E3 := Lib.hid e3; clear e3
          go_wp2
          go_ret
          exact ⟨ret_bool (deq_ne (fun q => E3.out (congrArg (·.fErrors) q))).symm, hb3⟩
      · rw [deq_ne e2]
        have E2 := Lib.hid e2; clear e2
        go_wp2
        go_ret
        exact ⟨ret_bool (deq_ne (fun q => E2.out (congrArg (·.fUnits) q))).symm, hb2⟩
    · have b1 : (!x.fKey.toList == y.fKey.toList) = true := by simpa using fun q => e1 (ba_ext q)
      have E1 := Lib.hid e1; clear e1
      go_wp2
      go_ret
      exact ⟨ret_bool (deq_ne (fun q => E1.out (congrArg (·.fKey) q))).symm, hW⟩
  · have b0 : (!x.fName.toList == y.fName.toList) = true := by simpa using fun q => e0 (ba_ext q)
    have E0 := Lib.hid e0; clear e0
    go_wp2
    go_ret
    exact ⟨ret_bool (deq_ne (fun q => E0.out (congrArg (·.fName) q))).symm, hW⟩
theorem infoE127 : (Tryz.prog.info? 127).map (·.size) = some 4 := by kernel_rfl
set_option maxRecDepth 100000 in
set_option maxHeartbeats 1000000 in
theorem eqBuiltPackageS_c (l m : List TBuiltPackage) : ∀ (w : World) (K : Nat → Prop) (_ : ∀ b, K b → b < w.heap.size) (u v : Value) (_ : Rep w K (.sl (l.map TBuiltPackage.enc)) [u]) (_ : Rep w K (.sl (m.map TBuiltPackage.enc)) [v]),
    Calls Tryz.prog 74 #[u, v] w fun e w' => e = .returned (.bool (deq l m)) ∧ Below w.heap.size w w' := by
  intro w K hK u v h k
  obtain ⟨a, cap, rfl, hc, hm, -, hE⟩ := open_sl TBuiltPackage.width h
  obtain ⟨a', cap', rfl, hc', hm', -, hE'⟩ := open_sl TBuiltPackage.width k
  unfold maxLen at hm hm'
  clear h k
  by_cases hl : l.length = m.length
  · have hl1 : l.length ≤ m.length := by omega
    have hl2 : m.length ≤ l.length := by omega
    have bl : (l.length != m.length) = false := by simp [hl]
    have bl' : ((l.length : Int) != (m.length : Int)) = false := by simp [hl]
    have Hl := Lib.hid hl; clear hl
    have Hg : Hid (deq (l.drop 0) (m.drop 0) = deq l m) := rfl
    go_enter Tryz.func74, Tryz.ntmps74
    go_wp2
    go_loopw [5] (fun i wr => ∃ (n : Nat), n ≤ l.length ∧ i = .int .i64 n ∧ Hid (deq (l.drop n) (m.drop n) = deq l m) ∧ Below w.heap.size w wr) (fun i _ => l.length - (intOf i).toNat)
    case atStart => exact ⟨0, Nat.zero_le _, rfl, Hg, Below.refl _ _⟩
    case round =>
      clear Hg
      obtain ⟨n, hn, rfl, Hs, hB⟩ := hrel
      by_cases hlt : n < l.length
      · have hlt' : n < m.length := by omega
        obtain ⟨b, off, rfl, hKb, cs, hcs, hr⟩ := hE n hlt
        obtain ⟨b', off', rfl, hKb', cs', hcs', hr'⟩ := hE' n hlt'
        have gr := Rep.ext hB hK hr
        have gr' := Rep.ext hB hK hr'
        have gcs := hcs.ext hB (hK b hKb)
        have gcs' := hcs'.ext hB (hK b' hKb')
        have hK' : ∀ b, K b → b < wr.heap.size := fun b h => Nat.lt_of_lt_of_le (hK b h) hB.size
        have Hd : Hid (l.drop n = l[n] :: l.drop (n + 1)) := List.drop_eq_getElem_cons hlt
        have Hd' : Hid (m.drop n = m[n] :: m.drop (n + 1)) := List.drop_eq_getElem_cons hlt'
        clear hE hE' hcs hcs' hr hr'
        have hi : (Tryz.prog.info? 127).map (·.size) = some cs.length := by rw [Rep.length _ _ gr, TBuiltPackage.width]; exact infoE127
        have hi' : (Tryz.prog.info? 127).map (·.size) = some cs'.length := by rw [Rep.length _ _ gr', TBuiltPackage.width]; exact infoE127
        have hmem : l[n] ∈ l := List.getElem_mem hlt
        generalize l[n] = x at *
        generalize m[n] = y at *
        go_wp2_with fail
        have hI1 : ∀ w', Below wr.heap.size wr w' → Cells w' b (off + n * 4) cs := fun w' h => gcs.ext h (hK' b hKb)
        have hI2 : ∀ w', Below wr.heap.size wr w' → Cells w' b' (off' + n * 4) cs' := fun w' h => gcs'.ext h (hK' b' hKb')
        have hI0 : Below wr.heap.size wr wr.drew := (Below.refl _ _).drew
        refine rg 10 (Below wr.heap.size wr) (by kernel_rfl) rfl ?_
        refine rg_seg (fuel := 2) [0, 1, 2, 3, 4, 5, 6, 7] hI0 (by kernel_rfl) rfl ?_
        simp only [pick, List.getElem?_cons_zero, List.getElem?_cons_succ]
        iterate 3 (refine sg_fix _ rfl (fun w' hI => by go_simp; rfl) ?_; simp only [Act.put, List.setIfInBounds_toArray, List.set_cons_zero, List.set_cons_succ])
        refine sg_fix _ rfl (fun w' hI => run_ld 127 _ rfl b _ rfl cs (hI1 w' hI) _ Tryz.underlying127 hi) ?_
        simp only [Act.put, List.setIfInBounds_toArray, List.set_cons_zero, List.set_cons_succ]
        iterate 3 (refine sg_fix _ rfl (fun w' hI => by go_simp; rfl) ?_; simp only [Act.put, List.setIfInBounds_toArray, List.set_cons_zero, List.set_cons_succ])
        refine sg_fix _ rfl (fun w' hI => run_ld 127 _ rfl b' _ rfl cs' (hI2 w' hI) _ Tryz.underlying127 hi') ?_
        simp only [Act.put, List.setIfInBounds_toArray, List.set_cons_zero, List.set_cons_succ]
        refine sg_nil ?_
        refine rg_one (fuel := 1) 8 (by kernel_rfl) rfl (fun K1 hK1 => ?_)
        simp only [pick, List.getElem?_cons_zero, List.getElem?_cons_succ]
        refine rg_call rfl _ _ (by go_simp; exact ⟨rfl, rfl⟩) ?_
        refine (eqBuiltPackage_c x y wr.drew K hK' _ _ (Rep.ext hI0 hK' gr) (Rep.ext hI0 hK' gr')).mono ?_
        rintro e w1 ⟨rfl, hB1⟩
        have hB2 := hB.drew.trans (hB1.mono hB.size)
        refine ⟨_, rfl, hK1 _ _ (hI0.trans hB1) ?_⟩
        simp only [Act.put, List.setIfInBounds_toArray, List.set_cons_zero, List.set_cons_succ]
        refine rg_seg (fuel := 0) [9] (hI0.trans hB1) (by kernel_rfl) rfl ?_
        simp only [pick, List.getElem?_cons_zero, List.getElem?_cons_succ]
        by_cases h3 : x = y
        · rw [deq_eq h3]
          have H3 := Lib.hid h3; clear h3
          refine sg_fix _ rfl (fun w' hI => by go_simp; rfl) ?_; simp only [Act.put, List.setIfInBounds_toArray, List.set_cons_zero, List.set_cons_succ]
          refine sg_nil (rg_end (by kernel_rfl) ?_)
          go_wp2
          go_roundw
          case rel =>
            refine ⟨n + 1, hlt, by go_num, ?_, hB2⟩
            have e := Hs.out
            rw [Hd.out, Hd'.out, H3.out, deq_cons] at e
            exact e
          case measure => simp [intOf]; omega
        · rw [deq_ne h3]
          refine sg_fix _ rfl (fun w' hI => by go_simp; rfl) ?_; simp only [Act.put, List.setIfInBounds_toArray, List.set_cons_zero, List.set_cons_succ]
          refine sg_nil (rg_end (by kernel_rfl) ?_)
          have e := Hs.out
          rw [Hd.out, Hd'.out, deq_ne (fun q => h3 (List.cons.inj q).1)] at e
          have Hf := Lib.hid e
          clear e h3
          go_wp2
          go_ret
          exact ⟨ret_bool Hf.out, hB2⟩
      · obtain rfl : n = l.length := by omega
        go_wp2
        go_ret
        refine ⟨ret_bool ?_, hB⟩
        rw [← Hs.out, List.drop_length, List.drop_eq_nil_of_le hl2]
        exact (deq_eq rfl).symm
  · have bl : (l.length != m.length) = true := by simpa using hl
    have bl' : ((l.length : Int) != (m.length : Int)) = true := by simp; omega
    have Hl := Lib.hid hl; clear hl
    go_enter Tryz.func74, Tryz.ntmps74
    go_wp2
    go_ret
    exact ⟨ret_bool (deq_ne (fun q => Hl.out (congrArg List.length q))).symm, Below.refl _ _⟩
theorem TBuild.ext {x y : TBuild} (e0 : x.fPackages = y.fPackages) : x = y := by
  cases x; cases y; simp only at *; subst e0; rfl
set_option maxRecDepth 100000 in
set_option maxHeartbeats 1000000 in
theorem eqBuild_c (x y : TBuild) : ∀ (w : World) (K : Nat → Prop) (_ : ∀ b, K b → b < w.heap.size) (cs ds : List Value) (_ : Rep w K x.enc cs) (_ : Rep w K y.enc ds),
    Calls Tryz.prog 29 #[.agg cs.toArray, .agg ds.toArray] w fun e w' => e = .returned (.bool (deq x y)) ∧ Below w.heap.size w w' := by
  intro w K hK cs ds h k
  obtain ⟨c0, rfl, hPackages⟩ := TBuild.opn h
  obtain ⟨d0, rfl, kPackages⟩ := TBuild.opn k
  clear h k
  have hW : Below w.heap.size w ((w.alloc (.cells #[c0] 69)).alloc (.cells #[d0] 69)) := ((Below.refl _ _).alloc (Nat.le_refl _) _).alloc (by simp) _
  have hx : Below (w.heap.size + 1 + 1) ((w.alloc (.cells #[c0] 69)).alloc (.cells #[d0] 69)) ((w.alloc (.cells #[c0] 69)).alloc (.cells #[d0] 69)) := Below.refl _ _
  go_enter Tryz.func29, Tryz.ntmps29
  go_wp2_with fail
  refine (eqBuiltPackageS_c x.fPackages y.fPackages _ K (fun b hb => Nat.lt_of_lt_of_le (hK b hb) hW.size) _ _ (Rep.ext hW hK hPackages) (Rep.ext hW hK kPackages)).mono ?_
  rintro e w0 ⟨rfl, hB0⟩
  have hx0 : Below (w.heap.size + 1 + 1) ((w.alloc (.cells #[c0] 69)).alloc (.cells #[d0] 69)) w0 := hx.trans (hB0.mono (by have := hx.size; simp at this ⊢ <;> omega))
  have hb0 : Below w.heap.size w w0 := hW.trans (hx0.mono (by omega))
  have hc0 := (bcell hx0).1
  by_cases e0 : x.fPackages = y.fPackages
  · rw [deq_eq e0]
    have E0 := Lib.hid e0; clear e0
    go_wp2
    go_ret
    exact ⟨ret_bool (deq_eq (TBuild.ext E0.out)).symm, hb0⟩
  · rw [deq_ne e0]
    have E0 := Lib.hid e0; clear e0
    go_wp2
    go_ret
    exact ⟨ret_bool (deq_ne (fun q => E0.out (congrArg (·.fPackages) q))).symm, hb0⟩
end Go.Proofs.YtkmiecgcibjkbaaGreat
