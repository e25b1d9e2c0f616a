/- The functions eq.. of the laws: each tells whether two values are equal. No condition. -/
import Derived.Test.YtkmiecgcibjkbaaGreatTypes
import Derived.Test.YtkmiecgcibjkbaaGreatReg
namespace Go.Proofs.YtkmiecgcibjkbaaGreat
open Go.RowKit
set_option maxRecDepth 100000 in
set_option maxHeartbeats 1000000 in
theorem eqStringS_c (l m : List ByteArray) : ∀ (w : World) (K : Nat → Prop) (_ : ∀ b, K b → b < w.heap.size) (u v : Value) (_ : Rep w K (.sl (l.map encS)) [u]) (_ : Rep w K (.sl (m.map encS)) [v]),
    Calls Tryz.prog 19 #[u, v] w fun e w' => e = .returned (.bool (deq l m)) ∧ Below w.heap.size w w' := by
  intro w K hK u v h k
  obtain ⟨a, cap, rfl, hc, hm, -, hE⟩ := open_sl encS_w h
  obtain ⟨a', cap', rfl, hc', hm', -, hE'⟩ := open_sl encS_w k
  unfold maxLen at hm hm'
  clear h k
  by_cases hl : l.length = m.length
  · have hl1 : l.length ≤ m.length := by omega
    have hl2 : m.length ≤ l.length := by omega
    have bl : (l.length != m.length) = false := by simp [hl]
    have bl' : ((l.length : Int) != (m.length : Int)) = false := by simp [hl]
    have Hl := Lib.hid hl; clear hl
    have Hg : Hid (deq (l.drop 0) (m.drop 0) = deq l m) := rfl
    go_enter Tryz.func19, Tryz.ntmps19
    go_wp2
    go_loopw [5] (fun i wr => ∃ (n : Nat), n ≤ l.length ∧ i = .int .i64 n ∧ Hid (deq (l.drop n) (m.drop n) = deq l m) ∧ Below w.heap.size w wr) (fun i _ => l.length - (intOf i).toNat)
    case atStart => exact ⟨0, Nat.zero_le _, rfl, Hg, Below.refl _ _⟩
    case round =>
      clear Hg
      obtain ⟨n, hn, rfl, Hs, hB⟩ := hrel
      by_cases hlt : n < l.length
      · have hlt' : n < m.length := by omega
        obtain ⟨b, off, rfl, hKb, cs, hcs, hr⟩ := hE n hlt
        obtain ⟨b', off', rfl, hKb', cs', hcs', hr'⟩ := hE' n hlt'
        have gr := Rep.ext hB hK hr
        have gr' := Rep.ext hB hK hr'
        have gcs := hcs.ext hB (hK b hKb)
        have gcs' := hcs'.ext hB (hK b' hKb')
        have hK' : ∀ b, K b → b < wr.heap.size := fun b h => Nat.lt_of_lt_of_le (hK b h) hB.size
        have Hd : Hid (l.drop n = l[n] :: l.drop (n + 1)) := List.drop_eq_getElem_cons hlt
        have Hd' : Hid (m.drop n = m[n] :: m.drop (n + 1)) := List.drop_eq_getElem_cons hlt'
        clear hE hE' hcs hcs' hr hr'
        simp only [encS, Rep] at gr gr'
        obtain ⟨rfl, -⟩ := gr
        obtain ⟨rfl, -⟩ := gr'
        have g0 : ∀ w', Below wr.heap.size wr w' → w'.cell? ⟨b, off + n, none⟩ = some (.string l[n]) := fun w' h => by simpa using (gcs.ext h (hK' b hKb)) 0 _ rfl
        have g0' : ∀ w', Below wr.heap.size wr w' → w'.cell? ⟨b', off' + n, none⟩ = some (.string m[n]) := fun w' h => by simpa using (gcs'.ext h (hK' b' hKb')) 0 _ rfl
        have hI0 : Below wr.heap.size wr wr.drew := (Below.refl _ _).drew
        clear gcs gcs'
        generalize l[n] = x at *
        generalize m[n] = y at *
        go_wp2_with fail
        refine rg 9 (Below wr.heap.size wr) (by kernel_rfl) rfl ?_
        refine rg_seg (fuel := 0) [0, 1, 2, 3, 4, 5, 6, 7, 8] hI0 (by kernel_rfl) rfl ?_
        simp only [pick, List.getElem?_cons_zero, List.getElem?_cons_succ]
        iterate 8 (refine sg_fix _ rfl (fun w' hI => by go_simp; rfl) ?_; simp only [Act.put, List.setIfInBounds_toArray, List.set_cons_zero, List.set_cons_succ])
        by_cases h3 : x = y
        · have b3 : (!x.toList == y.toList) = false := by simp [h3]
          have H3 := Lib.hid h3; clear h3
          refine sg_fix _ rfl (fun w' hI => by go_simp; rfl) ?_; simp only [Act.put, List.setIfInBounds_toArray, List.set_cons_zero, List.set_cons_succ]
          refine sg_nil (rg_end (by kernel_rfl) ?_)
          go_wp2
          go_roundw
          case rel =>
            refine ⟨n + 1, hlt, by go_num, ?_, hB.drew⟩
            have e := Hs.out
            rw [Hd.out, Hd'.out, H3.out, deq_cons] at e
            exact e
          case measure => simp [intOf]; omega
        · have b3 : (!x.toList == y.toList) = true := by simpa using fun q => h3 (ba_ext q)
          refine sg_fix _ rfl (fun w' hI => by go_simp; rfl) ?_; simp only [Act.put, List.setIfInBounds_toArray, List.set_cons_zero, List.set_cons_succ]
          refine sg_nil (rg_end (by kernel_rfl) ?_)
          have e := Hs.out
          rw [Hd.out, Hd'.out, deq_ne (fun q => h3 (List.cons.inj q).1)] at e
          have Hf := Lib.hid e
          clear e h3
          go_wp2
          go_ret
          exact ⟨ret_bool Hf.out, hB.drew⟩
      · obtain rfl : n = l.length := by omega
        go_wp2
        go_ret
        refine ⟨ret_bool ?_, hB⟩
        rw [← Hs.out, List.drop_length, List.drop_eq_nil_of_le hl2]
        exact (deq_eq rfl).symm
  · have bl : (l.length != m.length) = true := by simpa using hl
    have bl' : ((l.length : Int) != (m.length : Int)) = true := by simp; omega
    have Hl := Lib.hid hl; clear hl
    go_enter Tryz.func19, Tryz.ntmps19
    go_wp2
    go_ret
    exact ⟨ret_bool (deq_ne (fun q => Hl.out (congrArg List.length q))).symm, Below.refl _ _⟩
theorem TType.ext {x y : TType} (e0 : x.fKind = y.fKind) (e1 : x.fName = y.fName) (e2 : x.fArgs = y.fArgs) : x = y := by
  cases x; cases y; simp only at *; subst e0 e1 e2; rfl
theorem infoE88 : (Tryz.prog.info? 88).map (·.size) = some 3 := by kernel_rfl
def EqType (N : Nat) : Prop := ∀ (x y : TType), SizeOf.sizeOf x < N → ∀ (w : World) (K : Nat → Prop) (_ : ∀ b, K b → b < w.heap.size) (cs ds : List Value) (_ : Rep w K x.enc cs) (_ : Rep w K y.enc ds),
    Calls Tryz.prog 142 #[.agg cs.toArray, .agg ds.toArray] w fun e w' => e = .returned (.bool (deq x y)) ∧ Below w.heap.size w w'
def EqTypeS (N : Nat) : Prop := ∀ (l m : List TType), SizeOf.sizeOf l < N → ∀ (w : World) (K : Nat → Prop) (_ : ∀ b, K b → b < w.heap.size) (u v : Value) (_ : Rep w K (.sl (l.map TType.enc)) [u]) (_ : Rep w K (.sl (m.map TType.enc)) [v]),
    Calls Tryz.prog 169 #[u, v] w fun e w' => e = .returned (.bool (deq l m)) ∧ Below w.heap.size w w'
set_option maxRecDepth 100000 in
set_option maxHeartbeats 1000000 in
theorem stepEqType (N : Nat) (_iEqType : EqType N) (iEqTypeS : EqTypeS N) : EqType (N + 1) := by
  intro x y hN w K hK cs ds h k
  obtain ⟨c2, rfl, hKind, hName, hArgs⟩ := TType.opn h
  obtain ⟨d2, rfl, kKind, kName, kArgs⟩ := TType.opn k
  clear h k
  clear hKind kKind
  clear hName kName
  have hW : Below w.heap.size w ((w.alloc (.cells #[.int .i64 x.fKind, .string x.fName, c2] 88)).alloc (.cells #[.int .i64 y.fKind, .string y.fName, d2] 88)) := ((Below.refl _ _).alloc (Nat.le_refl _) _).alloc (by simp) _
  have hx : Below (w.heap.size + 1 + 1) ((w.alloc (.cells #[.int .i64 x.fKind, .string x.fName, c2] 88)).alloc (.cells #[.int .i64 y.fKind, .string y.fName, d2] 88)) ((w.alloc (.cells #[.int .i64 x.fKind, .string x.fName, c2] 88)).alloc (.cells #[.int .i64 y.fKind, .string y.fName, d2] 88)) := Below.refl _ _
  go_enter Tryz.func142, Tryz.ntmps142
  by_cases e0 : x.fKind = y.fKind
  · have b0 : (x.fKind != y.fKind) = false := by simp [e0]
    have E0 := Lib.hid e0; clear e0
    by_cases e1 : x.fName = y.fName
    · have b1 : (!x.fName.toList == y.fName.toList) = false := by simp [e1]
      have E1 := Lib.hid e1; clear e1
      go_wp2_with fail
      refine (iEqTypeS x.fArgs y.fArgs (by have := TType.lt_fArgs x; omega) _ K (fun b hb => Nat.lt_of_lt_of_le (hK b hb) hW.size) _ _ (Rep.ext hW hK hArgs) (Rep.ext hW hK kArgs)).mono ?_
      rintro e w2 ⟨rfl, hB2⟩
      have hx2 : Below (w.heap.size + 1 + 1) ((w.alloc (.cells #[.int .i64 x.fKind, .string x.fName, c2] 88)).alloc (.cells #[.int .i64 y.fKind, .string y.fName, d2] 88)) w2 := hx.trans (hB2.mono (by have := hx.size; simp at this ⊢ <;> omega))
      have hb2 : Below w.heap.size w w2 := hW.trans (hx2.mono (by omega))
      have hc2 := (bcell hx2).1
      by_cases e2 : x.fArgs = y.fArgs
      · rw [deq_eq e2]
        have E2 := Lib.hid e2; clear e2
        go_wp2
        go_ret
        exact ⟨ret_bool (deq_eq (TType.ext E0.out E1.out E2.out)).symm, hb2⟩
      · rw [deq_ne e2]
        have E2 := Lib.hid e2; clear e2
        go_wp2
        go_ret
        exact ⟨ret_bool (deq_ne (fun q => E2.out (congrArg (·.fArgs) q))).symm, hb2⟩
    · have b1 : (!x.fName.toList == y.fName.toList) = true := by simpa using fun q => e1 (ba_ext q)
      have E1 := Lib.hid e1; clear e1
      go_wp2
      go_ret
      exact ⟨ret_bool (deq_ne (fun q => E1.out (congrArg (·.fName) q))).symm, hW⟩
  · have b0 : (x.fKind != y.fKind) = true := by simpa using e0
    have E0 := Lib.hid e0; clear e0
    go_wp2
    go_ret
    exact ⟨ret_bool (deq_ne (fun q => E0.out (congrArg (·.fKind) q))).symm, hW⟩
set_option maxRecDepth 100000 in
set_option maxHeartbeats 1000000 in
theorem stepEqTypeS (N : Nat) (iEqType : EqType N) (_iEqTypeS : EqTypeS N) : EqTypeS (N + 1) := by
  intro l m hN w K hK u v h k
  obtain ⟨a, cap, rfl, hc, hm, -, hE⟩ := open_sl TType.width h
  obtain ⟨a', cap', rfl, hc', hm', -, hE'⟩ := open_sl TType.width k
  unfold maxLen at hm hm'
  clear h k
  by_cases hl : l.length = m.length
  · have hl1 : l.length ≤ m.length := by omega
    have hl2 : m.length ≤ l.length := by omega
    have bl : (l.length != m.length) = false := by simp [hl]
    have bl' : ((l.length : Int) != (m.length : Int)) = false := by simp [hl]
    have Hl := Lib.hid hl; clear hl
    have Hg : Hid (deq (l.drop 0) (m.drop 0) = deq l m) := rfl
    go_enter Tryz.func169, Tryz.ntmps169
    go_wp2
    go_loopw [5] (fun i wr => ∃ (n : Nat), n ≤ l.length ∧ i = .int .i64 n ∧ Hid (deq (l.drop n) (m.drop n) = deq l m) ∧ Below w.heap.size w wr) (fun i _ => l.length - (intOf i).toNat)
    case atStart => exact ⟨0, Nat.zero_le _, rfl, Hg, Below.refl _ _⟩
    case round =>
      clear Hg
      obtain ⟨n, hn, rfl, Hs, hB⟩ := hrel
      by_cases hlt : n < l.length
      · have hlt' : n < m.length := by omega
        obtain ⟨b, off, rfl, hKb, cs, hcs, hr⟩ := hE n hlt
        obtain ⟨b', off', rfl, hKb', cs', hcs', hr'⟩ := hE' n hlt'
        have gr := Rep.ext hB hK hr
        have gr' := Rep.ext hB hK hr'
        have gcs := hcs.ext hB (hK b hKb)
        have gcs' := hcs'.ext hB (hK b' hKb')
        have hK' : ∀ b, K b → b < wr.heap.size := fun b h => Nat.lt_of_lt_of_le (hK b h) hB.size
        have Hd : Hid (l.drop n = l[n] :: l.drop (n + 1)) := List.drop_eq_getElem_cons hlt
        have Hd' : Hid (m.drop n = m[n] :: m.drop (n + 1)) := List.drop_eq_getElem_cons hlt'
        clear hE hE' hcs hcs' hr hr'
        have hi : (Tryz.prog.info? 88).map (·.size) = some cs.length := by rw [Rep.length _ _ gr, TType.width]; exact infoE88
        have hi' : (Tryz.prog.info? 88).map (·.size) = some cs'.length := by rw [Rep.length _ _ gr', TType.width]; exact infoE88
        have hmem : l[n] ∈ l := List.getElem_mem hlt
        generalize l[n] = x at *
        generalize m[n] = y at *
        go_wp2_with fail
        have hI1 : ∀ w', Below wr.heap.size wr w' → Cells w' b (off + n * 3) cs := fun w' h => gcs.ext h (hK' b hKb)
        have hI2 : ∀ w', Below wr.heap.size wr w' → Cells w' b' (off' + n * 3) cs' := fun w' h => gcs'.ext h (hK' b' hKb')
        have hI0 : Below wr.heap.size wr wr.drew := (Below.refl _ _).drew
        refine rg 10 (Below wr.heap.size wr) (by kernel_rfl) rfl ?_
        refine rg_seg (fuel := 2) [0, 1, 2, 3, 4, 5, 6, 7] hI0 (by kernel_rfl) rfl ?_
        simp only [pick, List.getElem?_cons_zero, List.getElem?_cons_succ]
        iterate 3 (refine sg_fix _ rfl (fun w' hI => by go_simp; rfl) ?_; simp only [Act.put, List.setIfInBounds_toArray, List.set_cons_zero, List.set_cons_succ])
        refine sg_fix _ rfl (fun w' hI => run_ld 88 _ rfl b _ rfl cs (hI1 w' hI) _ Tryz.underlying88 hi) ?_
        simp only [Act.put, List.setIfInBounds_toArray, List.set_cons_zero, List.set_cons_succ]
        iterate 3 (refine sg_fix _ rfl (fun w' hI => by go_simp; rfl) ?_; simp only [Act.put, List.setIfInBounds_toArray, List.set_cons_zero, List.set_cons_succ])
        refine sg_fix _ rfl (fun w' hI => run_ld 88 _ rfl b' _ rfl cs' (hI2 w' hI) _ Tryz.underlying88 hi') ?_
        simp only [Act.put, List.setIfInBounds_toArray, List.set_cons_zero, List.set_cons_succ]
        refine sg_nil ?_
        refine rg_one (fuel := 1) 8 (by kernel_rfl) rfl (fun K1 hK1 => ?_)
        simp only [pick, List.getElem?_cons_zero, List.getElem?_cons_succ]
        refine rg_call rfl _ _ (by go_simp; exact ⟨rfl, rfl⟩) ?_
        refine (iEqType x y (by have := List.sizeOf_lt_of_mem hmem; omega) wr.drew K hK' _ _ (Rep.ext hI0 hK' gr) (Rep.ext hI0 hK' gr')).mono ?_
        rintro e w1 ⟨rfl, hB1⟩
        have hB2 := hB.drew.trans (hB1.mono hB.size)
        refine ⟨_, rfl, hK1 _ _ (hI0.trans hB1) ?_⟩
        simp only [Act.put, List.setIfInBounds_toArray, List.set_cons_zero, List.set_cons_succ]
        refine rg_seg (fuel := 0) [9] (hI0.trans hB1) (by kernel_rfl) rfl ?_
        simp only [pick, List.getElem?_cons_zero, List.getElem?_cons_succ]
        by_cases h3 : x = y
        · rw [deq_eq h3]
          have H3 := Lib.hid h3; clear h3
          refine sg_fix _ rfl (fun w' hI => by go_simp; rfl) ?_; simp only [Act.put, List.setIfInBounds_toArray, List.set_cons_zero, List.set_cons_succ]
          refine sg_nil (rg_end (by kernel_rfl) ?_)
          go_wp2
          go_roundw
          case rel =>
            refine ⟨n + 1, hlt, by go_num, ?_, hB2⟩
            have e := Hs.out
            rw [Hd.out, Hd'.out, H3.out, deq_cons] at e
            exact e
          case measure => simp [intOf]; omega
        · rw [deq_ne h3]
          refine sg_fix _ rfl (fun w' hI => by go_simp; rfl) ?_; simp only [Act.put, List.setIfInBounds_toArray, List.set_cons_zero, List.set_cons_succ]
          refine sg_nil (rg_end (by kernel_rfl) ?_)
          have e := Hs.out
          rw [Hd.out, Hd'.out, deq_ne (fun q => h3 (List.cons.inj q).1)] at e
          have Hf := Lib.hid e
          clear e h3
          go_wp2
          go_ret
          exact ⟨ret_bool Hf.out, hB2⟩
      · obtain rfl : n = l.length := by omega
        go_wp2
        go_ret
        refine ⟨ret_bool ?_, hB⟩
        rw [← Hs.out, List.drop_length, List.drop_eq_nil_of_le hl2]
        exact (deq_eq rfl).symm
  · have bl : (l.length != m.length) = true := by simpa using hl
    have bl' : ((l.length : Int) != (m.length : Int)) = true := by simp; omega
    have Hl := Lib.hid hl; clear hl
    go_enter Tryz.func169, Tryz.ntmps169
    go_wp2
    go_ret
    exact ⟨ret_bool (deq_ne (fun q => Hl.out (congrArg List.length q))).symm, Below.refl _ _⟩
theorem eqType_all : ∀ N : Nat, EqType N ∧ EqTypeS N
  | 0 => ⟨fun _ _ h => absurd h (Nat.not_lt_zero _), fun _ _ h => absurd h (Nat.not_lt_zero _)⟩
  | N + 1 => by
    obtain ⟨i0, i1⟩ := eqType_all N
    exact ⟨stepEqType N i0 i1, stepEqTypeS N i0 i1⟩
theorem eqType_c (x y : TType) : ∀ (w : World) (K : Nat → Prop) (_ : ∀ b, K b → b < w.heap.size) (cs ds : List Value) (_ : Rep w K x.enc cs) (_ : Rep w K y.enc ds),
    Calls Tryz.prog 142 #[.agg cs.toArray, .agg ds.toArray] w fun e w' => e = .returned (.bool (deq x y)) ∧ Below w.heap.size w w' := (eqType_all (SizeOf.sizeOf x + 1)).1 x y (Nat.lt_succ_self _)
theorem eqTypeS_c (l m : List TType) : ∀ (w : World) (K : Nat → Prop) (_ : ∀ b, K b → b < w.heap.size) (u v : Value) (_ : Rep w K (.sl (l.map TType.enc)) [u]) (_ : Rep w K (.sl (m.map TType.enc)) [v]),
    Calls Tryz.prog 169 #[u, v] w fun e w' => e = .returned (.bool (deq l m)) ∧ Below w.heap.size w w' := (eqType_all (SizeOf.sizeOf l + 1)).2 l m (Nat.lt_succ_self _)
theorem TBinding.ext {x y : TBinding} (e0 : x.fVar = y.fVar) (e1 : x.fType = y.fType) : x = y := by
  cases x; cases y; simp only at *; subst e0 e1; rfl
set_option maxRecDepth 100000 in
set_option maxHeartbeats 1000000 in
theorem eqBinding_c (x y : TBinding) : ∀ (w : World) (K : Nat → Prop) (_ : ∀ b, K b → b < w.heap.size) (cs ds : List Value) (_ : Rep w K x.enc cs) (_ : Rep w K y.enc ds),
    Calls Tryz.prog 128 #[.agg cs.toArray, .agg ds.toArray] w fun e w' => e = .returned (.bool (deq x y)) ∧ Below w.heap.size w w' := by
  intro w K hK cs ds h k
  obtain ⟨c1, c2, c3, rfl, hVar, hType⟩ := TBinding.opn h
  obtain ⟨d1, d2, d3, rfl, kVar, kType⟩ := TBinding.opn k
  clear h k
  clear hVar kVar
  have hW : Below w.heap.size w ((w.alloc (.cells #[.string x.fVar, c1, c2, c3] 207)).alloc (.cells #[.string y.fVar, d1, d2, d3] 207)) := ((Below.refl _ _).alloc (Nat.le_refl _) _).alloc (by simp) _
  have hx : Below (w.heap.size + 1 + 1) ((w.alloc (.cells #[.string x.fVar, c1, c2, c3] 207)).alloc (.cells #[.string y.fVar, d1, d2, d3] 207)) ((w.alloc (.cells #[.string x.fVar, c1, c2, c3] 207)).alloc (.cells #[.string y.fVar, d1, d2, d3] 207)) := Below.refl _ _
  go_enter Tryz.func128, Tryz.ntmps128
  by_cases e0 : x.fVar = y.fVar
  · have b0 : (!x.fVar.toList == y.fVar.toList) = false := by simp [e0]
    have E0 := Lib.hid e0; clear e0
    go_wp2_with fail
    refine (eqType_c x.fType y.fType _ K (fun b hb => Nat.lt_of_lt_of_le (hK b hb) hW.size) _ _ (Rep.ext hW hK hType) (Rep.ext hW hK kType)).mono ?_
    rintro e w1 ⟨rfl, hB1⟩
    have hx1 : Below (w.heap.size + 1 + 1) ((w.alloc (.cells #[.string x.fVar, c1, c2, c3] 207)).alloc (.cells #[.string y.fVar, d1, d2, d3] 207)) w1 := hx.trans (hB1.mono (by have := hx.size; simp at this ⊢ <;> omega))
    have hb1 : Below w.heap.size w w1 := hW.trans (hx1.mono (by omega))
    have hc1 := (bcell hx1).1
    by_cases e1 : x.fType = y.fType
    · rw [deq_eq e1]
      have E1 := Lib.hid e1; clear e1
      go_wp2
      go_ret
      exact ⟨ret_bool (deq_eq (TBinding.ext E0.out E1.out)).symm, hb1⟩
    · rw [deq_ne e1]
      have E1 := Lib.hid e1; clear e1
      go_wp2
      go_ret
      exact ⟨ret_bool (deq_ne (fun q => E1.out (congrArg (·.fType) q))).symm, hb1⟩
  · have b0 : (!x.fVar.toList == y.fVar.toList) = true := by simpa using fun q => e0 (ba_ext q)
    have E0 := Lib.hid e0; clear e0
    go_wp2
    go_ret
    exact ⟨ret_bool (deq_ne (fun q => E0.out (congrArg (·.fVar) q))).symm, hW⟩
theorem infoE207 : (Tryz.prog.info? 207).map (·.size) = some 4 := by kernel_rfl
set_option maxRecDepth 100000 in
set_option maxHeartbeats 1000000 in
theorem eqBindingS_c (l m : List TBinding) : ∀ (w : World) (K : Nat → Prop) (_ : ∀ b, K b → b < w.heap.size) (u v : Value) (_ : Rep w K (.sl (l.map TBinding.enc)) [u]) (_ : Rep w K (.sl (m.map TBinding.enc)) [v]),
    Calls Tryz.prog 62 #[u, v] w fun e w' => e = .returned (.bool (deq l m)) ∧ Below w.heap.size w w' := by
  intro w K hK u v h k
  obtain ⟨a, cap, rfl, hc, hm, -, hE⟩ := open_sl TBinding.width h
  obtain ⟨a', cap', rfl, hc', hm', -, hE'⟩ := open_sl TBinding.width k
  unfold maxLen at hm hm'
  clear h k
  by_cases hl : l.length = m.length
  · have hl1 : l.length ≤ m.length := by omega
    have hl2 : m.length ≤ l.length := by omega
    have bl : (l.length != m.length) = false := by simp [hl]
    have bl' : ((l.length : Int) != (m.length : Int)) = false := by simp [hl]
    have Hl := Lib.hid hl; clear hl
    have Hg : Hid (deq (l.drop 0) (m.drop 0) = deq l m) := rfl
    go_enter Tryz.func62, Tryz.ntmps62
    go_wp2
    go_loopw [5] (fun i wr => ∃ (n : Nat), n ≤ l.length ∧ i = .int .i64 n ∧ Hid (deq (l.drop n) (m.drop n) = deq l m) ∧ Below w.heap.size w wr) (fun i _ => l.length - (intOf i).toNat)
    case atStart => exact ⟨0, Nat.zero_le _, rfl, Hg, Below.refl _ _⟩
    case round =>
      clear Hg
      obtain ⟨n, hn, rfl, Hs, hB⟩ := hrel
      by_cases hlt : n < l.length
      · have hlt' : n < m.length := by omega
        obtain ⟨b, off, rfl, hKb, cs, hcs, hr⟩ := hE n hlt
        obtain ⟨b', off', rfl, hKb', cs', hcs', hr'⟩ := hE' n hlt'
        have gr := Rep.ext hB hK hr
        have gr' := Rep.ext hB hK hr'
        have gcs := hcs.ext hB (hK b hKb)
        have gcs' := hcs'.ext hB (hK b' hKb')
        have hK' : ∀ b, K b → b < wr.heap.size := fun b h => Nat.lt_of_lt_of_le (hK b h) hB.size
        have Hd : Hid (l.drop n = l[n] :: l.drop (n + 1)) := List.drop_eq_getElem_cons hlt
        have Hd' : Hid (m.drop n = m[n] :: m.drop (n + 1)) := List.drop_eq_getElem_cons hlt'
        clear hE hE' hcs hcs' hr hr'
        have hi : (Tryz.prog.info? 207).map (·.size) = some cs.length := by rw [Rep.length _ _ gr, TBinding.width]; exact infoE207
        have hi' : (Tryz.prog.info? 207).map (·.size) = some cs'.length := by rw [Rep.length _ _ gr', TBinding.width]; exact infoE207
        have hmem : l[n] ∈ l := List.getElem_mem hlt
        generalize l[n] = x at *
        generalize m[n] = y at *
        go_wp2_with fail
        have hI1 : ∀ w', Below wr.heap.size wr w' → Cells w' b (off + n * 4) cs := fun w' h => gcs.ext h (hK' b hKb)
        have hI2 : ∀ w', Below wr.heap.size wr w' → Cells w' b' (off' + n * 4) cs' := fun w' h => gcs'.ext h (hK' b' hKb')
        have hI0 : Below wr.heap.size wr wr.drew := (Below.refl _ _).drew
        refine rg 10 (Below wr.heap.size wr) (by kernel_rfl) rfl ?_
        refine rg_seg (fuel := 2) [0, 1, 2, 3, 4, 5, 6, 7] hI0 (by kernel_rfl) rfl ?_
        simp only [pick, List.getElem?_cons_zero, List.getElem?_cons_succ]
        iterate 3 (refine sg_fix _ rfl (fun w' hI => by go_simp; rfl) ?_; simp only [Act.put, List.setIfInBounds_toArray, List.set_cons_zero, List.set_cons_succ])
        refine sg_fix _ rfl (fun w' hI => run_ld 207 _ rfl b _ rfl cs (hI1 w' hI) _ Tryz.underlying207 hi) ?_
        simp only [Act.put, List.setIfInBounds_toArray, List.set_cons_zero, List.set_cons_succ]
        iterate 3 (refine sg_fix _ rfl (fun w' hI => by go_simp; rfl) ?_; simp only [Act.put, List.setIfInBounds_toArray, List.set_cons_zero, List.set_cons_succ])
        refine sg_fix _ rfl (fun w' hI => run_ld 207 _ rfl b' _ rfl cs' (hI2 w' hI) _ Tryz.underlying207 hi') ?_
        simp only [Act.put, List.setIfInBounds_toArray, List.set_cons_zero, List.set_cons_succ]
        refine sg_nil ?_
        refine rg_one (fuel := 1) 8 (by kernel_rfl) rfl (fun K1 hK1 => ?_)
        simp only [pick, List.getElem?_cons_zero, List.getElem?_cons_succ]
        refine rg_call rfl _ _ (by go_simp; exact ⟨rfl, rfl⟩) ?_
        refine (eqBinding_c x y wr.drew K hK' _ _ (Rep.ext hI0 hK' gr) (Rep.ext hI0 hK' gr')).mono ?_
        rintro e w1 ⟨rfl, hB1⟩
        have hB2 := hB.drew.trans (hB1.mono hB.size)
        refine ⟨_, rfl, hK1 _ _ (hI0.trans hB1) ?_⟩
        simp only [Act.put, List.setIfInBounds_toArray, List.set_cons_zero, List.set_cons_succ]
        refine rg_seg (fuel := 0) [9] (hI0.trans hB1) (by kernel_rfl) rfl ?_
        simp only [pick, List.getElem?_cons_zero, List.getElem?_cons_succ]
        by_cases h3 : x = y
        · rw [deq_eq h3]
          have H3 := Lib.hid h3; clear h3
          refine sg_fix _ rfl (fun w' hI => by go_simp; rfl) ?_; simp only [Act.put, List.setIfInBounds_toArray, List.set_cons_zero, List.set_cons_succ]
          refine sg_nil (rg_end (by kernel_rfl) ?_)
          go_wp2
          go_roundw
          case rel =>
            refine ⟨n + 1, hlt, by go_num, ?_, hB2⟩
            have e := Hs.out
            rw [Hd.out, Hd'.out, H3.out, deq_cons] at e
            exact e
          case measure => simp [intOf]; omega
        · rw [deq_ne h3]
          refine sg_fix _ rfl (fun w' hI => by go_simp; rfl) ?_; simp only [Act.put, List.setIfInBounds_toArray, List.set_cons_zero, List.set_cons_succ]
          refine sg_nil (rg_end (by kernel_rfl) ?_)
          have e := Hs.out
          rw [Hd.out, Hd'.out, deq_ne (fun q => h3 (List.cons.inj q).1)] at e
          have Hf := Lib.hid e
          clear e h3
          go_wp2
          go_ret
          exact ⟨ret_bool Hf.out, hB2⟩
      · obtain rfl : n = l.length := by omega
        go_wp2
        go_ret
        refine ⟨ret_bool ?_, hB⟩
        rw [← Hs.out, List.drop_length, List.drop_eq_nil_of_le hl2]
        exact (deq_eq rfl).symm
  · have bl : (l.length != m.length) = true := by simpa using hl
    have bl' : ((l.length : Int) != (m.length : Int)) = true := by simp; omega
    have Hl := Lib.hid hl; clear hl
    go_enter Tryz.func62, Tryz.ntmps62
    go_wp2
    go_ret
    exact ⟨ret_bool (deq_ne (fun q => Hl.out (congrArg List.length q))).symm, Below.refl _ _⟩
theorem TBound.ext {x y : TBound} (e0 : x.fTrait = y.fTrait) (e1 : x.fType = y.fType) : x = y := by
  cases x; cases y; simp only at *; subst e0 e1; rfl
set_option maxRecDepth 100000 in
set_option maxHeartbeats 1000000 in
theorem eqBound_c (x y : TBound) : ∀ (w : World) (K : Nat → Prop) (_ : ∀ b, K b → b < w.heap.size) (cs ds : List Value) (_ : Rep w K x.enc cs) (_ : Rep w K y.enc ds),
    Calls Tryz.prog 189 #[.agg cs.toArray, .agg ds.toArray] w fun e w' => e = .returned (.bool (deq x y)) ∧ Below w.heap.size w w' := by
  intro w K hK cs ds h k
  obtain ⟨c1, c2, c3, rfl, hTrait, hType⟩ := TBound.opn h
  obtain ⟨d1, d2, d3, rfl, kTrait, kType⟩ := TBound.opn k
  clear h k
  clear hTrait kTrait
  have hW : Below w.heap.size w ((w.alloc (.cells #[.string x.fTrait, c1, c2, c3] 110)).alloc (.cells #[.string y.fTrait, d1, d2, d3] 110)) := ((Below.refl _ _).alloc (Nat.le_refl _) _).alloc (by simp) _
  have hx : Below (w.heap.size + 1 + 1) ((w.alloc (.cells #[.string x.fTrait, c1, c2, c3] 110)).alloc (.cells #[.string y.fTrait, d1, d2, d3] 110)) ((w.alloc (.cells #[.string x.fTrait, c1, c2, c3] 110)).alloc (.cells #[.string y.fTrait, d1, d2, d3] 110)) := Below.refl _ _
  go_enter Tryz.func189, Tryz.ntmps189
  by_cases e0 : x.fTrait = y.fTrait
  · have b0 : (!x.fTrait.toList == y.fTrait.toList) = false := by simp [e0]
    have E0 := Lib.hid e0; clear e0
    go_wp2_with fail
    refine (eqType_c x.fType y.fType _ K (fun b hb => Nat.lt_of_lt_of_le (hK b hb) hW.size) _ _ (Rep.ext hW hK hType) (Rep.ext hW hK kType)).mono ?_
    rintro e w1 ⟨rfl, hB1⟩
    have hx1 : Below (w.heap.size + 1 + 1) ((w.alloc (.cells #[.string x.fTrait, c1, c2, c3] 110)).alloc (.cells #[.string y.fTrait, d1, d2, d3] 110)) w1 := hx.trans (hB1.mono (by have := hx.size; simp at this ⊢ <;> omega))
    have hb1 : Below w.heap.size w w1 := hW.trans (hx1.mono (by omega))
    have hc1 := (bcell hx1).1
    by_cases e1 : x.fType = y.fType
    · rw [deq_eq e1]
      have E1 := Lib.hid e1; clear e1
      go_wp2
      go_ret
      exact ⟨ret_bool (deq_eq (TBound.ext E0.out E1.out)).symm, hb1⟩
    · rw [deq_ne e1]
      have E1 := Lib.hid e1; clear e1
      go_wp2
      go_ret
      exact ⟨ret_bool (deq_ne (fun q => E1.out (congrArg (·.fType) q))).symm, hb1⟩
  · have b0 : (!x.fTrait.toList == y.fTrait.toList) = true := by simpa using fun q => e0 (ba_ext q)
    have E0 := Lib.hid e0; clear e0
    go_wp2
    go_ret
    exact ⟨ret_bool (deq_ne (fun q => E0.out (congrArg (·.fTrait) q))).symm, hW⟩
theorem infoE110 : (Tryz.prog.info? 110).map (·.size) = some 4 := by kernel_rfl
set_option maxRecDepth 100000 in
set_option maxHeartbeats 1000000 in
theorem eqBoundS_c (l m : List TBound) : ∀ (w : World) (K : Nat → Prop) (_ : ∀ b, K b → b < w.heap.size) (u v : Value) (_ : Rep w K (.sl (l.map TBound.enc)) [u]) (_ : Rep w K (.sl (m.map TBound.enc)) [v]),
    Calls Tryz.prog 140 #[u, v] w fun e w' => e = .returned (.bool (deq l m)) ∧ Below w.heap.size w w' := by
  intro w K hK u v h k
  obtain ⟨a, cap, rfl, hc, hm, -, hE⟩ := open_sl TBound.width h
  obtain ⟨a', cap', rfl, hc', hm', -, hE'⟩ := open_sl TBound.width k
  unfold maxLen at hm hm'
  clear h k
  by_cases hl : l.length = m.length
  · have hl1 : l.length ≤ m.length := by omega
    have hl2 : m.length ≤ l.length := by omega
    have bl : (l.length != m.length) = false := by simp [hl]
    have bl' : ((l.length : Int) != (m.length : Int)) = false := by simp [hl]
    have Hl := Lib.hid hl; clear hl
    have Hg : Hid (deq (l.drop 0) (m.drop 0) = deq l m) := rfl
    go_enter Tryz.func140, Tryz.ntmps140
    go_wp2
    go_loopw [5] (fun i wr => ∃ (n : Nat), n ≤ l.length ∧ i = .int .i64 n ∧ Hid (deq (l.drop n) (m.drop n) = deq l m) ∧ Below w.heap.size w wr) (fun i _ => l.length - (intOf i).toNat)
    case atStart => exact ⟨0, Nat.zero_le _, rfl, Hg, Below.refl _ _⟩
    case round =>
      clear Hg
      obtain ⟨n, hn, rfl, Hs, hB⟩ := hrel
      by_cases hlt : n < l.length
      · have hlt' : n < m.length := by omega
        obtain ⟨b, off, rfl, hKb, cs, hcs, hr⟩ := hE n hlt
        obtain ⟨b', off', rfl, hKb', cs', hcs', hr'⟩ := hE' n hlt'
        have gr := Rep.ext hB hK hr
        have gr' := Rep.ext hB hK hr'
        have gcs := hcs.ext hB (hK b hKb)
        have gcs' := hcs'.ext hB (hK b' hKb')
        have hK' : ∀ b, K b → b < wr.heap.size := fun b h => Nat.lt_of_lt_of_le (hK b h) hB.size
        have Hd : Hid (l.drop n = l[n] :: l.drop (n + 1)) := List.drop_eq_getElem_cons hlt
        have Hd' : Hid (m.drop n = m[n] :: m.drop (n + 1)) := List.drop_eq_getElem_cons hlt'
        clear hE hE' hcs hcs' hr hr'
        have hi : (Tryz.prog.info? 110).map (·.size) = some cs.length := by rw [Rep.length _ _ gr, TBound.width]; exact infoE110
        have hi' : (Tryz.prog.info? 110).map (·.size) = some cs'.length := by rw [Rep.length _ _ gr', TBound.width]; exact infoE110
        have hmem : l[n] ∈ l := List.getElem_mem hlt
        generalize l[n] = x at *
        generalize m[n] = y at *
        go_wp2_with fail
        have hI1 : ∀ w', Below wr.heap.size wr w' → Cells w' b (off + n * 4) cs := fun w' h => gcs.ext h (hK' b hKb)
        have hI2 : ∀ w', Below wr.heap.size wr w' → Cells w' b' (off' + n * 4) cs' := fun w' h => gcs'.ext h (hK' b' hKb')
        have hI0 : Below wr.heap.size wr wr.drew := (Below.refl _ _).drew
        refine rg 10 (Below wr.heap.size wr) (by kernel_rfl) rfl ?_
        refine rg_seg (fuel := 2) [0, 1, 2, 3, 4, 5, 6, 7] hI0 (by kernel_rfl) rfl ?_
        simp only [pick, List.getElem?_cons_zero, List.getElem?_cons_succ]
        iterate 3 (refine sg_fix _ rfl (fun w' hI => by go_simp; rfl) ?_; simp only [Act.put, List.setIfInBounds_toArray, List.set_cons_zero, List.set_cons_succ])
        refine sg_fix _ rfl (fun w' hI => run_ld 110 _ rfl b _ rfl cs (hI1 w' hI) _ Tryz.underlying110 hi) ?_
        simp only [Act.put, List.setIfInBounds_toArray, List.set_cons_zero, List.set_cons_succ]
        iterate 3 (refine sg_fix _ rfl (fun w' hI => by go_simp; rfl) ?_; simp only [Act.put, List.setIfInBounds_toArray, List.set_cons_zero, List.set_cons_succ])
        refine sg_fix _ rfl (fun w' hI => run_ld 110 _ rfl b' _ rfl cs' (hI2 w' hI) _ Tryz.underlying110 hi') ?_
        simp only [Act.put, List.setIfInBounds_toArray, List.set_cons_zero, List.set_cons_succ]
        refine sg_nil ?_
        refine rg_one (fuel := 1) 8 (by kernel_rfl) rfl (fun K1 hK1 => ?_)
        simp only [pick, List.getElem?_cons_zero, List.getElem?_cons_succ]
        refine rg_call rfl _ _ (by go_simp; exact ⟨rfl, rfl⟩) ?_
        refine (eqBound_c x y wr.drew K hK' _ _ (Rep.ext hI0 hK' gr) (Rep.ext hI0 hK' gr')).mono ?_
        rintro e w1 ⟨rfl, hB1⟩
        have hB2 := hB.drew.trans (hB1.mono hB.size)
        refine ⟨_, rfl, hK1 _ _ (hI0.trans hB1) ?_⟩
        simp only [Act.put, List.setIfInBounds_toArray, List.set_cons_zero, List.set_cons_succ]
        refine rg_seg (fuel := 0) [9] (hI0.trans hB1) (by kernel_rfl) rfl ?_
        simp only [pick, List.getElem?_cons_zero, List.getElem?_cons_succ]
        by_cases h3 : x = y
        · rw [deq_eq h3]
          have H3 := Lib.hid h3; clear h3
          refine sg_fix _ rfl (fun w' hI => by go_simp; rfl) ?_; simp only [Act.put, List.setIfInBounds_toArray, List.set_cons_zero, List.set_cons_succ]
          refine sg_nil (rg_end (by kernel_rfl) ?_)
          go_wp2
          go_roundw
          case rel =>
            refine ⟨n + 1, hlt, by go_num, ?_, hB2⟩
            have e := Hs.out
            rw [Hd.out, Hd'.out, H3.out, deq_cons] at e
            exact e
          case measure => simp [intOf]; omega
        · rw [deq_ne h3]
          refine sg_fix _ rfl (fun w' hI => by go_simp; rfl) ?_; simp only [Act.put, List.setIfInBounds_toArray, List.set_cons_zero, List.set_cons_succ]
          refine sg_nil (rg_end (by kernel_rfl) ?_)
          have e := Hs.out
          rw [Hd.out, Hd'.out, deq_ne (fun q => h3 (List.cons.inj q).1)] at e
          have Hf := Lib.hid e
          clear e h3
          go_wp2
          go_ret
          exact ⟨ret_bool Hf.out, hB2⟩
      · obtain rfl : n = l.length := by omega
        go_wp2
        go_ret
        refine ⟨ret_bool ?_, hB⟩
        rw [← Hs.out, List.drop_length, List.drop_eq_nil_of_le hl2]
        exact (deq_eq rfl).symm
  · have bl : (l.length != m.length) = true := by simpa using hl
    have bl' : ((l.length : Int) != (m.length : Int)) = true := by simp; omega
    have Hl := Lib.hid hl; clear hl
    go_enter Tryz.func140, Tryz.ntmps140
    go_wp2
    go_ret
    exact ⟨ret_bool (deq_ne (fun q => Hl.out (congrArg List.length q))).symm, Below.refl _ _⟩
theorem TEquation.ext {x y : TEquation} (e0 : x.fA = y.fA) (e1 : x.fB = y.fB) (e2 : x.fNode = y.fNode) : x = y := by
  cases x; cases y; simp only at *; subst e0 e1 e2; rfl
set_option maxRecDepth 100000 in
set_option maxHeartbeats 1000000 in
theorem eqEquation_c (x y : TEquation) : ∀ (w : World) (K : Nat → Prop) (_ : ∀ b, K b → b < w.heap.size) (cs ds : List Value) (_ : Rep w K x.enc cs) (_ : Rep w K y.enc ds),
    Calls Tryz.prog 129 #[.agg cs.toArray, .agg ds.toArray] w fun e w' => e = .returned (.bool (deq x y)) ∧ Below w.heap.size w w' := by
  intro w K hK cs ds h k
  obtain ⟨c0, c1, c2, c3, c4, c5, rfl, hA, hB, hNode⟩ := TEquation.opn h
  obtain ⟨d0, d1, d2, d3, d4, d5, rfl, kA, kB, kNode⟩ := TEquation.opn k
  clear h k
  clear hNode kNode
  have hW : Below w.heap.size w ((w.alloc (.cells #[c0, c1, c2, c3, c4, c5, .int .i64 x.fNode] 107)).alloc (.cells #[d0, d1, d2, d3, d4, d5, .int .i64 y.fNode] 107)) := ((Below.refl _ _).alloc (Nat.le_refl _) _).alloc (by simp) _
  have hx : Below (w.heap.size + 1 + 1) ((w.alloc (.cells #[c0, c1, c2, c3, c4, c5, .int .i64 x.fNode] 107)).alloc (.cells #[d0, d1, d2, d3, d4, d5, .int .i64 y.fNode] 107)) ((w.alloc (.cells #[c0, c1, c2, c3, c4, c5, .int .i64 x.fNode] 107)).alloc (.cells #[d0, d1, d2, d3, d4, d5, .int .i64 y.fNode] 107)) := Below.refl _ _
  go_enter Tryz.func129, Tryz.ntmps129
  go_wp2_with fail
  refine (eqType_c x.fA y.fA _ K (fun b hb => Nat.lt_of_lt_of_le (hK b hb) hW.size) _ _ (Rep.ext hW hK hA) (Rep.ext hW hK kA)).mono ?_
  rintro e w0 ⟨rfl, hB0⟩
  have hx0 : Below (w.heap.size + 1 + 1) ((w.alloc (.cells #[c0, c1, c2, c3, c4, c5, .int .i64 x.fNode] 107)).alloc (.cells #[d0, d1, d2, d3, d4, d5, .int .i64 y.fNode] 107)) w0 := hx.trans (hB0.mono (by have := hx.size; simp at this ⊢ <;> omega))
  have hb0 : Below w.heap.size w w0 := hW.trans (hx0.mono (by omega))
  have hc0 := (bcell hx0).1
  by_cases e0 : x.fA = y.fA
  · rw [deq_eq e0]
    have E0 := Lib.hid e0; clear e0
    go_wp2_with fail
    refine (eqType_c x.fB y.fB _ K (fun b hb => Nat.lt_of_lt_of_le (hK b hb) hb0.size) _ _ (Rep.ext hb0 hK hB) (Rep.ext hb0 hK kB)).mono ?_
    rintro e w1 ⟨rfl, hB1⟩
    have hx1 : Below (w.heap.size + 1 + 1) ((w.alloc (.cells #[c0, c1, c2, c3, c4, c5, .int .i64 x.fNode] 107)).alloc (.cells #[d0, d1, d2, d3, d4, d5, .int .i64 y.fNode] 107)) w1 := hx0.trans (hB1.mono (by have := hx0.size; simp at this ⊢ <;> omega))
    have hb1 : Below w.heap.size w w1 := hW.trans (hx1.mono (by omega))
    have hc1 := (bcell hx1).1
    by_cases e1 : x.fB = y.fB
    · rw [deq_eq e1]
      have E1 := Lib.hid e1; clear e1
      by_cases e2 : x.fNode = y.fNode
      · have b2 : (x.fNode != y.fNode) = false := by simp [e2]
        have E2 := Lib.hid e2; clear e2
        go_wp2
        go_ret
        exact ⟨ret_bool (deq_eq (TEquation.ext E0.out E1.out E2.out)).symm, hb1⟩
      · have b2 : (x.fNode != y.fNode) = true := by simpa using e2
        have E2 := Lib.hid e2; clear e2
        go_wp2
        go_ret
        exact ⟨ret_bool (deq_ne (fun q => E2.out (congrArg (·.fNode) q))).symm, hb1⟩
    · rw [deq_ne e1]
      have E1 := Lib.hid e1; clear e1
      go_wp2
      go_ret
      exact ⟨ret_bool (deq_ne (fun q => E1.out (congrArg (·.fB) q))).symm, hb1⟩
  · rw [deq_ne e0]
    have E0 := Lib.hid e0; clear e0
    go_wp2
    go_ret
    exact ⟨ret_bool (deq_ne (fun q => E0.out (congrArg (·.fA) q))).symm, hb0⟩
theorem infoE107 : (Tryz.prog.info? 107).map (·.size) = some 7 := by kernel_rfl
set_option maxRecDepth 100000 in
set_option maxHeartbeats 1000000 in
theorem eqEquationS_c (l m : List TEquation) : ∀ (w : World) (K : Nat → Prop) (_ : ∀ b, K b → b < w.heap.size) (u v : Value) (_ : Rep w K (.sl (l.map TEquation.enc)) [u]) (_ : Rep w K (.sl (m.map TEquation.enc)) [v]),
    Calls Tryz.prog 63 #[u, v] w fun e w' => e = .returned (.bool (deq l m)) ∧ Below w.heap.size w w' := by
  intro w K hK u v h k
  obtain ⟨a, cap, rfl, hc, hm, -, hE⟩ := open_sl TEquation.width h
  obtain ⟨a', cap', rfl, hc', hm', -, hE'⟩ := open_sl TEquation.width k
  unfold maxLen at hm hm'
  clear h k
  by_cases hl : l.length = m.length
  · have hl1 : l.length ≤ m.length := by omega
    have hl2 : m.length ≤ l.length := by omega
    have bl : (l.length != m.length) = false := by simp [hl]
    have bl' : ((l.length : Int) != (m.length : Int)) = false := by simp [hl]
    have Hl := Lib.hid hl; clear hl
    have Hg : Hid (deq (l.drop 0) (m.drop 0) = deq l m) := rfl
    go_enter Tryz.func63, Tryz.ntmps63
    go_wp2
    go_loopw [5] (fun i wr => ∃ (n : Nat), n ≤ l.length ∧ i = .int .i64 n ∧ Hid (deq (l.drop n) (m.drop n) = deq l m) ∧ Below w.heap.size w wr) (fun i _ => l.length - (intOf i).toNat)
    case atStart => exact ⟨0, Nat.zero_le _, rfl, Hg, Below.refl _ _⟩
    case round =>
      clear Hg
      obtain ⟨n, hn, rfl, Hs, hB⟩ := hrel
      by_cases hlt : n < l.length
      · have hlt' : n < m.length := by omega
        obtain ⟨b, off, rfl, hKb, cs, hcs, hr⟩ := hE n hlt
        obtain ⟨b', off', rfl, hKb', cs', hcs', hr'⟩ := hE' n hlt'
        have gr := Rep.ext hB hK hr
        have gr' := Rep.ext hB hK hr'
        have gcs := hcs.ext hB (hK b hKb)
        have gcs' := hcs'.ext hB (hK b' hKb')
        have hK' : ∀ b, K b → b < wr.heap.size := fun b h => Nat.lt_of_lt_of_le (hK b h) hB.size
        have Hd : Hid (l.drop n = l[n] :: l.drop (n + 1)) := List.drop_eq_getElem_cons hlt
        have Hd' : Hid (m.drop n = m[n] :: m.drop (n + 1)) := List.drop_eq_getElem_cons hlt'
        clear hE hE' hcs hcs' hr hr'
        have hi : (Tryz.prog.info? 107).map (·.size) = some cs.length := by rw [Rep.length _ _ gr, TEquation.width]; exact infoE107
        have hi' : (Tryz.prog.info? 107).map (·.size) = some cs'.length := by rw [Rep.length _ _ gr', TEquation.width]; exact infoE107
        have hmem : l[n] ∈ l := List.getElem_mem hlt
        generalize l[n] = x at *
        generalize m[n] = y at *
        go_wp2_with fail
        have hI1 : ∀ w', Below wr.heap.size wr w' → Cells w' b (off + n * 7) cs := fun w' h => gcs.ext h (hK' b hKb)
        have hI2 : ∀ w', Below wr.heap.size wr w' → Cells w' b' (off' + n * 7) cs' := fun w' h => gcs'.ext h (hK' b' hKb')
        have hI0 : Below wr.heap.size wr wr.drew := (Below.refl _ _).drew
        refine rg 10 (Below wr.heap.size wr) (by kernel_rfl) rfl ?_
        refine rg_seg (fuel := 2) [0, 1, 2, 3, 4, 5, 6, 7] hI0 (by kernel_rfl) rfl ?_
        simp only [pick, List.getElem?_cons_zero, List.getElem?_cons_succ]
        iterate 3 (refine sg_fix _ rfl (fun w' hI => by go_simp; rfl) ?_; simp only [Act.put, List.setIfInBounds_toArray, List.set_cons_zero, List.set_cons_succ])
        refine sg_fix _ rfl (fun w' hI => run_ld 107 _ rfl b _ rfl cs (hI1 w' hI) _ Tryz.underlying107 hi) ?_
        simp only [Act.put, List.setIfInBounds_toArray, List.set_cons_zero, List.set_cons_succ]
        iterate 3 (refine sg_fix _ rfl (fun w' hI => by go_simp; rfl) ?_; simp only [Act.put, List.setIfInBounds_toArray, List.set_cons_zero, List.set_cons_succ])
        refine sg_fix _ rfl (fun w' hI => run_ld 107 _ rfl b' _ rfl cs' (hI2 w' hI) _ Tryz.underlying107 hi') ?_
        simp only [Act.put, List.setIfInBounds_toArray, List.set_cons_zero, List.set_cons_succ]
        refine sg_nil ?_
        refine rg_one (fuel := 1) 8 (by kernel_rfl) rfl (fun K1 hK1 => ?_)
        simp only [pick, List.getElem?_cons_zero, List.getElem?_cons_succ]
        refine rg_call rfl _ _ (by go_simp; exact ⟨rfl, rfl⟩) ?_
        refine (eqEquation_c x y wr.drew K hK' _ _ (Rep.ext hI0 hK' gr) (Rep.ext hI0 hK' gr')).mono ?_
        rintro e w1 ⟨rfl, hB1⟩
        have hB2 := hB.drew.trans (hB1.mono hB.size)
        refine ⟨_, rfl, hK1 _ _ (hI0.trans hB1) ?_⟩
        simp only [Act.put, List.setIfInBounds_toArray, List.set_cons_zero, List.set_cons_succ]
        refine rg_seg (fuel := 0) [9] (hI0.trans hB1) (by kernel_rfl) rfl ?_
        simp only [pick, List.getElem?_cons_zero, List.getElem?_cons_succ]
        by_cases h3 : x = y
        · rw [deq_eq h3]
          have H3 := Lib.hid h3; clear h3
          refine sg_fix _ rfl (fun w' hI => by go_simp; rfl) ?_; simp only [Act.put, List.setIfInBounds_toArray, List.set_cons_zero, List.set_cons_succ]
          refine sg_nil (rg_end (by kernel_rfl) ?_)
          go_wp2
          go_roundw
          case rel =>
            refine ⟨n + 1, hlt, by go_num, ?_, hB2⟩
            have e := Hs.out
            rw [Hd.out, Hd'.out, H3.out, deq_cons] at e
            exact e
          case measure => simp [intOf]; omega
        · rw [deq_ne h3]
          refine sg_fix _ rfl (fun w' hI => by go_simp; rfl) ?_; simp only [Act.put, List.setIfInBounds_toArray, List.set_cons_zero, List.set_cons_succ]
          refine sg_nil (rg_end (by kernel_rfl) ?_)
          have e := Hs.out
          rw [Hd.out, Hd'.out, deq_ne (fun q => h3 (List.cons.inj q).1)] at e
          have Hf := Lib.hid e
          clear e h3
          go_wp2
          go_ret
          exact ⟨ret_bool Hf.out, hB2⟩
      · obtain rfl : n = l.length := by omega
        go_wp2
        go_ret
        refine ⟨ret_bool ?_, hB⟩
        rw [← Hs.out, List.drop_length, List.drop_eq_nil_of_le hl2]
        exact (deq_eq rfl).symm
  · have bl : (l.length != m.length) = true := by simpa using hl
    have bl' : ((l.length : Int) != (m.length : Int)) = true := by simp; omega
    have Hl := Lib.hid hl; clear hl
    go_enter Tryz.func63, Tryz.ntmps63
    go_wp2
    go_ret
    exact ⟨ret_bool (deq_ne (fun q => Hl.out (congrArg List.length q))).symm, Below.refl _ _⟩
theorem TObligation.ext {x y : TObligation} (e0 : x.fGoal = y.fGoal) (e1 : x.fNode = y.fNode) : x = y := by
  cases x; cases y; simp only at *; subst e0 e1; rfl
set_option maxRecDepth 100000 in
set_option maxHeartbeats 1000000 in
theorem eqObligation_c (x y : TObligation) : ∀ (w : World) (K : Nat → Prop) (_ : ∀ b, K b → b < w.heap.size) (cs ds : List Value) (_ : Rep w K x.enc cs) (_ : Rep w K y.enc ds),
    Calls Tryz.prog 130 #[.agg cs.toArray, .agg ds.toArray] w fun e w' => e = .returned (.bool (deq x y)) ∧ Below w.heap.size w w' := by
  intro w K hK cs ds h k
  obtain ⟨c0, c1, c2, c3, rfl, hGoal, hNode⟩ := TObligation.opn h
  obtain ⟨d0, d1, d2, d3, rfl, kGoal, kNode⟩ := TObligation.opn k
  clear h k
  clear hNode kNode
  have hW : Below w.heap.size w ((w.alloc (.cells #[c0, c1, c2, c3, .int .i64 x.fNode] 112)).alloc (.cells #[d0, d1, d2, d3, .int .i64 y.fNode] 112)) := ((Below.refl _ _).alloc (Nat.le_refl _) _).alloc (by simp) _
  have hx : Below (w.heap.size + 1 + 1) ((w.alloc (.cells #[c0, c1, c2, c3, .int .i64 x.fNode] 112)).alloc (.cells #[d0, d1, d2, d3, .int .i64 y.fNode] 112)) ((w.alloc (.cells #[c0, c1, c2, c3, .int .i64 x.fNode] 112)).alloc (.cells #[d0, d1, d2, d3, .int .i64 y.fNode] 112)) := Below.refl _ _
  go_enter Tryz.func130, Tryz.ntmps130
  go_wp2_with fail
  refine (eqBound_c x.fGoal y.fGoal _ K (fun b hb => Nat.lt_of_lt_of_le (hK b hb) hW.size) _ _ (Rep.ext hW hK hGoal) (Rep.ext hW hK kGoal)).mono ?_
  rintro e w0 ⟨rfl, hB0⟩
  have hx0 : Below (w.heap.size + 1 + 1) ((w.alloc (.cells #[c0, c1, c2, c3, .int .i64 x.fNode] 112)).alloc (.cells #[d0, d1, d2, d3, .int .i64 y.fNode] 112)) w0 := hx.trans (hB0.mono (by have := hx.size; simp at this ⊢ <;> omega))
  have hb0 : Below w.heap.size w w0 := hW.trans (hx0.mono (by omega))
  have hc0 := (bcell hx0).1
  by_cases e0 : x.fGoal = y.fGoal
  · rw [deq_eq e0]
    have E0 := Lib.hid e0; clear e0
    by_cases e1 : x.fNode = y.fNode
    · have b1 : (x.fNode != y.fNode) = false := by simp [e1]
      have E1 := Lib.hid e1; clear e1
      go_wp2
      go_ret
      exact ⟨ret_bool (deq_eq (TObligation.ext E0.out E1.out)).symm, hb0⟩
    · have b1 : (x.fNode != y.fNode) = true := by simpa using e1
      have E1 := Lib.hid e1; clear e1
      go_wp2
      go_ret
      exact ⟨ret_bool (deq_ne (fun q => E1.out (congrArg (·.fNode) q))).symm, hb0⟩
  · rw [deq_ne e0]
    have E0 := Lib.hid e0; clear e0
    go_wp2
    go_ret
    exact ⟨ret_bool (deq_ne (fun q => E0.out (congrArg (·.fGoal) q))).symm, hb0⟩
theorem infoE112 : (Tryz.prog.info? 112).map (·.size) = some 5 := by kernel_rfl
set_option maxRecDepth 100000 in
set_option maxHeartbeats 1000000 in
theorem eqObligationS_c (l m : List TObligation) : ∀ (w : World) (K : Nat → Prop) (_ : ∀ b, K b → b < w.heap.size) (u v : Value) (_ : Rep w K (.sl (l.map TObligation.enc)) [u]) (_ : Rep w K (.sl (m.map TObligation.enc)) [v]),
    Calls Tryz.prog 64 #[u, v] w fun e w' => e = .returned (.bool (deq l m)) ∧ Below w.heap.size w w' := by
  intro w K hK u v h k
  obtain ⟨a, cap, rfl, hc, hm, -, hE⟩ := open_sl TObligation.width h
  obtain ⟨a', cap', rfl, hc', hm', -, hE'⟩ := open_sl TObligation.width k
  unfold maxLen at hm hm'
  clear h k
  by_cases hl : l.length = m.length
  · have hl1 : l.length ≤ m.length := by omega
    have hl2 : m.length ≤ l.length := by omega
    have bl : (l.length != m.length) = false := by simp [hl]
    have bl' : ((l.length : Int) != (m.length : Int)) = false := by simp [hl]
    have Hl := Lib.hid hl; clear hl
    have Hg : Hid (deq (l.drop 0) (m.drop 0) = deq l m) := rfl
    go_enter Tryz.func64, Tryz.ntmps64
    go_wp2
    go_loopw [5] (fun i wr => ∃ (n : Nat), n ≤ l.length ∧ i = .int .i64 n ∧ Hid (deq (l.drop n) (m.drop n) = deq l m) ∧ Below w.heap.size w wr) (fun i _ => l.length - (intOf i).toNat)
    case atStart => exact ⟨0, Nat.zero_le _, rfl, Hg, Below.refl _ _⟩
    case round =>
      clear Hg
      obtain ⟨n, hn, rfl, Hs, hB⟩ := hrel
      by_cases hlt : n < l.length
      · have hlt' : n < m.length := by omega
        obtain ⟨b, off, rfl, hKb, cs, hcs, hr⟩ := hE n hlt
        obtain ⟨b', off', rfl, hKb', cs', hcs', hr'⟩ := hE' n hlt'
        have gr := Rep.ext hB hK hr
        have gr' := Rep.ext hB hK hr'
        have gcs := hcs.ext hB (hK b hKb)
        have gcs' := hcs'.ext hB (hK b' hKb')
        have hK' : ∀ b, K b → b < wr.heap.size := fun b h => Nat.lt_of_lt_of_le (hK b h) hB.size
        have Hd : Hid (l.drop n = l[n] :: l.drop (n + 1)) := List.drop_eq_getElem_cons hlt
        have Hd' : Hid (m.drop n = m[n] :: m.drop (n + 1)) := List.drop_eq_getElem_cons hlt'
        clear hE hE' hcs hcs' hr hr'
        have hi : (Tryz.prog.info? 112).map (·.size) = some cs.length := by rw [Rep.length _ _ gr, TObligation.width]; exact infoE112
        have hi' : (Tryz.prog.info? 112).map (·.size) = some cs'.length := by rw [Rep.length _ _ gr', TObligation.width]; exact infoE112
        have hmem : l[n] ∈ l := List.getElem_mem hlt
        generalize l[n] = x at *
        generalize m[n] = y at *
        go_wp2_with fail
        have hI1 : ∀ w', Below wr.heap.size wr w' → Cells w' b (off + n * 5) cs := fun w' h => gcs.ext h (hK' b hKb)
        have hI2 : ∀ w', Below wr.heap.size wr w' → Cells w' b' (off' + n * 5) cs' := fun w' h => gcs'.ext h (hK' b' hKb')
        have hI0 : Below wr.heap.size wr wr.drew := (Below.refl _ _).drew
        refine rg 10 (Below wr.heap.size wr) (by kernel_rfl) rfl ?_
        refine rg_seg (fuel := 2) [0, 1, 2, 3, 4, 5, 6, 7] hI0 (by kernel_rfl) rfl ?_
        simp only [pick, List.getElem?_cons_zero, List.getElem?_cons_succ]
        iterate 3 (refine sg_fix _ rfl (fun w' hI => by go_simp; rfl) ?_; simp only [Act.put, List.setIfInBounds_toArray, List.set_cons_zero, List.set_cons_succ])
        refine sg_fix _ rfl (fun w' hI => run_ld 112 _ rfl b _ rfl cs (hI1 w' hI) _ Tryz.underlying112 hi) ?_
        simp only [Act.put, List.setIfInBounds_toArray, List.set_cons_zero, List.set_cons_succ]
        iterate 3 (refine sg_fix _ rfl (fun w' hI => by go_simp; rfl) ?_; simp only [Act.put, List.setIfInBounds_toArray, List.set_cons_zero, List.set_cons_succ])
        refine sg_fix _ rfl (fun w' hI => run_ld 112 _ rfl b' _ rfl cs' (hI2 w' hI) _ Tryz.underlying112 hi') ?_
        simp only [Act.put, List.setIfInBounds_toArray, List.set_cons_zero, List.set_cons_succ]
        refine sg_nil ?_
        refine rg_one (fuel := 1) 8 (by kernel_rfl) rfl (fun K1 hK1 => ?_)
        simp only [pick, List.getElem?_cons_zero, List.getElem?_cons_succ]
        refine rg_call rfl _ _ (by go_simp; exact ⟨rfl, rfl⟩) ?_
        refine (eqObligation_c x y wr.drew K hK' _ _ (Rep.ext hI0 hK' gr) (Rep.ext hI0 hK' gr')).mono ?_
        rintro e w1 ⟨rfl, hB1⟩
        have hB2 := hB.drew.trans (hB1.mono hB.size)
        refine ⟨_, rfl, hK1 _ _ (hI0.trans hB1) ?_⟩
        simp only [Act.put, List.setIfInBounds_toArray, List.set_cons_zero, List.set_cons_succ]
        refine rg_seg (fuel := 0) [9] (hI0.trans hB1) (by kernel_rfl) rfl ?_
        simp only [pick, List.getElem?_cons_zero, List.getElem?_cons_succ]
        by_cases h3 : x = y
        · rw [deq_eq h3]
          have H3 := Lib.hid h3; clear h3
          refine sg_fix _ rfl (fun w' hI => by go_simp; rfl) ?_; simp only [Act.put, List.setIfInBounds_toArray, List.set_cons_zero, List.set_cons_succ]
          refine sg_nil (rg_end (by kernel_rfl) ?_)
          go_wp2
          go_roundw
          case rel =>
            refine ⟨n + 1, hlt, by go_num, ?_, hB2⟩
            have e := Hs.out
            rw [Hd.out, Hd'.out, H3.out, deq_cons] at e
            exact e
          case measure => simp [intOf]; omega
        · rw [deq_ne h3]
          refine sg_fix _ rfl (fun w' hI => by go_simp; rfl) ?_; simp only [Act.put, List.setIfInBounds_toArray, List.set_cons_zero, List.set_cons_succ]
          refine sg_nil (rg_end (by kernel_rfl) ?_)
          have e := Hs.out
          rw [Hd.out, Hd'.out, deq_ne (fun q => h3 (List.cons.inj q).1)] at e
          have Hf := Lib.hid e
          clear e h3
          go_wp2
          go_ret
          exact ⟨ret_bool Hf.out, hB2⟩
      · obtain rfl : n = l.length := by omega
        go_wp2
        go_ret
        refine ⟨ret_bool ?_, hB⟩
        rw [← Hs.out, List.drop_length, List.drop_eq_nil_of_le hl2]
        exact (deq_eq rfl).symm
  · have bl : (l.length != m.length) = true := by simpa using hl
    have bl' : ((l.length : Int) != (m.length : Int)) = true := by simp; omega
    have Hl := Lib.hid hl; clear hl
    go_enter Tryz.func64, Tryz.ntmps64
    go_wp2
    go_ret
    exact ⟨ret_bool (deq_ne (fun q => Hl.out (congrArg List.length q))).symm, Below.refl _ _⟩
theorem TInferState.ext {x y : TInferState} (e0 : x.fNext = y.fNext) (e1 : x.fCount = y.fCount) (e2 : x.fNode = y.fNode) (e3 : x.fBindings = y.fBindings) (e4 : x.fEquations = y.fEquations) (e5 : x.fObligations = y.fObligations) (e6 : x.fCode = y.fCode) (e7 : x.fAt = y.fAt) : x = y := by
  cases x; cases y; simp only at *; subst e0 e1 e2 e3 e4 e5 e6 e7; rfl
set_option maxRecDepth 100000 in
set_option maxHeartbeats 1000000 in
theorem eqInferState_c (x y : TInferState) : ∀ (w : World) (K : Nat → Prop) (_ : ∀ b, K b → b < w.heap.size) (cs ds : List Value) (_ : Rep w K x.enc cs) (_ : Rep w K y.enc ds),
    Calls Tryz.prog 20 #[.agg cs.toArray, .agg ds.toArray] w fun e w' => e = .returned (.bool (deq x y)) ∧ Below w.heap.size w w' := by
  intro w K hK cs ds h k
  obtain ⟨c3, c4, c5, rfl, hNext, hCount, hNode, hBindings, hEquations, hObligations, hCode, hAt⟩ := TInferState.opn h
  obtain ⟨d3, d4, d5, rfl, kNext, kCount, kNode, kBindings, kEquations, kObligations, kCode, kAt⟩ := TInferState.opn k
  clear h k
  clear hNext kNext
  clear hCount kCount
  clear hNode kNode
  clear hCode kCode
  clear hAt kAt
  have hW : Below w.heap.size w ((w.alloc (.cells #[.int .i64 x.fNext, .int .i64 x.fCount, .int .i64 x.fNode, c3, c4, c5, .int .i64 x.fCode, .int .i64 x.fAt] 54)).alloc (.cells #[.int .i64 y.fNext, .int .i64 y.fCount, .int .i64 y.fNode, d3, d4, d5, .int .i64 y.fCode, .int .i64 y.fAt] 54)) := ((Below.refl _ _).alloc (Nat.le_refl _) _).alloc (by simp) _
  have hx : Below (w.heap.size + 1 + 1) ((w.alloc (.cells #[.int .i64 x.fNext, .int .i64 x.fCount, .int .i64 x.fNode, c3, c4, c5, .int .i64 x.fCode, .int .i64 x.fAt] 54)).alloc (.cells #[.int .i64 y.fNext, .int .i64 y.fCount, .int .i64 y.fNode, d3, d4, d5, .int .i64 y.fCode, .int .i64 y.fAt] 54)) ((w.alloc (.cells #[.int .i64 x.fNext, .int .i64 x.fCount, .int .i64 x.fNode, c3, c4, c5, .int .i64 x.fCode, .int .i64 x.fAt] 54)).alloc (.cells #[.int .i64 y.fNext, .int .i64 y.fCount, .int .i64 y.fNode, d3, d4, d5, .int .i64 y.fCode, .int .i64 y.fAt] 54)) := Below.refl _ _
  go_enter Tryz.func20, Tryz.ntmps20
  by_cases e0 : x.fNext = y.fNext
  · have b0 : (x.fNext != y.fNext) = false := by simp [e0]
    have E0 := Lib.hid e0; clear e0
    by_cases e1 : x.fCount = y.fCount
    · have b1 : (x.fCount != y.fCount) = false := by simp [e1]
      have E1 := Lib.hid e1; clear e1
      by_cases e2 : x.fNode = y.fNode
      · have b2 : (x.fNode != y.fNode) = false := by simp [e2]
        have E2 := Lib.hid e2; clear e2
        go_wp2_with fail
        refine (eqBindingS_c x.fBindings y.fBindings _ K (fun b hb => Nat.lt_of_lt_of_le (hK b hb) hW.size) _ _ (Rep.ext hW hK hBindings) (Rep.ext hW hK kBindings)).mono ?_
        rintro e w3 ⟨rfl, hB3⟩
        have hx3 : Below (w.heap.size + 1 + 1) ((w.alloc (.cells #[.int .i64 x.fNext, .int .i64 x.fCount, .int .i64 x.fNode, c3, c4, c5, .int .i64 x.fCode, .int .i64 x.fAt] 54)).alloc (.cells #[.int .i64 y.fNext, .int .i64 y.fCount, .int .i64 y.fNode, d3, d4, d5, .int .i64 y.fCode, .int .i64 y.fAt] 54)) w3 := hx.trans (hB3.mono (by have := hx.size; simp at this ⊢ <;> omega))
        have hb3 : Below w.heap.size w w3 := hW.trans (hx3.mono (by omega))
        have hc3 := (bcell hx3).1
        by_cases e3 : x.fBindings = y.fBindings
        · rw [deq_eq e3]
          have E3 := Lib.hid e3; clear e3
          go_wp2_with fail
          refine (eqEquationS_c x.fEquations y.fEquations _ K (fun b hb => Nat.lt_of_lt_of_le (hK b hb) hb3.size) _ _ (Rep.ext hb3 hK hEquations) (Rep.ext hb3 hK kEquations)).mono ?_
          rintro e w4 ⟨rfl, hB4⟩
          have hx4 : Below (w.heap.size + 1 + 1) ((w.alloc (.cells #[.int .i64 x.fNext, .int .i64 x.fCount, .int .i64 x.fNode, c3, c4, c5, .int .i64 x.fCode, .int .i64 x.fAt] 54)).alloc (.cells #[.int .i64 y.fNext, .int .i64 y.fCount, .int .i64 y.fNode, d3, d4, d5, .int .i64 y.fCode, .int .i64 y.fAt] 54)) w4 := hx3.trans (hB4.mono (by have := hx3.size; simp at this ⊢ <;> omega))
          have hb4 : Below w.heap.size w w4 := hW.trans (hx4.mono (by omega))
          have hc4 := (bcell hx4).1
          by_cases e4 : x.fEquations = y.fEquations
          · rw [deq_eq e4]
            have E4 := Lib.hid e4; clear e4
            go_wp2_with fail
            refine (eqObligationS_c x.fObligations y.fObligations _ K (fun b hb => Nat.lt_of_lt_of_le (hK b hb) hb4.size) _ _ (Rep.ext hb4 hK hObligations) (Rep.ext hb4 hK kObligations)).mono ?_
            rintro e w5 ⟨rfl, hB5⟩
            have hx5 : Below (w.heap.size + 1 + 1) ((w.alloc (.cells #[.int .i64 x.fNext, .int .i64 x.fCount, .int .i64 x.fNode, c3, c4, c5, .int .i64 x.fCode, .int .i64 x.fAt] 54)).alloc (.cells #[.int .i64 y.fNext, .int .i64 y.fCount, .int .i64 y.fNode, d3, d4, d5, .int .i64 y.fCode, .int .i64 y.fAt] 54)) w5 := hx4.trans (hB5.mono (by have := hx4.size; simp at this ⊢ <;> omega))
            have hb5 : Below w.heap.size w w5 := hW.trans (hx5.mono (by omega))
            have hc5 := (bcell hx5).1
            by_cases e5 : x.fObligations = y.fObligations
            · rw [deq_eq e5]
              have E5 := Lib.hid e5; clear e5
              by_cases e6 : x.fCode = y.fCode
              · have b6 : (x.fCode != y.fCode) = false := by simp [e6]
                have E6 := Lib.hid e6; clear e6
                by_cases e7 : x.fAt = y.fAt
                · have b7 : (x.fAt != y.fAt) = false := by simp [e7]
                  have E7 := Lib.hid e7; clear e7
                  go_wp2
                  go_ret
                  exact ⟨ret_bool (deq_eq (TInferState.ext E0.out E1.out E2.out E3.out E4.out E5.out E6.out E7.out)).symm, hb5⟩
                · have b7 : (x.fAt != y.fAt) = true := by simpa using e7
                  have E7 := Lib.hid e7; clear e7
                  go_wp2
                  go_ret
                  exact ⟨ret_bool (deq_ne (fun q => E7.out (congrArg (·.fAt) q))).symm, hb5⟩
              · have b6 : (x.fCode != y.fCode) = true := by simpa using e6
                have E6 := Lib.hid e6; clear e6
                go_wp2
                go_ret
                exact ⟨ret_bool (deq_ne (fun q => E6.out (congrArg (·.fCode) q))).symm, hb5⟩
            · rw [deq_ne e5]
              have E5 := Lib.hid e5; clear e5
              go_wp2
              go_ret
              exact ⟨ret_bool (deq_ne (fun q => E5.out (congrArg (·.fObligations) q))).symm, hb5⟩
          · rw [deq_ne e4]
            have E4 := Lib.hid e4; clear e4
            go_wp2
            go_ret
            exact ⟨ret_bool (deq_ne (fun q => E4.out (congrArg (·.fEquations) q))).symm, hb4⟩
        · rw [deq_ne e3]
          have E3 := Lib.hid e3; clear e3
          go_wp2
          go_ret
          exact ⟨ret_bool (deq_ne (fun q => E3.out (congrArg (·.fBindings) q))).symm, hb3⟩
      · have b2 : (x.fNode != y.fNode) = true := by simpa using e2
        have E2 := Lib.hid e2; clear e2
        go_wp2
        go_ret
        exact ⟨ret_bool (deq_ne (fun q => E2.out (congrArg (·.fNode) q))).symm, hW⟩
    · have b1 : (x.fCount != y.fCount) = true := by simpa using e1
      have E1 := Lib.hid e1; clear e1
      go_wp2
      go_ret
      exact ⟨ret_bool (deq_ne (fun q => E1.out (congrArg (·.fCount) q))).symm, hW⟩
  · have b0 : (x.fNext != y.fNext) = true := by simpa using e0
    have E0 := Lib.hid e0; clear e0
    go_wp2
    go_ret
    exact ⟨ret_bool (deq_ne (fun q => E0.out (congrArg (·.fNext) q))).symm, hW⟩
end Go.Proofs.YtkmiecgcibjkbaaGreat
