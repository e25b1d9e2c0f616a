/- The functions eq.. of the laws: each tells whether two values are equal. No condition. -/
import Derived.Test.YtlgkplkfmcjmaaaTypes
import Derived.Test.YtlgkplkfmcjmaaaReg
namespace Go.Proofs.Ytlgkplkfmcjmaaa
open Go.RowKit
theorem TInstr.ext {x y : TInstr} (e0 : x.fOp = y.fOp) (e1 : x.fA = y.fA) (e2 : x.fB = y.fB) (e3 : x.fTrait = y.fTrait) (e4 : x.fName = y.fName) : x = y := by
  cases x; cases y; simp only at *; subst e0 e1 e2 e3 e4; rfl
set_option maxRecDepth 100000 in
set_option maxHeartbeats 1000000 in
theorem eqInstr_c (x y : TInstr) : ∀ (w : World) (K : Nat → Prop) (_ : ∀ b, K b → b < w.heap.size) (cs ds : List Value) (_ : Rep w K x.enc cs) (_ : Rep w K y.enc ds),
    Calls Try.prog 15 #[.agg cs.toArray, .agg ds.toArray] w fun e w' => e = .returned (.bool (deq x y)) ∧ Below w.heap.size w w' := by
  intro w K hK cs ds h k
  obtain ⟨rfl, hOp, hA, hB, hTrait, hName⟩ := TInstr.opn h
  obtain ⟨rfl, kOp, kA, kB, kTrait, kName⟩ := TInstr.opn k
  clear h k
  clear hOp kOp
  clear hA kA
  clear hB kB
  clear hTrait kTrait
  clear hName kName
  have hW : Below w.heap.size w ((w.alloc (.cells #[.int .i64 x.fOp, .int .i64 x.fA, .int .i64 x.fB, .string x.fTrait, .string x.fName] 34)).alloc (.cells #[.int .i64 y.fOp, .int .i64 y.fA, .int .i64 y.fB, .string y.fTrait, .string y.fName] 34)) := ((Below.refl _ _).alloc (Nat.le_refl _) _).alloc (by simp) _
  have hx : Below (w.heap.size + 1 + 1) ((w.alloc (.cells #[.int .i64 x.fOp, .int .i64 x.fA, .int .i64 x.fB, .string x.fTrait, .string x.fName] 34)).alloc (.cells #[.int .i64 y.fOp, .int .i64 y.fA, .int .i64 y.fB, .string y.fTrait, .string y.fName] 34)) ((w.alloc (.cells #[.int .i64 x.fOp, .int .i64 x.fA, .int .i64 x.fB, .string x.fTrait, .string x.fName] 34)).alloc (.cells #[.int .i64 y.fOp, .int .i64 y.fA, .int .i64 y.fB, .string y.fTrait, .string y.fName] 34)) := Below.refl _ _
  go_enter Try.func15, Try.ntmps15
  by_cases e0 : x.fOp = y.fOp
  · have b0 : (x.fOp != y.fOp) = false := by simp [e0]
    have E0 := Lib.hid e0; clear e0
    by_cases e1 : x.fA = y.fA
    · have b1 : (x.fA != y.fA) = false := by simp [e1]
      have E1 := Lib.hid e1; clear e1
      by_cases e2 : x.fB = y.fB
      · have b2 : (x.fB != y.fB) = false := by simp [e2]
        have E2 := Lib.hid e2; clear e2
        by_cases e3 : x.fTrait = y.fTrait
        · have b3 : (!x.fTrait.toList == y.fTrait.toList) = false := by simp [e3]
          have E3 := Lib.hid e3; clear e3
          by_cases e4 : x.fName = y.fName
          · have b4 : (!x.fName.toList == y.fName.toList) = false := by simp [e4]
            have E4 := Lib.hid e4; clear e4
            go_wp2
            go_ret
            exact ⟨ret_bool (deq_eq (TInstr.ext E0.out E1.out E2.out E3.out E4.out)).symm, hW⟩
          · have b4 : (!x.fName.toList == y.fName.toList) = true := by simpa using fun q => e4 (ba_ext q)
            have E4 := Lib.hid e4; clear e4
            go_wp2
            go_ret
            exact ⟨ret_bool (deq_ne (fun q => E4.out (congrArg (·.fName) q))).symm, hW⟩
        · have b3 : (!x.fTrait.toList == y.fTrait.toList) = true := by simpa using fun q => e3 (ba_ext q)
          have E3 := Lib.hid e3; clear e3
          go_wp2
          go_ret
          exact ⟨ret_bool (deq_ne (fun q => E3.out (congrArg (·.fTrait) q))).symm, hW⟩
      · have b2 : (x.fB != y.fB) = true := by simpa using e2
        have E2 := Lib.hid e2; clear e2
        go_wp2
        go_ret
        exact ⟨ret_bool (deq_ne (fun q => E2.out (congrArg (·.fB) q))).symm, hW⟩
    · have b1 : (x.fA != y.fA) = true := by simpa using e1
      have E1 := Lib.hid e1; clear e1
      go_wp2
      go_ret
      exact ⟨ret_bool (deq_ne (fun q => E1.out (congrArg (·.fA) q))).symm, hW⟩
  · have b0 : (x.fOp != y.fOp) = true := by simpa using e0
    have E0 := Lib.hid e0; clear e0
    go_wp2
    go_ret
    exact ⟨ret_bool (deq_ne (fun q => E0.out (congrArg (·.fOp) q))).symm, hW⟩
theorem infoE34 : (Try.prog.info? 34).map (·.size) = some 5 := by kernel_rfl
set_option maxRecDepth 100000 in
set_option maxHeartbeats 1000000 in
theorem eqInstrS_c (l m : List TInstr) : ∀ (w : World) (K : Nat → Prop) (_ : ∀ b, K b → b < w.heap.size) (u v : Value) (_ : Rep w K (.sl (l.map TInstr.enc)) [u]) (_ : Rep w K (.sl (m.map TInstr.enc)) [v]),
    Calls Try.prog 12 #[u, v] w fun e w' => e = .returned (.bool (deq l m)) ∧ Below w.heap.size w w' := by
  intro w K hK u v h k
  obtain ⟨a, cap, rfl, hc, hm, -, hE⟩ := open_sl TInstr.width h
  obtain ⟨a', cap', rfl, hc', hm', -, hE'⟩ := open_sl TInstr.width k
  unfold maxLen at hm hm'
  clear h k
  by_cases hl : l.length = m.length
  · have hl1 : l.length ≤ m.length := by omega
    have hl2 : m.length ≤ l.length := by omega
    have bl : (l.length != m.length) = false := by simp [hl]
    have bl' : ((l.length : Int) != (m.length : Int)) = false := by simp [hl]
    have Hl := Lib.hid hl; clear hl
    have Hg : Hid (deq (l.drop 0) (m.drop 0) = deq l m) := rfl
    go_enter Try.func12, Try.ntmps12
    go_wp2
    go_loopw [5] (fun i wr => ∃ (n : Nat), n ≤ l.length ∧ i = .int .i64 n ∧ Hid (deq (l.drop n) (m.drop n) = deq l m) ∧ Below w.heap.size w wr) (fun i _ => l.length - (intOf i).toNat)
    case atStart => exact ⟨0, Nat.zero_le _, rfl, Hg, Below.refl _ _⟩
    case round =>
      clear Hg
      obtain ⟨n, hn, rfl, Hs, hB⟩ := hrel
      by_cases hlt : n < l.length
      · have hlt' : n < m.length := by omega
        obtain ⟨b, off, rfl, hKb, cs, hcs, hr⟩ := hE n hlt
        obtain ⟨b', off', rfl, hKb', cs', hcs', hr'⟩ := hE' n hlt'
        have gr := Rep.ext hB hK hr
        have gr' := Rep.ext hB hK hr'
        have gcs := hcs.ext hB (hK b hKb)
        have gcs' := hcs'.ext hB (hK b' hKb')
        have hK' : ∀ b, K b → b < wr.heap.size := fun b h => Nat.lt_of_lt_of_le (hK b h) hB.size
        have Hd : Hid (l.drop n = l[n] :: l.drop (n + 1)) := List.drop_eq_getElem_cons hlt
        have Hd' : Hid (m.drop n = m[n] :: m.drop (n + 1)) := List.drop_eq_getElem_cons hlt'
        clear hE hE' hcs hcs' hr hr'
        have hi : (Try.prog.info? 34).map (·.size) = some cs.length := by rw [Rep.length _ _ gr, TInstr.width]; exact infoE34
        have hi' : (Try.prog.info? 34).map (·.size) = some cs'.length := by rw [Rep.length _ _ gr', TInstr.width]; exact infoE34
        have hmem : l[n] ∈ l := List.getElem_mem hlt
        generalize l[n] = x at *
        generalize m[n] = y at *
        go_wp2_with fail
        have hI1 : ∀ w', Below wr.heap.size wr w' → Cells w' b (off + n * 5) cs := fun w' h => gcs.ext h (hK' b hKb)
        have hI2 : ∀ w', Below wr.heap.size wr w' → Cells w' b' (off' + n * 5) cs' := fun w' h => gcs'.ext h (hK' b' hKb')
        have hI0 : Below wr.heap.size wr wr.drew := (Below.refl _ _).drew
        refine rg 10 (Below wr.heap.size wr) (by kernel_rfl) rfl ?_
        refine rg_seg (fuel := 2) [0, 1, 2, 3, 4, 5, 6, 7] hI0 (by kernel_rfl) rfl ?_
        simp only [pick, List.getElem?_cons_zero, List.getElem?_cons_succ]
        iterate 3 (refine sg_fix _ rfl (fun w' hI => by go_simp; rfl) ?_; simp only [Act.put, List.setIfInBounds_toArray, List.set_cons_zero, List.set_cons_succ])
        refine sg_fix _ rfl (fun w' hI => run_ld 34 _ rfl b _ rfl cs (hI1 w' hI) _ Try.underlying34 hi) ?_
        simp only [Act.put, List.setIfInBounds_toArray, List.set_cons_zero, List.set_cons_succ]
        iterate 3 (refine sg_fix _ rfl (fun w' hI => by go_simp; rfl) ?_; simp only [Act.put, List.setIfInBounds_toArray, List.set_cons_zero, List.set_cons_succ])
        refine sg_fix _ rfl (fun w' hI => run_ld 34 _ rfl b' _ rfl cs' (hI2 w' hI) _ Try.underlying34 hi') ?_
        simp only [Act.put, List.setIfInBounds_toArray, List.set_cons_zero, List.set_cons_succ]
        refine sg_nil ?_
        refine rg_one (fuel := 1) 8 (by kernel_rfl) rfl (fun K1 hK1 => ?_)
        simp only [pick, List.getElem?_cons_zero, List.getElem?_cons_succ]
        refine rg_call rfl _ _ (by go_simp; exact ⟨rfl, rfl⟩) ?_
        refine (eqInstr_c x y wr.drew K hK' _ _ (Rep.ext hI0 hK' gr) (Rep.ext hI0 hK' gr')).mono ?_
        rintro e w1 ⟨rfl, hB1⟩
        have hB2 := hB.drew.trans (hB1.mono hB.size)
        refine ⟨_, rfl, hK1 _ _ (hI0.trans hB1) ?_⟩
        simp only [Act.put, List.setIfInBounds_toArray, List.set_cons_zero, List.set_cons_succ]
        refine rg_seg (fuel := 0) [9] (hI0.trans hB1) (by kernel_rfl) rfl ?_
        simp only [pick, List.getElem?_cons_zero, List.getElem?_cons_succ]
        by_cases h3 : x = y
        · rw [deq_eq h3]
          have H3 := Lib.hid h3; clear h3
          refine sg_fix _ rfl (fun w' hI => by go_simp; rfl) ?_; simp only [Act.put, List.setIfInBounds_toArray, List.set_cons_zero, List.set_cons_succ]
          refine sg_nil (rg_end (by kernel_rfl) ?_)
          go_wp2
          go_roundw
          case rel =>
            refine ⟨n + 1, hlt, by go_num, ?_, hB2⟩
            have e := Hs.out
            rw [Hd.out, Hd'.out, H3.out, deq_cons] at e
            exact e
          case measure => simp [intOf]; omega
        · rw [deq_ne h3]
          refine sg_fix _ rfl (fun w' hI => by go_simp; rfl) ?_; simp only [Act.put, List.setIfInBounds_toArray, List.set_cons_zero, List.set_cons_succ]
          refine sg_nil (rg_end (by kernel_rfl) ?_)
          have e := Hs.out
          rw [Hd.out, Hd'.out, deq_ne (fun q => h3 (List.cons.inj q).1)] at e
          have Hf := Lib.hid e
          clear e h3
          go_wp2
          go_ret
          exact ⟨ret_bool Hf.out, hB2⟩
      · obtain rfl : n = l.length := by omega
        go_wp2
        go_ret
        refine ⟨ret_bool ?_, hB⟩
        rw [← Hs.out, List.drop_length, List.drop_eq_nil_of_le hl2]
        exact (deq_eq rfl).symm
  · have bl : (l.length != m.length) = true := by simpa using hl
    have bl' : ((l.length : Int) != (m.length : Int)) = true := by simp; omega
    have Hl := Lib.hid hl; clear hl
    go_enter Try.func12, Try.ntmps12
    go_wp2
    go_ret
    exact ⟨ret_bool (deq_ne (fun q => Hl.out (congrArg List.length q))).symm, Below.refl _ _⟩
theorem TCode.ext {x y : TCode} (e0 : x.fParams = y.fParams) (e1 : x.fList = y.fList) : x = y := by
  cases x; cases y; simp only at *; subst e0 e1; rfl
set_option maxRecDepth 100000 in
set_option maxHeartbeats 1000000 in
theorem eqCode_c (x y : TCode) : ∀ (w : World) (K : Nat → Prop) (_ : ∀ b, K b → b < w.heap.size) (cs ds : List Value) (_ : Rep w K x.enc cs) (_ : Rep w K y.enc ds),
    Calls Try.prog 8 #[.agg cs.toArray, .agg ds.toArray] w fun e w' => e = .returned (.bool (deq x y)) ∧ Below w.heap.size w w' := by
  intro w K hK cs ds h k
  obtain ⟨c1, rfl, hParams, hList⟩ := TCode.opn h
  obtain ⟨d1, rfl, kParams, kList⟩ := TCode.opn k
  clear h k
  clear hParams kParams
  have hW : Below w.heap.size w ((w.alloc (.cells #[.int .i64 x.fParams, c1] 29)).alloc (.cells #[.int .i64 y.fParams, d1] 29)) := ((Below.refl _ _).alloc (Nat.le_refl _) _).alloc (by simp) _
  have hx : Below (w.heap.size + 1 + 1) ((w.alloc (.cells #[.int .i64 x.fParams, c1] 29)).alloc (.cells #[.int .i64 y.fParams, d1] 29)) ((w.alloc (.cells #[.int .i64 x.fParams, c1] 29)).alloc (.cells #[.int .i64 y.fParams, d1] 29)) := Below.refl _ _
  go_enter Try.func8, Try.ntmps8
  by_cases e0 : x.fParams = y.fParams
  · have b0 : (x.fParams != y.fParams) = false := by simp [e0]
    have E0 := Lib.hid e0; clear e0
    go_wp2_with fail
    refine (eqInstrS_c x.fList y.fList _ K (fun b hb => Nat.lt_of_lt_of_le (hK b hb) hW.size) _ _ (Rep.ext hW hK hList) (Rep.ext hW hK kList)).mono ?_
    rintro e w1 ⟨rfl, hB1⟩
    have hx1 : Below (w.heap.size + 1 + 1) ((w.alloc (.cells #[.int .i64 x.fParams, c1] 29)).alloc (.cells #[.int .i64 y.fParams, d1] 29)) w1 := hx.trans (hB1.mono (by have := hx.size; simp at this ⊢ <;> omega))
    have hb1 : Below w.heap.size w w1 := hW.trans (hx1.mono (by omega))
    have hc1 := (bcell hx1).1
    by_cases e1 : x.fList = y.fList
    · rw [deq_eq e1]
      have E1 := Lib.hid e1; clear e1
      go_wp2
      go_ret
      exact ⟨ret_bool (deq_eq (TCode.ext E0.out E1.out)).symm, hb1⟩
    · rw [deq_ne e1]
      have E1 := Lib.hid e1; clear e1
      go_wp2
      go_ret
      exact ⟨ret_bool (deq_ne (fun q => E1.out (congrArg (·.fList) q))).symm, hb1⟩
  · have b0 : (x.fParams != y.fParams) = true := by simpa using e0
    have E0 := Lib.hid e0; clear e0
    go_wp2
    go_ret
    exact ⟨ret_bool (deq_ne (fun q => E0.out (congrArg (·.fParams) q))).symm, hW⟩
end Go.Proofs.Ytlgkplkfmcjmaaa
