/- The two functions EqualCode, each walked once. No condition. -/
import Derived.Test.YtlgkplkfmcjmaaaSz
import Derived.Test.YtlgkplkfmcjmaaaTo
import Derived.Test.YtlgkplkfmcjmaaaEq
import Derived.Test.YtlgkplkfmcjmaaaReg
namespace Go.Proofs.Ytlgkplkfmcjmaaa
open Go.RowKit
theorem infoC34 : (Try.prog.info? 34).map (·.size) = some 5 := by kernel_rfl
theorem of_deq {α : Type} {x y : α} (h : deq x y = true) : x = y := Classical.byContradiction fun q => by rw [deq_ne q] at h; cases h
/-- two structs are compared, field by field -/
theorem neq_TInstr (u v : TInstr) (w : World) :
    (if u.fOp = v.fOp then
      if u.fA = v.fA then
        if u.fB = v.fB then
          if u.fTrait.toList = v.fTrait.toList then
            if u.fName.toList = v.fName.toList then Result.ok (Next.value (Value.bool false)) w
            else Result.ok (Next.value (Value.bool true)) w
          else Result.ok (Next.value (Value.bool true)) w
        else Result.ok (Next.value (Value.bool true)) w
      else Result.ok (Next.value (Value.bool true)) w
    else Result.ok (Next.value (Value.bool true)) w) = Result.ok (Next.value (Value.bool (!(deq u v)))) w := by
  by_cases h : u = v
  · subst h; simp [deq_eq rfl]
  · rw [deq_ne h]
    have : ¬ (u.fOp = v.fOp ∧ u.fA = v.fA ∧ u.fB = v.fB ∧ u.fTrait.toList = v.fTrait.toList ∧ u.fName.toList = v.fName.toList) :=
      fun ⟨a, b, c, d, e⟩ => h (TInstr.ext a b c (ba_ext d) (ba_ext e))
    split <;> try rfl
    split <;> try rfl
    split <;> try rfl
    split <;> try rfl
    split <;> try rfl
    exact absurd (by simp_all) this
set_option maxRecDepth 100000 in
set_option maxHeartbeats 1000000 in
theorem specEqualCode_c (x y : TCode) : ∀ (w : World) (K : Nat → Prop) (_ : ∀ b, K b → b < w.heap.size) (cs ds : List Value) (_ : Rep w K x.enc cs) (_ : Rep w K y.enc ds),
    Calls Try.prog 5 #[.agg cs.toArray, .agg ds.toArray] w fun e w' => e = .returned (.bool (deq x y)) ∧ Below w.heap.size w w' := by
  intro w K hK cs ds h k
  obtain ⟨c1, rfl, -, hList⟩ := TCode.opn h
  obtain ⟨d1, rfl, -, kList⟩ := TCode.opn k
  clear h k
  obtain ⟨a, cap, rfl, hc, hm, -, hE⟩ := open_sl TInstr.width hList
  obtain ⟨a', cap', rfl, hc', hm', -, hE'⟩ := open_sl TInstr.width kList
  unfold maxLen at hm hm'
  clear hList kList
  have hB0 : Below w.heap.size w ((w.alloc (.cells #[.int .i64 x.fParams, .slice a x.fList.length cap] 29)).alloc (.cells #[.int .i64 y.fParams, .slice a' y.fList.length cap'] 29)) := ((Below.refl _ _).alloc (Nat.le_refl _) _).alloc (by simp) _
  by_cases e0 : x.fParams = y.fParams
  · have b0 : (x.fParams != y.fParams) = false := by simp [e0]
    have E0 := Lib.hid e0
    clear e0
    by_cases e1 : x.fList.length = y.fList.length
    · have b1 : (x.fList.length != y.fList.length) = false := by simp [e1]
      have b1' : ((x.fList.length : Int) != (y.fList.length : Int)) = false := by simp [e1]
      have hl1 : x.fList.length ≤ y.fList.length := by omega
      have hl2 : y.fList.length ≤ x.fList.length := by omega
      have E1 := Lib.hid e1
      clear e1
      have Hg : Hid (deq (x.fList.drop 0) (y.fList.drop 0) = deq x.fList y.fList) := rfl
      go_enter Try.func5, Try.ntmps5
      go_wp2
      go_loopw [5] (fun i wr => ∃ (n : Nat), n ≤ x.fList.length ∧ i = .int .i64 n ∧ Hid (deq (x.fList.drop n) (y.fList.drop n) = deq x.fList y.fList) ∧ Below (w.heap.size + 1 + 1) ((w.alloc (.cells #[.int .i64 x.fParams, .slice a x.fList.length cap] 29)).alloc (.cells #[.int .i64 y.fParams, .slice a' y.fList.length cap'] 29)) wr) (fun i _ => x.fList.length - (intOf i).toNat)
      case atStart => exact ⟨0, Nat.zero_le _, rfl, Hg, Below.refl _ _⟩
      case round =>
        clear Hg
        obtain ⟨n, hn, rfl, Hs, hB1⟩ := hrel
        have hB := hB0.trans (hB1.mono (Nat.le_trans (Nat.le_succ _) (Nat.le_succ _)))
        have hcc := (bcell hB1).1
        by_cases hlt : n < x.fList.length
        · have hlt' : n < y.fList.length := by omega
          obtain ⟨b, off, rfl, hKb, cs, hcs, hr⟩ := hE n hlt
          obtain ⟨b', off', rfl, hKb', cs', hcs', hr'⟩ := hE' n hlt'
          have gcs := hcs.ext hB (hK b hKb)
          have gcs' := hcs'.ext hB (hK b' hKb')
          have hK' : ∀ b, K b → b < wr.heap.size := fun b h => Nat.lt_of_lt_of_le (hK b h) hB.size
          have Hd : Hid (x.fList.drop n = x.fList[n] :: x.fList.drop (n + 1)) := List.drop_eq_getElem_cons hlt
          have Hd' : Hid (y.fList.drop n = y.fList[n] :: y.fList.drop (n + 1)) := List.drop_eq_getElem_cons hlt'
          clear hE hE' hcs hcs'
          generalize x.fList[n] = u at *
          generalize y.fList[n] = v at *
          obtain ⟨rfl, -⟩ := TInstr.opn hr
          obtain ⟨rfl, -⟩ := TInstr.opn hr'
          clear hr hr'
          go_wp2_with fail
          have hI1 := fun w' (h : Below wr.heap.size wr w') => gcs.ext h (hK' b hKb)
          have hI2 := fun w' (h : Below wr.heap.size wr w') => gcs'.ext h (hK' b' hKb')
          have hI0 : Below wr.heap.size wr wr.drew := (Below.refl _ _).drew
          have hA : w.heap.size + 1 < wr.heap.size := Nat.lt_of_lt_of_le (Nat.lt_succ_self _) (by simpa using hB1.size)
          have hA' : w.heap.size < wr.heap.size := by omega
          have g1 : ∀ w', Below wr.heap.size wr w' → w'.cell? ⟨w.heap.size, 1, none⟩ = some (.slice (some ⟨b, off, none⟩) x.fList.length cap) := fun w' h => by
            rw [h.cell (p := ⟨w.heap.size, 1, none⟩) hA', hcc _ _ (by omega)]; go_simp
          have g2 : ∀ w', Below wr.heap.size wr w' → w'.cell? ⟨w.heap.size + 1, 1, none⟩ = some (.slice (some ⟨b', off', none⟩) y.fList.length cap') := fun w' h => by
            rw [h.cell (p := ⟨w.heap.size + 1, 1, none⟩) hA, hcc _ _ (by omega)]; go_simp
          refine rg 11 (Below wr.heap.size wr) (by kernel_rfl) rfl ?_
          refine rg_seg (fuel := 0) [0, 1, 2, 3, 4, 5, 6, 7, 8, 9, 10] hI0 (by kernel_rfl) rfl ?_
          simp only [pick, List.getElem?_cons_zero, List.getElem?_cons_succ]
          iterate 4 (refine sg_fix _ rfl (fun w' hI => by have := g1 w' hI; have := g2 w' hI; go_simp; rfl) ?_; simp only [Act.put, List.setIfInBounds_toArray, List.set_cons_zero, List.set_cons_succ])
          refine sg_fix _ rfl (fun w' hI => run_ld 34 _ rfl b _ rfl _ (hI1 w' hI) _ Try.underlying34 infoC34) ?_
          simp only [Act.put, List.setIfInBounds_toArray, List.set_cons_zero, List.set_cons_succ]
          iterate 4 (refine sg_fix _ rfl (fun w' hI => by have := g1 w' hI; have := g2 w' hI; go_simp; rfl) ?_; simp only [Act.put, List.setIfInBounds_toArray, List.set_cons_zero, List.set_cons_succ])
          refine sg_fix _ rfl (fun w' hI => run_ld 34 _ rfl b' _ rfl _ (hI2 w' hI) _ Try.underlying34 infoC34) ?_
          simp only [Act.put, List.setIfInBounds_toArray, List.set_cons_zero, List.set_cons_succ]
          refine sg_fix (.bool (!(deq u v))) rfl (fun w' hI => by go_simp; exact neq_TInstr u v w') ?_
          simp only [Act.put, List.setIfInBounds_toArray, List.set_cons_zero, List.set_cons_succ]
          refine sg_nil (rg_end (by kernel_rfl) ?_)
          by_cases h3 : u = v
          · rw [deq_eq h3]
            simp only [Bool.not_true]
            have H3 := Lib.hid h3
            clear h3
            go_wp2
            go_roundw
            case rel =>
              refine ⟨n + 1, hlt, by go_num, ?_, hB1.drew⟩
              have e := Hs.out
              rw [Hd.out, Hd'.out, H3.out, deq_cons] at e
              exact e
            case measure => simp [intOf]; omega
          · rw [deq_ne h3]
            simp only [Bool.not_false]
            have e := Hs.out
            rw [Hd.out, Hd'.out, deq_ne (fun q => h3 (List.cons.inj q).1)] at e
            have Hf := Lib.hid e
            clear e
            go_wp2
            go_ret
            refine ⟨ret_bool ?_, hB.drew⟩
            rw [deq_ne (fun q => ?_)]
            have := Hf.out
            rw [q, deq_eq rfl] at this
            cases this
        · obtain rfl : n = x.fList.length := by omega
          go_wp2
          go_ret
          refine ⟨ret_bool ?_, hB⟩
          refine (deq_eq (TCode.ext E0.out ?_)).symm
          have e := Hs.out
          rw [List.drop_length, List.drop_eq_nil_of_le hl2, deq_eq rfl] at e
          exact of_deq e.symm
    · have b1 : (x.fList.length != y.fList.length) = true := by simpa using e1
      have b1' : ((x.fList.length : Int) != (y.fList.length : Int)) = true := by simp; omega
      have E1 := Lib.hid e1
      clear e1
      go_enter Try.func5, Try.ntmps5
      go_wp2
      go_ret
      exact ⟨ret_bool (deq_ne (fun q => E1.out (congrArg (fun t => t.fList.length) q))).symm, hB0⟩
  · have b0 : (x.fParams != y.fParams) = true := by simpa using e0
    have E0 := Lib.hid e0
    clear e0
    go_enter Try.func5, Try.ntmps5
    go_wp2
    go_ret
    exact ⟨ret_bool (deq_ne (fun q => E0.out (congrArg (·.fParams) q))).symm, hB0⟩
set_option maxRecDepth 100000 in
set_option maxHeartbeats 1000000 in
theorem slicesEqualInstr_c (l m : List TInstr) : ∀ (w : World) (K : Nat → Prop) (_ : ∀ b, K b → b < w.heap.size) (u v : Value) (_ : Rep w K (.sl (l.map TInstr.enc)) [u]) (_ : Rep w K (.sl (m.map TInstr.enc)) [v]),
    Calls Try.prog 11 #[u, v] w fun e w' => e = .returned (.bool (deq l m)) ∧ Below w.heap.size w w' := by
  intro w K hK u v h k
  obtain ⟨a, cap, rfl, hc, hm, -, hE⟩ := open_sl TInstr.width h
  obtain ⟨a', cap', rfl, hc', hm', -, hE'⟩ := open_sl TInstr.width k
  unfold maxLen at hm hm'
  clear h k
  by_cases hl : l.length = m.length
  · have hl1 : l.length ≤ m.length := by omega
    have hl2 : m.length ≤ l.length := by omega
    have bl : (l.length != m.length) = false := by simp [hl]
    have bl' : ((l.length : Int) != (m.length : Int)) = false := by simp [hl]
    have Hl := Lib.hid hl
    clear hl
    have Hg : Hid (deq (l.drop 0) (m.drop 0) = deq l m) := rfl
    go_enter Try.func11, Try.ntmps11
    go_wp2
    go_loopw [13] (fun i wr => ∃ (n : Nat), n ≤ l.length ∧ i = .int .i64 n ∧ Hid (deq (l.drop n) (m.drop n) = deq l m) ∧ Below w.heap.size w wr) (fun i _ => l.length - (intOf i).toNat)
    case atStart => exact ⟨0, Nat.zero_le _, rfl, Hg, Below.refl _ _⟩
    case round =>
      clear Hg
      obtain ⟨n, hn, rfl, Hs, hB⟩ := hrel
      by_cases hlt : n < l.length
      · have hlt' : n < m.length := by omega
        obtain ⟨b, off, rfl, hKb, cs, hcs, hr⟩ := hE n hlt
        obtain ⟨b', off', rfl, hKb', cs', hcs', hr'⟩ := hE' n hlt'
        have gcs := hcs.ext hB (hK b hKb)
        have gcs' := hcs'.ext hB (hK b' hKb')
        have hK' : ∀ b, K b → b < wr.heap.size := fun b h => Nat.lt_of_lt_of_le (hK b h) hB.size
        have Hd : Hid (l.drop n = l[n] :: l.drop (n + 1)) := List.drop_eq_getElem_cons hlt
        have Hd' : Hid (m.drop n = m[n] :: m.drop (n + 1)) := List.drop_eq_getElem_cons hlt'
        clear hE hE' hcs hcs'
        generalize l[n] = u at *
        generalize m[n] = v at *
        obtain ⟨rfl, -⟩ := TInstr.opn hr
        obtain ⟨rfl, -⟩ := TInstr.opn hr'
        clear hr hr'
        go_wp2_with fail
        have hI1 := fun w' (h : Below wr.heap.size wr w') => gcs.ext h (hK' b hKb)
        have hI2 := fun w' (h : Below wr.heap.size wr w') => gcs'.ext h (hK' b' hKb')
        have hI0 : Below wr.heap.size wr wr.drew := (Below.refl _ _).drew
        refine rg 9 (Below wr.heap.size wr) (by kernel_rfl) rfl ?_
        refine rg_seg (fuel := 0) [0, 1, 2, 3, 4, 5, 6, 7, 8] hI0 (by kernel_rfl) rfl ?_
        simp only [pick, List.getElem?_cons_zero, List.getElem?_cons_succ]
        iterate 3 (refine sg_fix _ rfl (fun w' hI => by go_simp; rfl) ?_; simp only [Act.put, List.setIfInBounds_toArray, List.set_cons_zero, List.set_cons_succ])
        refine sg_fix _ rfl (fun w' hI => run_ld 34 _ rfl b _ rfl _ (hI1 w' hI) _ Try.underlying34 infoC34) ?_
        simp only [Act.put, List.setIfInBounds_toArray, List.set_cons_zero, List.set_cons_succ]
        iterate 3 (refine sg_fix _ rfl (fun w' hI => by go_simp; rfl) ?_; simp only [Act.put, List.setIfInBounds_toArray, List.set_cons_zero, List.set_cons_succ])
        refine sg_fix _ rfl (fun w' hI => run_ld 34 _ rfl b' _ rfl _ (hI2 w' hI) _ Try.underlying34 infoC34) ?_
        simp only [Act.put, List.setIfInBounds_toArray, List.set_cons_zero, List.set_cons_succ]
        refine sg_fix (.bool (!(deq u v))) rfl (fun w' hI => by go_simp; exact neq_TInstr u v w') ?_
        simp only [Act.put, List.setIfInBounds_toArray, List.set_cons_zero, List.set_cons_succ]
        refine sg_nil (rg_end (by kernel_rfl) ?_)
        by_cases h3 : u = v
        · rw [deq_eq h3]
          simp only [Bool.not_true]
          have H3 := Lib.hid h3
          clear h3
          go_wp2
          go_roundw
          case rel =>
            refine ⟨n + 1, hlt, by go_num, ?_, hB.drew⟩
            have e := Hs.out
            rw [Hd.out, Hd'.out, H3.out, deq_cons] at e
            exact e
          case measure => simp [intOf]; omega
        · rw [deq_ne h3]
          simp only [Bool.not_false]
          have e := Hs.out
          rw [Hd.out, Hd'.out, deq_ne (fun q => h3 (List.cons.inj q).1)] at e
          have Hf := Lib.hid e
          clear e h3
          go_wp2
          go_ret
          exact ⟨ret_bool Hf.out, hB.drew⟩
      · obtain rfl : n = l.length := by omega
        go_wp2
        go_ret
        refine ⟨ret_bool ?_, hB⟩
        rw [← Hs.out, List.drop_length, List.drop_eq_nil_of_le hl2]
        exact (deq_eq rfl).symm
  · have bl : (l.length != m.length) = true := by simpa using hl
    have bl' : ((l.length : Int) != (m.length : Int)) = true := by simp; omega
    have Hl := Lib.hid hl
    clear hl
    go_enter Try.func11, Try.ntmps11
    go_wp2
    go_ret
    exact ⟨ret_bool (deq_ne (fun q => Hl.out (congrArg List.length q))).symm, Below.refl _ _⟩
set_option maxRecDepth 100000 in
set_option maxHeartbeats 1000000 in
theorem implEqualCode_c (x y : TCode) : ∀ (w : World) (K : Nat → Prop) (_ : ∀ b, K b → b < w.heap.size) (cs ds : List Value) (_ : Rep w K x.enc cs) (_ : Rep w K y.enc ds),
    Calls Try.prog 7 #[.agg cs.toArray, .agg ds.toArray] w fun e w' => e = .returned (.bool (deq x y)) ∧ Below w.heap.size w w' := by
  intro w K hK cs ds h k
  obtain ⟨c1, rfl, -, hList⟩ := TCode.opn h
  obtain ⟨d1, rfl, -, kList⟩ := TCode.opn k
  clear h k
  have hB0 : Below w.heap.size w ((w.alloc (.cells #[.int .i64 x.fParams, c1] 29)).alloc (.cells #[.int .i64 y.fParams, d1] 29)) := ((Below.refl _ _).alloc (Nat.le_refl _) _).alloc (by simp) _
  by_cases e0 : x.fParams = y.fParams
  · have b0 : (x.fParams == y.fParams) = true := by simp [e0]
    have E0 := Lib.hid e0
    clear e0
    go_enter Try.func7, Try.ntmps7
    go_wp2_with fail
    refine (slicesEqualInstr_c x.fList y.fList _ K (fun b hb => Nat.lt_of_lt_of_le (hK b hb) hB0.size) _ _ (Rep.ext hB0 hK hList) (Rep.ext hB0 hK kList)).mono ?_
    rintro e w1 ⟨rfl, hB1⟩
    go_wp2
    go_ret
    refine ⟨ret_bool ?_, hB0.trans (hB1.mono hB0.size)⟩
    by_cases e1 : x.fList = y.fList
    · rw [deq_eq e1, deq_eq (TCode.ext E0.out e1)]
    · rw [deq_ne e1, deq_ne (fun q => e1 (congrArg (·.fList) q))]
  · have b0 : (x.fParams == y.fParams) = false := by simpa using e0
    have E0 := Lib.hid e0
    clear e0
    go_enter Try.func7, Try.ntmps7
    go_wp2
    go_ret
    exact ⟨ret_bool (deq_ne (fun q => E0.out (congrArg (·.fParams) q))).symm, hB0⟩
end Go.Proofs.Ytlgkplkfmcjmaaa
