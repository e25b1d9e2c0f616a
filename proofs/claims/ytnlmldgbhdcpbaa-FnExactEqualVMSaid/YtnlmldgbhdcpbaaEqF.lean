/- The functions of spec, impl and slices that say whether two values are equal, each walked once. No condition. -/
import Derived.Test.YtnlmldgbhdcpbaaTypes
import Derived.Test.YtnlmldgbhdcpbaaReg
import Derived.Test.YtnlmldgbhdcpbaaEq
import Derived.Test.YtnlmldgbhdcpbaaEqK
namespace Go.Proofs.Ytnlmldgbhdcpbaa
open Go.RowKit
theorem infoQEqF91 : (Try.prog.info? 91).map (·.size) = some 5 := by kernel_rfl
theorem infoQEqF93 : (Try.prog.info? 93).map (·.size) = some 9 := by kernel_rfl
theorem infoQEqF83 : (Try.prog.info? 83).map (·.size) = some 4 := by kernel_rfl
def PspecEqualDictionary (N : Nat) : Prop := ∀ (x y : TDictionary), SizeOf.sizeOf x < N → ∀ (w : World) (K : Nat → Prop) (_ : ∀ b, K b → b < w.heap.size) (cs ds : List Value) (_ : Rep w K x.enc cs) (_ : Rep w K y.enc ds),
    Calls Try.prog 134 #[.agg cs.toArray, .agg ds.toArray] w fun e w' => e = .returned (.bool (deq x y)) ∧ Below w.heap.size w w'
set_option maxRecDepth 100000 in
set_option maxHeartbeats 10000000 in
theorem stepPspecEqualDictionary (N : Nat) (iPspecEqualDictionary : PspecEqualDictionary N)  : PspecEqualDictionary (N + 1) := by
  intro x y hN
  intro w K hK cs ds h k
  obtain ⟨c1, c2, c3, c4, rfl, hKind, hAt, hSteps, hArgs⟩ := TDictionary.opn h
  obtain ⟨d1, d2, d3, d4, rfl, kKind, kAt, kSteps, kArgs⟩ := TDictionary.opn k
  clear h k
  clear hKind kKind
  obtain ⟨hq, -⟩ := TInstanceRef.opn hAt
  simp only [List.cons.injEq, and_true] at hq
  obtain ⟨rfl, rfl⟩ := hq
  obtain ⟨hq, -⟩ := TInstanceRef.opn kAt
  simp only [List.cons.injEq, and_true] at hq
  obtain ⟨rfl, rfl⟩ := hq
  clear hAt kAt
  obtain ⟨aSteps, capSteps, rfl, hcSteps, hmSteps, -, hESteps⟩ := open_sl encI_w hSteps
  obtain ⟨aSteps', capSteps', rfl, hcSteps', hmSteps', -, hESteps'⟩ := open_sl encI_w kSteps
  unfold maxLen at hmSteps hmSteps'
  obtain ⟨aArgs, capArgs, rfl, hcArgs, hmArgs, -, hEArgs⟩ := open_sl TDictionary.width hArgs
  obtain ⟨aArgs', capArgs', rfl, hcArgs', hmArgs', -, hEArgs'⟩ := open_sl TDictionary.width kArgs
  unfold maxLen at hmArgs hmArgs'
  have hV : Below w.heap.size w ((w.alloc (.cells #[.int .i64 x.fKind, .int .i64 x.fAt.fPackage, .int .i64 x.fAt.fAt, .slice aSteps x.fSteps.length capSteps, .slice aArgs x.fArgs.length capArgs] 91)).alloc (.cells #[.int .i64 y.fKind, .int .i64 y.fAt.fPackage, .int .i64 y.fAt.fAt, .slice aSteps' y.fSteps.length capSteps', .slice aArgs' y.fArgs.length capArgs'] 91)) := ((Below.refl _ _).alloc (Nat.le_refl _) _).alloc (by simp) _
  have hZ : w.heap.size + 1 < ((w.alloc (.cells #[.int .i64 x.fKind, .int .i64 x.fAt.fPackage, .int .i64 x.fAt.fAt, .slice aSteps x.fSteps.length capSteps, .slice aArgs x.fArgs.length capArgs] 91)).alloc (.cells #[.int .i64 y.fKind, .int .i64 y.fAt.fPackage, .int .i64 y.fAt.fAt, .slice aSteps' y.fSteps.length capSteps', .slice aArgs' y.fArgs.length capArgs'] 91)).heap.size := by simp
  have HA := Lib.hid (show ((w.alloc (.cells #[.int .i64 x.fKind, .int .i64 x.fAt.fPackage, .int .i64 x.fAt.fAt, .slice aSteps x.fSteps.length capSteps, .slice aArgs x.fArgs.length capArgs] 91)).alloc (.cells #[.int .i64 y.fKind, .int .i64 y.fAt.fPackage, .int .i64 y.fAt.fAt, .slice aSteps' y.fSteps.length capSteps', .slice aArgs' y.fArgs.length capArgs'] 91)).heap[w.heap.size]? = some (.cells #[.int .i64 x.fKind, .int .i64 x.fAt.fPackage, .int .i64 x.fAt.fAt, .slice aSteps x.fSteps.length capSteps, .slice aArgs x.fArgs.length capArgs] 91 (0, 0)) from alloc_lt (by simp) (alloc_at rfl))
  have HB := Lib.hid (show ((w.alloc (.cells #[.int .i64 x.fKind, .int .i64 x.fAt.fPackage, .int .i64 x.fAt.fAt, .slice aSteps x.fSteps.length capSteps, .slice aArgs x.fArgs.length capArgs] 91)).alloc (.cells #[.int .i64 y.fKind, .int .i64 y.fAt.fPackage, .int .i64 y.fAt.fAt, .slice aSteps' y.fSteps.length capSteps', .slice aArgs' y.fArgs.length capArgs'] 91)).heap[w.heap.size + 1]? = some (.cells #[.int .i64 y.fKind, .int .i64 y.fAt.fPackage, .int .i64 y.fAt.fAt, .slice aSteps' y.fSteps.length capSteps', .slice aArgs' y.fArgs.length capArgs'] 91 (0, 0)) from alloc_at (by simp))
  go_enter Try.func134, Try.ntmps134
  by_cases e1 : x.fKind = y.fKind
  · skip
    have be1 : (x.fKind != y.fKind) = false := by simp [e1]
    have bbe1 : (x.fKind == y.fKind) = true := by simp [e1]
    have Ee1 := Lib.hid e1
    clear e1
    by_cases e3 : x.fAt.fPackage = y.fAt.fPackage
    · skip
      have Ee3 := Lib.hid e3
      simp only [e3] at hV hZ HA HB
      by_cases e4 : x.fAt.fAt = y.fAt.fAt
      · skip
        have Ee4 := Lib.hid e4
        simp only [e4] at hV hZ HA HB
        by_cases e5 : x.fSteps.length = y.fSteps.length
        · skip
          have be5 : (x.fSteps.length != y.fSteps.length) = false := by simp [e5]
          have bie5 : ((x.fSteps.length : Int) != (y.fSteps.length : Int)) = false := by simp [e5]
          have hae5 : x.fSteps.length ≤ y.fSteps.length := by omega
          have hbe5 : y.fSteps.length ≤ x.fSteps.length := by omega
          have Ee5 := Lib.hid e5
          clear e5
          by_cases e6 : x.fArgs.length = y.fArgs.length
          · skip
            have be6 : (x.fArgs.length != y.fArgs.length) = false := by simp [e6]
            have bie6 : ((x.fArgs.length : Int) != (y.fArgs.length : Int)) = false := by simp [e6]
            have hae6 : x.fArgs.length ≤ y.fArgs.length := by omega
            have hbe6 : y.fArgs.length ≤ x.fArgs.length := by omega
            have Ee6 := Lib.hid e6
            clear e6
            go_wp2
            have Hg : Hid (deq (x.fSteps.drop 0) (y.fSteps.drop 0) = deq x.fSteps y.fSteps) := rfl
            go_loopw [5] (fun i wr => ∃ (n : Nat), n ≤ x.fSteps.length ∧ i = .int .i64 n ∧ Hid (deq (x.fSteps.drop n) (y.fSteps.drop n) = deq x.fSteps y.fSteps) ∧ Below w.heap.size w wr ∧ w.heap.size + 1 < wr.heap.size ∧ Hid (wr.heap[w.heap.size]? = some (.cells #[.int .i64 x.fKind, .int .i64 y.fAt.fPackage, .int .i64 y.fAt.fAt, .slice aSteps x.fSteps.length capSteps, .slice aArgs x.fArgs.length capArgs] 91 (0, 0))) ∧ Hid (wr.heap[w.heap.size + 1]? = some (.cells #[.int .i64 y.fKind, .int .i64 y.fAt.fPackage, .int .i64 y.fAt.fAt, .slice aSteps' y.fSteps.length capSteps', .slice aArgs' y.fArgs.length capArgs'] 91 (0, 0)))) (fun i _ => x.fSteps.length - (intOf i).toNat)
            case atStart => exact ⟨0, Nat.zero_le _, rfl, Hg, hV, hZ, HA, HB⟩
            case round =>
              clear Hg hV hZ HA HB
              obtain ⟨n, hn, rfl, Hs, hV, hZ, HA, HB⟩ := hrel
              have cA := row_cell HA.out
              have cB := row_cell HB.out
              by_cases hlt : n < x.fSteps.length
              · skip
                have hlt' : n < y.fSteps.length := by omega
                obtain ⟨b1, off1, hav, hKb, cs, hcs, hr⟩ := hESteps n hlt
                obtain ⟨b2, off2, hav', hKb', cs', hcs', hr'⟩ := hESteps' n hlt'
                subst hav hav'
                have gcs := hcs.ext hV (hK b1 hKb)
                have gcs' := hcs'.ext hV (hK b2 hKb')
                have gr := Rep.ext hV hK hr
                have gr' := Rep.ext hV hK hr'
                have hK' : ∀ b, K b → b < wr.heap.size := fun b h => Nat.lt_of_lt_of_le (hK b h) hV.size
                have hmem : x.fSteps[n] ∈ x.fSteps := List.getElem_mem hlt
                have Hd : Hid (x.fSteps.drop n = x.fSteps[n] :: x.fSteps.drop (n + 1)) := List.drop_eq_getElem_cons hlt
                have Hd' : Hid (y.fSteps.drop n = y.fSteps[n] :: y.fSteps.drop (n + 1)) := List.drop_eq_getElem_cons hlt'
                clear hcs hcs' hr hr'
                generalize x.fSteps[n] = u at *
                generalize y.fSteps[n] = v at *
                simp only [encI, Rep] at gr gr'
                obtain ⟨rfl, -⟩ := gr
                obtain ⟨rfl, -⟩ := gr'
                have hI0 : Below wr.heap.size wr wr.drew := (Below.refl _ _).drew
                have gA0 : ∀ w', Below wr.heap.size wr w' → ∀ o, w'.cell? ⟨w.heap.size, o, none⟩ = (#[.int .i64 x.fKind, .int .i64 y.fAt.fPackage, .int .i64 y.fAt.fAt, .slice (some ⟨b1, off1, none⟩) x.fSteps.length capSteps, .slice aArgs x.fArgs.length capArgs] : Array Value)[o]? := fun w' h => row_cell ((h.block (w.heap.size) (by have := hZ; omega)).trans HA.out)
                have gA1 : ∀ w', Below wr.heap.size wr w' → ∀ o, w'.cell? ⟨w.heap.size + 1, o, none⟩ = (#[.int .i64 y.fKind, .int .i64 y.fAt.fPackage, .int .i64 y.fAt.fAt, .slice (some ⟨b2, off2, none⟩) y.fSteps.length capSteps', .slice aArgs' y.fArgs.length capArgs'] : Array Value)[o]? := fun w' h => row_cell ((h.block (w.heap.size + 1) (by have := hZ; omega)).trans HB.out)
                have k0_ : ∀ w', Below wr.heap.size wr w' → w'.cell? ⟨b1, off1 + n, none⟩ = some (.int .i64 u) := fun w' h => by simpa using (gcs.ext h (hK' b1 hKb)) 0 _ rfl
                have k1_ : ∀ w', Below wr.heap.size wr w' → w'.cell? ⟨b2, off2 + n, none⟩ = some (.int .i64 v) := fun w' h => by simpa using (gcs'.ext h (hK' b2 hKb')) 0 _ rfl
                clear gcs gcs'
                by_cases e7 : u = v
                · skip
                  have be7 : (u != v) = false := by simp [e7]
                  have bbe7 : (u == v) = true := by simp [e7]
                  have Hq := Lib.hid e7
                  clear e7
                  go_wp2_with fail
                  refine rg 11 (Below wr.heap.size wr) (by kernel_rfl) rfl ?_
                  refine rg_seg (fuel := 0) [0, 1, 2, 3, 4, 5, 6, 7, 8, 9, 10] hI0 (by kernel_rfl) rfl ?_
                  simp only [pick, List.getElem?_cons_zero, List.getElem?_cons_succ]
                  refine sg_fix _ rfl (fun w' hI => by have := gA0 w' hI; have := gA1 w' hI; have := k0_ w' hI; have := k1_ w' hI; go_simp; rfl) ?_; simp only [Act.put, List.setIfInBounds_toArray, List.set_cons_zero, List.set_cons_succ]
                  refine sg_fix _ rfl (fun w' hI => by have := gA0 w' hI; have := gA1 w' hI; have := k0_ w' hI; have := k1_ w' hI; go_simp; rfl) ?_; simp only [Act.put, List.setIfInBounds_toArray, List.set_cons_zero, List.set_cons_succ]
                  refine sg_fix _ rfl (fun w' hI => by have := gA0 w' hI; have := gA1 w' hI; have := k0_ w' hI; have := k1_ w' hI; go_simp; rfl) ?_; simp only [Act.put, List.setIfInBounds_toArray, List.set_cons_zero, List.set_cons_succ]
                  refine sg_fix _ rfl (fun w' hI => by have := gA0 w' hI; have := gA1 w' hI; have := k0_ w' hI; have := k1_ w' hI; go_simp; rfl) ?_; simp only [Act.put, List.setIfInBounds_toArray, List.set_cons_zero, List.set_cons_succ]
                  refine sg_fix _ rfl (fun w' hI => by have := gA0 w' hI; have := gA1 w' hI; have := k0_ w' hI; have := k1_ w' hI; go_simp; rfl) ?_; simp only [Act.put, List.setIfInBounds_toArray, List.set_cons_zero, List.set_cons_succ]
                  refine sg_fix _ rfl (fun w' hI => by have := gA0 w' hI; have := gA1 w' hI; have := k0_ w' hI; have := k1_ w' hI; go_simp; rfl) ?_; simp only [Act.put, List.setIfInBounds_toArray, List.set_cons_zero, List.set_cons_succ]
                  refine sg_fix _ rfl (fun w' hI => by have := gA0 w' hI; have := gA1 w' hI; have := k0_ w' hI; have := k1_ w' hI; go_simp; rfl) ?_; simp only [Act.put, List.setIfInBounds_toArray, List.set_cons_zero, List.set_cons_succ]
                  refine sg_fix _ rfl (fun w' hI => by have := gA0 w' hI; have := gA1 w' hI; have := k0_ w' hI; have := k1_ w' hI; go_simp; rfl) ?_; simp only [Act.put, List.setIfInBounds_toArray, List.set_cons_zero, List.set_cons_succ]
                  refine sg_fix _ rfl (fun w' hI => by have := gA0 w' hI; have := gA1 w' hI; have := k0_ w' hI; have := k1_ w' hI; go_simp; rfl) ?_; simp only [Act.put, List.setIfInBounds_toArray, List.set_cons_zero, List.set_cons_succ]
                  refine sg_fix _ rfl (fun w' hI => by have := gA0 w' hI; have := gA1 w' hI; have := k0_ w' hI; have := k1_ w' hI; go_simp; rfl) ?_; simp only [Act.put, List.setIfInBounds_toArray, List.set_cons_zero, List.set_cons_succ]
                  refine sg_fix _ rfl (fun w' hI => by have := gA0 w' hI; have := gA1 w' hI; have := k0_ w' hI; have := k1_ w' hI; go_simp; rfl) ?_; simp only [Act.put, List.setIfInBounds_toArray, List.set_cons_zero, List.set_cons_succ]
                  refine sg_nil (rg_end (by kernel_rfl) ?_)
                  replace HA := Lib.hid ((hI0.block (w.heap.size) (by have := hZ; omega)).trans HA.out)
                  replace HB := Lib.hid ((hI0.block (w.heap.size + 1) (by have := hZ; omega)).trans HB.out)
                  replace hZ := Nat.lt_of_lt_of_le hZ hI0.size
                  replace hV := hV.trans (hI0.mono hV.size)
                  clear cA cB
                  have cA := row_cell HA.out
                  have cB := row_cell HB.out
                  go_wp2
                  go_roundw
                  case rel =>
                    refine ⟨n + 1, hlt, by go_num, ?_, hV, hZ, HA, HB⟩
                    have e := Hs.out
                    rw [Hd.out, Hd'.out, Hq.out, deq_cons] at e
                    exact e
                  case measure => simp [intOf]; omega
                · skip
                  have be7 : (u != v) = true := by simpa using e7
                  have bbe7 : (u == v) = false := by simpa using e7
                  have Hq := Lib.hid e7
                  clear e7
                  go_wp2_with fail
                  refine rg 11 (Below wr.heap.size wr) (by kernel_rfl) rfl ?_
                  refine rg_seg (fuel := 0) [0, 1, 2, 3, 4, 5, 6, 7, 8, 9, 10] hI0 (by kernel_rfl) rfl ?_
                  simp only [pick, List.getElem?_cons_zero, List.getElem?_cons_succ]
                  refine sg_fix _ rfl (fun w' hI => by have := gA0 w' hI; have := gA1 w' hI; have := k0_ w' hI; have := k1_ w' hI; go_simp; rfl) ?_; simp only [Act.put, List.setIfInBounds_toArray, List.set_cons_zero, List.set_cons_succ]
                  refine sg_fix _ rfl (fun w' hI => by have := gA0 w' hI; have := gA1 w' hI; have := k0_ w' hI; have := k1_ w' hI; go_simp; rfl) ?_; simp only [Act.put, List.setIfInBounds_toArray, List.set_cons_zero, List.set_cons_succ]
                  refine sg_fix _ rfl (fun w' hI => by have := gA0 w' hI; have := gA1 w' hI; have := k0_ w' hI; have := k1_ w' hI; go_simp; rfl) ?_; simp only [Act.put, List.setIfInBounds_toArray, List.set_cons_zero, List.set_cons_succ]
                  refine sg_fix _ rfl (fun w' hI => by have := gA0 w' hI; have := gA1 w' hI; have := k0_ w' hI; have := k1_ w' hI; go_simp; rfl) ?_; simp only [Act.put, List.setIfInBounds_toArray, List.set_cons_zero, List.set_cons_succ]
                  refine sg_fix _ rfl (fun w' hI => by have := gA0 w' hI; have := gA1 w' hI; have := k0_ w' hI; have := k1_ w' hI; go_simp; rfl) ?_; simp only [Act.put, List.setIfInBounds_toArray, List.set_cons_zero, List.set_cons_succ]
                  refine sg_fix _ rfl (fun w' hI => by have := gA0 w' hI; have := gA1 w' hI; have := k0_ w' hI; have := k1_ w' hI; go_simp; rfl) ?_; simp only [Act.put, List.setIfInBounds_toArray, List.set_cons_zero, List.set_cons_succ]
                  refine sg_fix _ rfl (fun w' hI => by have := gA0 w' hI; have := gA1 w' hI; have := k0_ w' hI; have := k1_ w' hI; go_simp; rfl) ?_; simp only [Act.put, List.setIfInBounds_toArray, List.set_cons_zero, List.set_cons_succ]
                  refine sg_fix _ rfl (fun w' hI => by have := gA0 w' hI; have := gA1 w' hI; have := k0_ w' hI; have := k1_ w' hI; go_simp; rfl) ?_; simp only [Act.put, List.setIfInBounds_toArray, List.set_cons_zero, List.set_cons_succ]
                  refine sg_fix _ rfl (fun w' hI => by have := gA0 w' hI; have := gA1 w' hI; have := k0_ w' hI; have := k1_ w' hI; go_simp; rfl) ?_; simp only [Act.put, List.setIfInBounds_toArray, List.set_cons_zero, List.set_cons_succ]
                  refine sg_fix _ rfl (fun w' hI => by have := gA0 w' hI; have := gA1 w' hI; have := k0_ w' hI; have := k1_ w' hI; go_simp; rfl) ?_; simp only [Act.put, List.setIfInBounds_toArray, List.set_cons_zero, List.set_cons_succ]
                  refine sg_fix _ rfl (fun w' hI => by have := gA0 w' hI; have := gA1 w' hI; have := k0_ w' hI; have := k1_ w' hI; go_simp; rfl) ?_; simp only [Act.put, List.setIfInBounds_toArray, List.set_cons_zero, List.set_cons_succ]
                  refine sg_nil (rg_end (by kernel_rfl) ?_)
                  replace HA := Lib.hid ((hI0.block (w.heap.size) (by have := hZ; omega)).trans HA.out)
                  replace HB := Lib.hid ((hI0.block (w.heap.size + 1) (by have := hZ; omega)).trans HB.out)
                  replace hZ := Nat.lt_of_lt_of_le hZ hI0.size
                  replace hV := hV.trans (hI0.mono hV.size)
                  clear cA cB
                  have cA := row_cell HA.out
                  have cB := row_cell HB.out
                  have e := Hs.out
                  rw [Hd.out, Hd'.out, deq_ne (fun q => Hq.out (List.cons.inj q).1)] at e
                  have Hf := Lib.hid e
                  clear e
                  go_wp2
                  go_ret
                  refine ⟨ret_bool ?_, hV⟩
                  rw [deq_ne (fun q => ?_)]
                  have := Hf.out
                  rw [q, deq_eq rfl] at this
                  cases this
              · skip
                obtain rfl : n = x.fSteps.length := by omega
                have e8 : x.fSteps = y.fSteps := by
                  have e := Hs.out
                  rw [List.drop_length, List.drop_eq_nil_of_le (by omega), deq_eq rfl] at e
                  exact of_deq e.symm
                have Ee8 := Lib.hid e8
                clear e8
                clear hlt Hs hn
                go_wp2
                have Hg : Hid (deq (x.fArgs.drop 0) (y.fArgs.drop 0) = deq x.fArgs y.fArgs) := rfl
                go_loopw [6] (fun i wr => ∃ (n : Nat), n ≤ x.fArgs.length ∧ i = .int .i64 n ∧ Hid (deq (x.fArgs.drop n) (y.fArgs.drop n) = deq x.fArgs y.fArgs) ∧ Below w.heap.size w wr ∧ w.heap.size + 1 < wr.heap.size ∧ Hid (wr.heap[w.heap.size]? = some (.cells #[.int .i64 x.fKind, .int .i64 y.fAt.fPackage, .int .i64 y.fAt.fAt, .slice aSteps x.fSteps.length capSteps, .slice aArgs x.fArgs.length capArgs] 91 (0, 0))) ∧ Hid (wr.heap[w.heap.size + 1]? = some (.cells #[.int .i64 y.fKind, .int .i64 y.fAt.fPackage, .int .i64 y.fAt.fAt, .slice aSteps' y.fSteps.length capSteps', .slice aArgs' y.fArgs.length capArgs'] 91 (0, 0)))) (fun i _ => x.fArgs.length - (intOf i).toNat)
                case atStart => exact ⟨0, Nat.zero_le _, rfl, Hg, hV, hZ, HA, HB⟩
                case round =>
                  clear Hg hV hZ HA HB cA cB
                  obtain ⟨n, hn, rfl, Hs, hV, hZ, HA, HB⟩ := hrel
                  have cA := row_cell HA.out
                  have cB := row_cell HB.out
                  by_cases hlt : n < x.fArgs.length
                  · skip
                    have hlt' : n < y.fArgs.length := by omega
                    obtain ⟨b1, off1, hav, hKb, cs, hcs, hr⟩ := hEArgs n hlt
                    obtain ⟨b2, off2, hav', hKb', cs', hcs', hr'⟩ := hEArgs' n hlt'
                    subst hav hav'
                    have gcs := hcs.ext hV (hK b1 hKb)
                    have gcs' := hcs'.ext hV (hK b2 hKb')
                    have gr := Rep.ext hV hK hr
                    have gr' := Rep.ext hV hK hr'
                    have hK' : ∀ b, K b → b < wr.heap.size := fun b h => Nat.lt_of_lt_of_le (hK b h) hV.size
                    have hmem : x.fArgs[n] ∈ x.fArgs := List.getElem_mem hlt
                    have Hd : Hid (x.fArgs.drop n = x.fArgs[n] :: x.fArgs.drop (n + 1)) := List.drop_eq_getElem_cons hlt
                    have Hd' : Hid (y.fArgs.drop n = y.fArgs[n] :: y.fArgs.drop (n + 1)) := List.drop_eq_getElem_cons hlt'
                    clear hcs hcs' hr hr'
                    generalize x.fArgs[n] = u at *
                    generalize y.fArgs[n] = v at *
                    have hI0 : Below wr.heap.size wr wr.drew := (Below.refl _ _).drew
                    have gA0 : ∀ w', Below wr.heap.size wr w' → ∀ o, w'.cell? ⟨w.heap.size, o, none⟩ = (#[.int .i64 x.fKind, .int .i64 y.fAt.fPackage, .int .i64 y.fAt.fAt, .slice aSteps x.fSteps.length capSteps, .slice (some ⟨b1, off1, none⟩) x.fArgs.length capArgs] : Array Value)[o]? := fun w' h => row_cell ((h.block (w.heap.size) (by have := hZ; omega)).trans HA.out)
                    have gA1 : ∀ w', Below wr.heap.size wr w' → ∀ o, w'.cell? ⟨w.heap.size + 1, o, none⟩ = (#[.int .i64 y.fKind, .int .i64 y.fAt.fPackage, .int .i64 y.fAt.fAt, .slice aSteps' y.fSteps.length capSteps', .slice (some ⟨b2, off2, none⟩) y.fArgs.length capArgs'] : Array Value)[o]? := fun w' h => row_cell ((h.block (w.heap.size + 1) (by have := hZ; omega)).trans HB.out)
                    have k0_ : ∀ w', Below wr.heap.size wr w' → Cells w' b1 (off1 + n * 5) cs := fun w' h => gcs.ext h (hK' b1 hKb)
                    have k1_ : ∀ w', Below wr.heap.size wr w' → Cells w' b2 (off2 + n * 5) cs' := fun w' h => gcs'.ext h (hK' b2 hKb')
                    clear gcs gcs'
                    go_wp2_with fail
                    refine rg 12 (Below wr.heap.size wr) (by kernel_rfl) rfl ?_
                    refine rg_seg (fuel := 2) [0, 1, 2, 3, 4, 5, 6, 7, 8, 9] hI0 (by kernel_rfl) rfl ?_
                    simp only [pick, List.getElem?_cons_zero, List.getElem?_cons_succ]
                    refine sg_fix _ rfl (fun w' hI => by have := gA0 w' hI; have := gA1 w' hI; go_simp; rfl) ?_; simp only [Act.put, List.setIfInBounds_toArray, List.set_cons_zero, List.set_cons_succ]
                    refine sg_fix _ rfl (fun w' hI => by have := gA0 w' hI; have := gA1 w' hI; go_simp; rfl) ?_; simp only [Act.put, List.setIfInBounds_toArray, List.set_cons_zero, List.set_cons_succ]
                    refine sg_fix _ rfl (fun w' hI => by have := gA0 w' hI; have := gA1 w' hI; go_simp; rfl) ?_; simp only [Act.put, List.setIfInBounds_toArray, List.set_cons_zero, List.set_cons_succ]
                    refine sg_fix _ rfl (fun w' hI => by have := gA0 w' hI; have := gA1 w' hI; go_simp; rfl) ?_; simp only [Act.put, List.setIfInBounds_toArray, List.set_cons_zero, List.set_cons_succ]
                    refine sg_fix _ rfl (fun w' hI => run_ld 91 _ rfl b1 _ rfl cs (k0_ w' hI) _ Try.underlying91 (by rw [Rep.length _ _ gr, TDictionary.width]; exact infoQEqF91)) ?_
                    simp only [Act.put, List.setIfInBounds_toArray, List.set_cons_zero, List.set_cons_succ]
                    refine sg_fix _ rfl (fun w' hI => by have := gA0 w' hI; have := gA1 w' hI; go_simp; rfl) ?_; simp only [Act.put, List.setIfInBounds_toArray, List.set_cons_zero, List.set_cons_succ]
                    refine sg_fix _ rfl (fun w' hI => by have := gA0 w' hI; have := gA1 w' hI; go_simp; rfl) ?_; simp only [Act.put, List.setIfInBounds_toArray, List.set_cons_zero, List.set_cons_succ]
                    refine sg_fix _ rfl (fun w' hI => by have := gA0 w' hI; have := gA1 w' hI; go_simp; rfl) ?_; simp only [Act.put, List.setIfInBounds_toArray, List.set_cons_zero, List.set_cons_succ]
                    refine sg_fix _ rfl (fun w' hI => by have := gA0 w' hI; have := gA1 w' hI; go_simp; rfl) ?_; simp only [Act.put, List.setIfInBounds_toArray, List.set_cons_zero, List.set_cons_succ]
                    refine sg_fix _ rfl (fun w' hI => run_ld 91 _ rfl b2 _ rfl cs' (k1_ w' hI) _ Try.underlying91 (by rw [Rep.length _ _ gr', TDictionary.width]; exact infoQEqF91)) ?_
                    simp only [Act.put, List.setIfInBounds_toArray, List.set_cons_zero, List.set_cons_succ]
                    refine sg_nil ?_
                    refine rg_one (fuel := 1) 10 (by kernel_rfl) rfl (fun Kq9 hq9 => ?_)
                    simp only [pick, List.getElem?_cons_zero, List.getElem?_cons_succ]
                    refine rg_call rfl _ _ (by go_simp; exact ⟨rfl, rfl⟩) ?_
                    refine (iPspecEqualDictionary u v (by have hsz := List.sizeOf_lt_of_mem hmem; have hsz2 := TDictionary.lt_fArgs x; omega) _ K (fun b hb => Nat.lt_of_lt_of_le (hK' b hb) hI0.size) _ _ (Rep.ext hI0 hK' gr) (Rep.ext hI0 hK' gr')).mono ?_
                    rintro e w1 ⟨rfl, hB1⟩
                    have hI10 := hI0.trans (hB1.mono hI0.size)
                    refine ⟨_, rfl, hq9 _ _ hI10 ?_⟩
                    simp only [Act.put, List.setIfInBounds_toArray, List.set_cons_zero, List.set_cons_succ]
                    by_cases e11 : u = v
                    · skip
                      rw [deq_eq e11]
                      have Hq := Lib.hid e11
                      clear e11
                      refine rg_seg (fuel := 0) [11] hI10 (by kernel_rfl) rfl ?_
                      simp only [pick, List.getElem?_cons_zero, List.getElem?_cons_succ]
                      refine sg_fix _ rfl (fun w' hI => by have := gA0 w' hI; have := gA1 w' hI; go_simp; rfl) ?_; simp only [Act.put, List.setIfInBounds_toArray, List.set_cons_zero, List.set_cons_succ]
                      refine sg_nil (rg_end (by kernel_rfl) ?_)
                      replace HA := Lib.hid ((hI10.block (w.heap.size) (by have := hZ; omega)).trans HA.out)
                      replace HB := Lib.hid ((hI10.block (w.heap.size + 1) (by have := hZ; omega)).trans HB.out)
                      replace hZ := Nat.lt_of_lt_of_le hZ hI10.size
                      replace hV := hV.trans (hI10.mono hV.size)
                      clear cA cB
                      have cA := row_cell HA.out
                      have cB := row_cell HB.out
                      go_wp2
                      go_roundw
                      case rel =>
                        refine ⟨n + 1, hlt, by go_num, ?_, hV, hZ, HA, HB⟩
                        have e := Hs.out
                        rw [Hd.out, Hd'.out, Hq.out, deq_cons] at e
                        exact e
                      case measure => simp [intOf]; omega
                    · skip
                      rw [deq_ne e11]
                      have Hq := Lib.hid e11
                      clear e11
                      refine rg_seg (fuel := 0) [11] hI10 (by kernel_rfl) rfl ?_
                      simp only [pick, List.getElem?_cons_zero, List.getElem?_cons_succ]
                      refine sg_fix _ rfl (fun w' hI => by have := gA0 w' hI; have := gA1 w' hI; go_simp; rfl) ?_; simp only [Act.put, List.setIfInBounds_toArray, List.set_cons_zero, List.set_cons_succ]
                      refine sg_nil (rg_end (by kernel_rfl) ?_)
                      replace HA := Lib.hid ((hI10.block (w.heap.size) (by have := hZ; omega)).trans HA.out)
                      replace HB := Lib.hid ((hI10.block (w.heap.size + 1) (by have := hZ; omega)).trans HB.out)
                      replace hZ := Nat.lt_of_lt_of_le hZ hI10.size
                      replace hV := hV.trans (hI10.mono hV.size)
                      clear cA cB
                      have cA := row_cell HA.out
                      have cB := row_cell HB.out
                      have e := Hs.out
                      rw [Hd.out, Hd'.out, deq_ne (fun q => Hq.out (List.cons.inj q).1)] at e
                      have Hf := Lib.hid e
                      clear e
                      go_wp2
                      go_ret
                      refine ⟨ret_bool ?_, hV⟩
                      rw [deq_ne (fun q => ?_)]
                      have := Hf.out
                      rw [q, deq_eq rfl] at this
                      cases this
                  · skip
                    obtain rfl : n = x.fArgs.length := by omega
                    have e12 : x.fArgs = y.fArgs := by
                      have e := Hs.out
                      rw [List.drop_length, List.drop_eq_nil_of_le (by omega), deq_eq rfl] at e
                      exact of_deq e.symm
                    have Ee12 := Lib.hid e12
                    clear e12
                    clear hlt Hs hn
                    go_wp2
                    go_ret
                    exact ⟨ret_bool (deq_eq (TDictionary.ext Ee1.out (TInstanceRef.ext Ee3.out Ee4.out) Ee8.out Ee12.out)).symm, hV⟩
          · skip
            have be6 : (x.fArgs.length != y.fArgs.length) = true := by simpa using e6
            have bie6 : ((x.fArgs.length : Int) != (y.fArgs.length : Int)) = true := by simp; omega
            have Ee6 := Lib.hid e6
            clear e6
            go_wp2
            go_ret
            exact ⟨ret_bool (deq_ne (fun q => (fun q => Ee6.out (congrArg List.length q)) (congrArg (·.fArgs) q))).symm, hV⟩
        · skip
          have be5 : (x.fSteps.length != y.fSteps.length) = true := by simpa using e5
          have bie5 : ((x.fSteps.length : Int) != (y.fSteps.length : Int)) = true := by simp; omega
          have Ee5 := Lib.hid e5
          clear e5
          go_wp2
          go_ret
          exact ⟨ret_bool (deq_ne (fun q => (fun q => Ee5.out (congrArg List.length q)) (congrArg (·.fSteps) q))).symm, hV⟩
      · skip
        have Ee4 := Lib.hid e4
        go_wp2
        go_ret
        exact ⟨ret_bool (deq_ne (fun q => (fun q => Ee4.out (congrArg (·.fAt) q)) (congrArg (·.fAt) q))).symm, hV⟩
    · skip
      have Ee3 := Lib.hid e3
      go_wp2
      go_ret
      exact ⟨ret_bool (deq_ne (fun q => (fun q => Ee3.out (congrArg (·.fPackage) q)) (congrArg (·.fAt) q))).symm, hV⟩
  · skip
    have be1 : (x.fKind != y.fKind) = true := by simpa using e1
    have bbe1 : (x.fKind == y.fKind) = false := by simpa using e1
    have Ee1 := Lib.hid e1
    clear e1
    go_wp2
    go_ret
    exact ⟨ret_bool (deq_ne (fun q => Ee1.out (congrArg (·.fKind) q))).symm, hV⟩
theorem PspecEqualDictionary_all : ∀ N : Nat, PspecEqualDictionary N
  | 0 => fun _ _ h => absurd h (Nat.not_lt_zero _)
  | N + 1 => by
    have i0 := PspecEqualDictionary_all N
    have j0 := stepPspecEqualDictionary N i0
    exact j0
theorem specEqualDictionary_c (x y : TDictionary) : ∀ (w : World) (K : Nat → Prop) (_ : ∀ b, K b → b < w.heap.size) (cs ds : List Value) (_ : Rep w K x.enc cs) (_ : Rep w K y.enc ds),
    Calls Try.prog 134 #[.agg cs.toArray, .agg ds.toArray] w fun e w' => e = .returned (.bool (deq x y)) ∧ Below w.heap.size w w' := (PspecEqualDictionary_all (SizeOf.sizeOf x + 1)) x y (Nat.lt_succ_self _)
def PspecEqualValue (N : Nat) : Prop := ∀ (x y : TValue), SizeOf.sizeOf x < N → ∀ (w : World) (K : Nat → Prop) (_ : ∀ b, K b → b < w.heap.size) (cs ds : List Value) (_ : Rep w K x.enc cs) (_ : Rep w K y.enc ds),
    Calls Try.prog 88 #[.agg cs.toArray, .agg ds.toArray] w fun e w' => e = .returned (.bool (deq x y)) ∧ Below w.heap.size w w'
set_option maxRecDepth 100000 in
set_option maxHeartbeats 10000000 in
theorem stepPspecEqualValue (N : Nat) (iPspecEqualValue : PspecEqualValue N)  : PspecEqualValue (N + 1) := by
  intro x y hN
  intro w K hK cs ds h k
  obtain ⟨c3, c4, c5, c6, c7, c8, rfl, hKind, hN, hName, hDict, hArgs⟩ := TValue.opn h
  obtain ⟨d3, d4, d5, d6, d7, d8, rfl, kKind, kN, kName, kDict, kArgs⟩ := TValue.opn k
  clear h k
  clear hKind kKind
  clear hN kN
  clear hName kName
  obtain ⟨aArgs, capArgs, rfl, hcArgs, hmArgs, -, hEArgs⟩ := open_sl TValue.width hArgs
  obtain ⟨aArgs', capArgs', rfl, hcArgs', hmArgs', -, hEArgs'⟩ := open_sl TValue.width kArgs
  unfold maxLen at hmArgs hmArgs'
  have hV : Below w.heap.size w ((w.alloc (.cells #[.int .i64 x.fKind, .int .i64 x.fN, .string x.fName, c3, c4, c5, c6, c7, .slice aArgs x.fArgs.length capArgs] 93)).alloc (.cells #[.int .i64 y.fKind, .int .i64 y.fN, .string y.fName, d3, d4, d5, d6, d7, .slice aArgs' y.fArgs.length capArgs'] 93)) := ((Below.refl _ _).alloc (Nat.le_refl _) _).alloc (by simp) _
  have hZ : w.heap.size + 1 < ((w.alloc (.cells #[.int .i64 x.fKind, .int .i64 x.fN, .string x.fName, c3, c4, c5, c6, c7, .slice aArgs x.fArgs.length capArgs] 93)).alloc (.cells #[.int .i64 y.fKind, .int .i64 y.fN, .string y.fName, d3, d4, d5, d6, d7, .slice aArgs' y.fArgs.length capArgs'] 93)).heap.size := by simp
  have HA := Lib.hid (show ((w.alloc (.cells #[.int .i64 x.fKind, .int .i64 x.fN, .string x.fName, c3, c4, c5, c6, c7, .slice aArgs x.fArgs.length capArgs] 93)).alloc (.cells #[.int .i64 y.fKind, .int .i64 y.fN, .string y.fName, d3, d4, d5, d6, d7, .slice aArgs' y.fArgs.length capArgs'] 93)).heap[w.heap.size]? = some (.cells #[.int .i64 x.fKind, .int .i64 x.fN, .string x.fName, c3, c4, c5, c6, c7, .slice aArgs x.fArgs.length capArgs] 93 (0, 0)) from alloc_lt (by simp) (alloc_at rfl))
  have HB := Lib.hid (show ((w.alloc (.cells #[.int .i64 x.fKind, .int .i64 x.fN, .string x.fName, c3, c4, c5, c6, c7, .slice aArgs x.fArgs.length capArgs] 93)).alloc (.cells #[.int .i64 y.fKind, .int .i64 y.fN, .string y.fName, d3, d4, d5, d6, d7, .slice aArgs' y.fArgs.length capArgs'] 93)).heap[w.heap.size + 1]? = some (.cells #[.int .i64 y.fKind, .int .i64 y.fN, .string y.fName, d3, d4, d5, d6, d7, .slice aArgs' y.fArgs.length capArgs'] 93 (0, 0)) from alloc_at (by simp))
  go_enter Try.func88, Try.ntmps88
  by_cases e1 : x.fKind = y.fKind
  · skip
    have be1 : (x.fKind != y.fKind) = false := by simp [e1]
    have bbe1 : (x.fKind == y.fKind) = true := by simp [e1]
    have Ee1 := Lib.hid e1
    clear e1
    by_cases e2 : x.fN = y.fN
    · skip
      have be2 : (x.fN != y.fN) = false := by simp [e2]
      have bbe2 : (x.fN == y.fN) = true := by simp [e2]
      have Ee2 := Lib.hid e2
      clear e2
      by_cases e3 : x.fName = y.fName
      · skip
        have be3 : (!x.fName.toList == y.fName.toList) = false := by simp [e3]
        have bbe3 : (x.fName.toList == y.fName.toList) = true := by simp [e3]
        have Ee3 := Lib.hid e3
        clear e3
        go_wp2_with fail
        refine (specEqualDictionary_c x.fDict y.fDict _ K (fun b hb => Nat.lt_of_lt_of_le (hK b hb) hV.size) _ _ (Rep.ext hV hK hDict) (Rep.ext hV hK kDict)).mono ?_
        rintro e w1 ⟨rfl, hB1⟩
        replace HA := Lib.hid ((hB1.block (w.heap.size) (by have := hZ; omega)).trans HA.out)
        replace HB := Lib.hid ((hB1.block (w.heap.size + 1) (by have := hZ; omega)).trans HB.out)
        replace hZ := Nat.lt_of_lt_of_le hZ hB1.size
        replace hV := hV.trans (hB1.mono hV.size)
        have cA := row_cell HA.out
        have cB := row_cell HB.out
        by_cases e4 : x.fDict = y.fDict
        · skip
          rw [deq_eq e4]
          have Ee4 := Lib.hid e4
          clear e4
          by_cases e5 : x.fArgs.length = y.fArgs.length
          · skip
            have be5 : (x.fArgs.length != y.fArgs.length) = false := by simp [e5]
            have bie5 : ((x.fArgs.length : Int) != (y.fArgs.length : Int)) = false := by simp [e5]
            have hae5 : x.fArgs.length ≤ y.fArgs.length := by omega
            have hbe5 : y.fArgs.length ≤ x.fArgs.length := by omega
            have Ee5 := Lib.hid e5
            clear e5
            go_wp2
            have Hg : Hid (deq (x.fArgs.drop 0) (y.fArgs.drop 0) = deq x.fArgs y.fArgs) := rfl
            go_loopw [5] (fun i wr => ∃ (n : Nat), n ≤ x.fArgs.length ∧ i = .int .i64 n ∧ Hid (deq (x.fArgs.drop n) (y.fArgs.drop n) = deq x.fArgs y.fArgs) ∧ Below w.heap.size w wr ∧ w.heap.size + 1 < wr.heap.size ∧ Hid (wr.heap[w.heap.size]? = some (.cells #[.int .i64 x.fKind, .int .i64 x.fN, .string x.fName, c3, c4, c5, c6, c7, .slice aArgs x.fArgs.length capArgs] 93 (0, 0))) ∧ Hid (wr.heap[w.heap.size + 1]? = some (.cells #[.int .i64 y.fKind, .int .i64 y.fN, .string y.fName, d3, d4, d5, d6, d7, .slice aArgs' y.fArgs.length capArgs'] 93 (0, 0)))) (fun i _ => x.fArgs.length - (intOf i).toNat)
            case atStart => exact ⟨0, Nat.zero_le _, rfl, Hg, hV, hZ, HA, HB⟩
            case round =>
              clear Hg hV hZ HA HB cA cB
              obtain ⟨n, hn, rfl, Hs, hV, hZ, HA, HB⟩ := hrel
              have cA := row_cell HA.out
              have cB := row_cell HB.out
              by_cases hlt : n < x.fArgs.length
              · skip
                have hlt' : n < y.fArgs.length := by omega
                obtain ⟨b1, off1, hav, hKb, cs, hcs, hr⟩ := hEArgs n hlt
                obtain ⟨b2, off2, hav', hKb', cs', hcs', hr'⟩ := hEArgs' n hlt'
                subst hav hav'
                have gcs := hcs.ext hV (hK b1 hKb)
                have gcs' := hcs'.ext hV (hK b2 hKb')
                have gr := Rep.ext hV hK hr
                have gr' := Rep.ext hV hK hr'
                have hK' : ∀ b, K b → b < wr.heap.size := fun b h => Nat.lt_of_lt_of_le (hK b h) hV.size
                have hmem : x.fArgs[n] ∈ x.fArgs := List.getElem_mem hlt
                have Hd : Hid (x.fArgs.drop n = x.fArgs[n] :: x.fArgs.drop (n + 1)) := List.drop_eq_getElem_cons hlt
                have Hd' : Hid (y.fArgs.drop n = y.fArgs[n] :: y.fArgs.drop (n + 1)) := List.drop_eq_getElem_cons hlt'
                clear hcs hcs' hr hr'
                generalize x.fArgs[n] = u at *
                generalize y.fArgs[n] = v at *
                have hI0 : Below wr.heap.size wr wr.drew := (Below.refl _ _).drew
                have gA0 : ∀ w', Below wr.heap.size wr w' → ∀ o, w'.cell? ⟨w.heap.size, o, none⟩ = (#[.int .i64 x.fKind, .int .i64 x.fN, .string x.fName, c3, c4, c5, c6, c7, .slice (some ⟨b1, off1, none⟩) x.fArgs.length capArgs] : Array Value)[o]? := fun w' h => row_cell ((h.block (w.heap.size) (by have := hZ; omega)).trans HA.out)
                have gA1 : ∀ w', Below wr.heap.size wr w' → ∀ o, w'.cell? ⟨w.heap.size + 1, o, none⟩ = (#[.int .i64 y.fKind, .int .i64 y.fN, .string y.fName, d3, d4, d5, d6, d7, .slice (some ⟨b2, off2, none⟩) y.fArgs.length capArgs'] : Array Value)[o]? := fun w' h => row_cell ((h.block (w.heap.size + 1) (by have := hZ; omega)).trans HB.out)
                have k0_ : ∀ w', Below wr.heap.size wr w' → Cells w' b1 (off1 + n * 9) cs := fun w' h => gcs.ext h (hK' b1 hKb)
                have k1_ : ∀ w', Below wr.heap.size wr w' → Cells w' b2 (off2 + n * 9) cs' := fun w' h => gcs'.ext h (hK' b2 hKb')
                clear gcs gcs'
                go_wp2_with fail
                refine rg 12 (Below wr.heap.size wr) (by kernel_rfl) rfl ?_
                refine rg_seg (fuel := 2) [0, 1, 2, 3, 4, 5, 6, 7, 8, 9] hI0 (by kernel_rfl) rfl ?_
                simp only [pick, List.getElem?_cons_zero, List.getElem?_cons_succ]
                refine sg_fix _ rfl (fun w' hI => by have := gA0 w' hI; have := gA1 w' hI; go_simp; rfl) ?_; simp only [Act.put, List.setIfInBounds_toArray, List.set_cons_zero, List.set_cons_succ]
                refine sg_fix _ rfl (fun w' hI => by have := gA0 w' hI; have := gA1 w' hI; go_simp; rfl) ?_; simp only [Act.put, List.setIfInBounds_toArray, List.set_cons_zero, List.set_cons_succ]
                refine sg_fix _ rfl (fun w' hI => by have := gA0 w' hI; have := gA1 w' hI; go_simp; rfl) ?_; simp only [Act.put, List.setIfInBounds_toArray, List.set_cons_zero, List.set_cons_succ]
                refine sg_fix _ rfl (fun w' hI => by have := gA0 w' hI; have := gA1 w' hI; go_simp; rfl) ?_; simp only [Act.put, List.setIfInBounds_toArray, List.set_cons_zero, List.set_cons_succ]
                refine sg_fix _ rfl (fun w' hI => run_ld 93 _ rfl b1 _ rfl cs (k0_ w' hI) _ Try.underlying93 (by rw [Rep.length _ _ gr, TValue.width]; exact infoQEqF93)) ?_
                simp only [Act.put, List.setIfInBounds_toArray, List.set_cons_zero, List.set_cons_succ]
                refine sg_fix _ rfl (fun w' hI => by have := gA0 w' hI; have := gA1 w' hI; go_simp; rfl) ?_; simp only [Act.put, List.setIfInBounds_toArray, List.set_cons_zero, List.set_cons_succ]
                refine sg_fix _ rfl (fun w' hI => by have := gA0 w' hI; have := gA1 w' hI; go_simp; rfl) ?_; simp only [Act.put, List.setIfInBounds_toArray, List.set_cons_zero, List.set_cons_succ]
                refine sg_fix _ rfl (fun w' hI => by have := gA0 w' hI; have := gA1 w' hI; go_simp; rfl) ?_; simp only [Act.put, List.setIfInBounds_toArray, List.set_cons_zero, List.set_cons_succ]
                refine sg_fix _ rfl (fun w' hI => by have := gA0 w' hI; have := gA1 w' hI; go_simp; rfl) ?_; simp only [Act.put, List.setIfInBounds_toArray, List.set_cons_zero, List.set_cons_succ]
                refine sg_fix _ rfl (fun w' hI => run_ld 93 _ rfl b2 _ rfl cs' (k1_ w' hI) _ Try.underlying93 (by rw [Rep.length _ _ gr', TValue.width]; exact infoQEqF93)) ?_
                simp only [Act.put, List.setIfInBounds_toArray, List.set_cons_zero, List.set_cons_succ]
                refine sg_nil ?_
                refine rg_one (fuel := 1) 10 (by kernel_rfl) rfl (fun Kq6 hq6 => ?_)
                simp only [pick, List.getElem?_cons_zero, List.getElem?_cons_succ]
                refine rg_call rfl _ _ (by go_simp; exact ⟨rfl, rfl⟩) ?_
                refine (iPspecEqualValue u v (by have hsz := List.sizeOf_lt_of_mem hmem; have hsz2 := TValue.lt_fArgs x; omega) _ K (fun b hb => Nat.lt_of_lt_of_le (hK' b hb) hI0.size) _ _ (Rep.ext hI0 hK' gr) (Rep.ext hI0 hK' gr')).mono ?_
                rintro e w2 ⟨rfl, hB2⟩
                have hI7 := hI0.trans (hB2.mono hI0.size)
                refine ⟨_, rfl, hq6 _ _ hI7 ?_⟩
                simp only [Act.put, List.setIfInBounds_toArray, List.set_cons_zero, List.set_cons_succ]
                by_cases e8 : u = v
                · skip
                  rw [deq_eq e8]
                  have Hq := Lib.hid e8
                  clear e8
                  refine rg_seg (fuel := 0) [11] hI7 (by kernel_rfl) rfl ?_
                  simp only [pick, List.getElem?_cons_zero, List.getElem?_cons_succ]
                  refine sg_fix _ rfl (fun w' hI => by have := gA0 w' hI; have := gA1 w' hI; go_simp; rfl) ?_; simp only [Act.put, List.setIfInBounds_toArray, List.set_cons_zero, List.set_cons_succ]
                  refine sg_nil (rg_end (by kernel_rfl) ?_)
                  replace HA := Lib.hid ((hI7.block (w.heap.size) (by have := hZ; omega)).trans HA.out)
                  replace HB := Lib.hid ((hI7.block (w.heap.size + 1) (by have := hZ; omega)).trans HB.out)
                  replace hZ := Nat.lt_of_lt_of_le hZ hI7.size
                  replace hV := hV.trans (hI7.mono hV.size)
                  clear cA cB
                  have cA := row_cell HA.out
                  have cB := row_cell HB.out
                  go_wp2
                  go_roundw
                  case rel =>
                    refine ⟨n + 1, hlt, by go_num, ?_, hV, hZ, HA, HB⟩
                    have e := Hs.out
                    rw [Hd.out, Hd'.out, Hq.out, deq_cons] at e
                    exact e
                  case measure => simp [intOf]; omega
                · skip
                  rw [deq_ne e8]
                  have Hq := Lib.hid e8
                  clear e8
                  refine rg_seg (fuel := 0) [11] hI7 (by kernel_rfl) rfl ?_
                  simp only [pick, List.getElem?_cons_zero, List.getElem?_cons_succ]
                  refine sg_fix _ rfl (fun w' hI => by have := gA0 w' hI; have := gA1 w' hI; go_simp; rfl) ?_; simp only [Act.put, List.setIfInBounds_toArray, List.set_cons_zero, List.set_cons_succ]
                  refine sg_nil (rg_end (by kernel_rfl) ?_)
                  replace HA := Lib.hid ((hI7.block (w.heap.size) (by have := hZ; omega)).trans HA.out)
                  replace HB := Lib.hid ((hI7.block (w.heap.size + 1) (by have := hZ; omega)).trans HB.out)
                  replace hZ := Nat.lt_of_lt_of_le hZ hI7.size
                  replace hV := hV.trans (hI7.mono hV.size)
                  clear cA cB
                  have cA := row_cell HA.out
                  have cB := row_cell HB.out
                  have e := Hs.out
                  rw [Hd.out, Hd'.out, deq_ne (fun q => Hq.out (List.cons.inj q).1)] at e
                  have Hf := Lib.hid e
                  clear e
                  go_wp2
                  go_ret
                  refine ⟨ret_bool ?_, hV⟩
                  rw [deq_ne (fun q => ?_)]
                  have := Hf.out
                  rw [q, deq_eq rfl] at this
                  cases this
              · skip
                obtain rfl : n = x.fArgs.length := by omega
                have e9 : x.fArgs = y.fArgs := by
                  have e := Hs.out
                  rw [List.drop_length, List.drop_eq_nil_of_le (by omega), deq_eq rfl] at e
                  exact of_deq e.symm
                have Ee9 := Lib.hid e9
                clear e9
                clear hlt Hs hn
                go_wp2
                go_ret
                exact ⟨ret_bool (deq_eq (TValue.ext Ee1.out Ee2.out Ee3.out Ee4.out Ee9.out)).symm, hV⟩
          · skip
            have be5 : (x.fArgs.length != y.fArgs.length) = true := by simpa using e5
            have bie5 : ((x.fArgs.length : Int) != (y.fArgs.length : Int)) = true := by simp; omega
            have Ee5 := Lib.hid e5
            clear e5
            go_wp2
            go_ret
            exact ⟨ret_bool (deq_ne (fun q => (fun q => Ee5.out (congrArg List.length q)) (congrArg (·.fArgs) q))).symm, hV⟩
        · skip
          rw [deq_ne e4]
          have Ee4 := Lib.hid e4
          clear e4
          go_wp2
          go_ret
          exact ⟨ret_bool (deq_ne (fun q => Ee4.out (congrArg (·.fDict) q))).symm, hV⟩
      · skip
        have be3 : (!x.fName.toList == y.fName.toList) = true := by simpa using fun q => e3 (ba_ext q)
        have bbe3 : (x.fName.toList == y.fName.toList) = false := by simpa using fun q => e3 (ba_ext q)
        have Ee3 := Lib.hid e3
        clear e3
        go_wp2
        go_ret
        exact ⟨ret_bool (deq_ne (fun q => Ee3.out (congrArg (·.fName) q))).symm, hV⟩
    · skip
      have be2 : (x.fN != y.fN) = true := by simpa using e2
      have bbe2 : (x.fN == y.fN) = false := by simpa using e2
      have Ee2 := Lib.hid e2
      clear e2
      go_wp2
      go_ret
      exact ⟨ret_bool (deq_ne (fun q => Ee2.out (congrArg (·.fN) q))).symm, hV⟩
  · skip
    have be1 : (x.fKind != y.fKind) = true := by simpa using e1
    have bbe1 : (x.fKind == y.fKind) = false := by simpa using e1
    have Ee1 := Lib.hid e1
    clear e1
    go_wp2
    go_ret
    exact ⟨ret_bool (deq_ne (fun q => Ee1.out (congrArg (·.fKind) q))).symm, hV⟩
theorem PspecEqualValue_all : ∀ N : Nat, PspecEqualValue N
  | 0 => fun _ _ h => absurd h (Nat.not_lt_zero _)
  | N + 1 => by
    have i0 := PspecEqualValue_all N
    have j0 := stepPspecEqualValue N i0
    exact j0
theorem specEqualValue_c (x y : TValue) : ∀ (w : World) (K : Nat → Prop) (_ : ∀ b, K b → b < w.heap.size) (cs ds : List Value) (_ : Rep w K x.enc cs) (_ : Rep w K y.enc ds),
    Calls Try.prog 88 #[.agg cs.toArray, .agg ds.toArray] w fun e w' => e = .returned (.bool (deq x y)) ∧ Below w.heap.size w w' := (PspecEqualValue_all (SizeOf.sizeOf x + 1)) x y (Nat.lt_succ_self _)
set_option maxRecDepth 100000 in
set_option maxHeartbeats 10000000 in
theorem specl42Same_c (l m : List TValue) : ∀ (w : World) (K : Nat → Prop) (_ : ∀ b, K b → b < w.heap.size) (u v : Value) (_ : Rep w K (.sl (l.map TValue.enc)) [u]) (_ : Rep w K (.sl (m.map TValue.enc)) [v]),
    Calls Try.prog 39 #[u, v] w fun e w' => e = .returned (.bool (deq l m)) ∧ Below w.heap.size w w' := by
  intro w K hK u v h k
  obtain ⟨a, cap, rfl, hc, hm, -, hE⟩ := open_sl TValue.width h
  obtain ⟨a', cap', rfl, hc', hm', -, hE'⟩ := open_sl TValue.width k
  unfold maxLen at hm hm'
  clear h k
  by_cases hl : l.length = m.length
  · skip
    have bhl : (l.length != m.length) = false := by simp [hl]
    have bihl : ((l.length : Int) != (m.length : Int)) = false := by simp [hl]
    have hahl : l.length ≤ m.length := by omega
    have hbhl : m.length ≤ l.length := by omega
    have Hl0 := Lib.hid hl
    clear hl
    have Hg : Hid (deq (l.drop 0) (m.drop 0) = deq l m) := rfl
    go_enter Try.func39, Try.ntmps39
    go_wp2
    go_loopw [5] (fun i wr => ∃ (n : Nat), n ≤ l.length ∧ i = .int .i64 n ∧ Hid (deq (l.drop n) (m.drop n) = deq l m) ∧ Below w.heap.size w wr) (fun i _ => l.length - (intOf i).toNat)
    case atStart => exact ⟨0, Nat.zero_le _, rfl, Hg, Below.refl _ _⟩
    case round =>
      clear Hg
      obtain ⟨n, hn, rfl, Hs, hV⟩ := hrel
      by_cases hlt : n < l.length
      · skip
        have hlt' : n < m.length := by omega
        obtain ⟨b1, off1, rfl, hKb, cs, hcs, hr⟩ := hE n hlt
        obtain ⟨b2, off2, rfl, hKb', cs', hcs', hr'⟩ := hE' n hlt'
        have gcs := hcs.ext hV (hK b1 hKb)
        have gcs' := hcs'.ext hV (hK b2 hKb')
        have gr := Rep.ext hV hK hr
        have gr' := Rep.ext hV hK hr'
        have hK' : ∀ b, K b → b < wr.heap.size := fun b h => Nat.lt_of_lt_of_le (hK b h) hV.size
        have hmem : l[n] ∈ l := List.getElem_mem hlt
        have Hd : Hid (l.drop n = l[n] :: l.drop (n + 1)) := List.drop_eq_getElem_cons hlt
        have Hd' : Hid (m.drop n = m[n] :: m.drop (n + 1)) := List.drop_eq_getElem_cons hlt'
        clear hcs hcs' hr hr'
        generalize l[n] = u at *
        generalize m[n] = v at *
        have hI0 : Below wr.heap.size wr wr.drew := (Below.refl _ _).drew
        have k0_ : ∀ w', Below wr.heap.size wr w' → Cells w' b1 (off1 + n * 9) cs := fun w' h => gcs.ext h (hK' b1 hKb)
        have k1_ : ∀ w', Below wr.heap.size wr w' → Cells w' b2 (off2 + n * 9) cs' := fun w' h => gcs'.ext h (hK' b2 hKb')
        clear gcs gcs'
        go_wp2_with fail
        refine rg 10 (Below wr.heap.size wr) (by kernel_rfl) rfl ?_
        refine rg_seg (fuel := 2) [0, 1, 2, 3, 4, 5, 6, 7] hI0 (by kernel_rfl) rfl ?_
        simp only [pick, List.getElem?_cons_zero, List.getElem?_cons_succ]
        refine sg_fix _ rfl (fun w' hI => by go_simp; rfl) ?_; simp only [Act.put, List.setIfInBounds_toArray, List.set_cons_zero, List.set_cons_succ]
        refine sg_fix _ rfl (fun w' hI => by go_simp; rfl) ?_; simp only [Act.put, List.setIfInBounds_toArray, List.set_cons_zero, List.set_cons_succ]
        refine sg_fix _ rfl (fun w' hI => by go_simp; rfl) ?_; simp only [Act.put, List.setIfInBounds_toArray, List.set_cons_zero, List.set_cons_succ]
        refine sg_fix _ rfl (fun w' hI => run_ld 93 _ rfl b1 _ rfl cs (k0_ w' hI) _ Try.underlying93 (by rw [Rep.length _ _ gr, TValue.width]; exact infoQEqF93)) ?_
        simp only [Act.put, List.setIfInBounds_toArray, List.set_cons_zero, List.set_cons_succ]
        refine sg_fix _ rfl (fun w' hI => by go_simp; rfl) ?_; simp only [Act.put, List.setIfInBounds_toArray, List.set_cons_zero, List.set_cons_succ]
        refine sg_fix _ rfl (fun w' hI => by go_simp; rfl) ?_; simp only [Act.put, List.setIfInBounds_toArray, List.set_cons_zero, List.set_cons_succ]
        refine sg_fix _ rfl (fun w' hI => by go_simp; rfl) ?_; simp only [Act.put, List.setIfInBounds_toArray, List.set_cons_zero, List.set_cons_succ]
        refine sg_fix _ rfl (fun w' hI => run_ld 93 _ rfl b2 _ rfl cs' (k1_ w' hI) _ Try.underlying93 (by rw [Rep.length _ _ gr', TValue.width]; exact infoQEqF93)) ?_
        simp only [Act.put, List.setIfInBounds_toArray, List.set_cons_zero, List.set_cons_succ]
        refine sg_nil ?_
        refine rg_one (fuel := 1) 8 (by kernel_rfl) rfl (fun Kq1 hq1 => ?_)
        simp only [pick, List.getElem?_cons_zero, List.getElem?_cons_succ]
        refine rg_call rfl _ _ (by go_simp; exact ⟨rfl, rfl⟩) ?_
        refine (specEqualValue_c u v _ K (fun b hb => Nat.lt_of_lt_of_le (hK' b hb) hI0.size) _ _ (Rep.ext hI0 hK' gr) (Rep.ext hI0 hK' gr')).mono ?_
        rintro e w1 ⟨rfl, hB1⟩
        have hI2 := hI0.trans (hB1.mono hI0.size)
        refine ⟨_, rfl, hq1 _ _ hI2 ?_⟩
        simp only [Act.put, List.setIfInBounds_toArray, List.set_cons_zero, List.set_cons_succ]
        by_cases e3 : u = v
        · skip
          rw [deq_eq e3]
          have Hq := Lib.hid e3
          clear e3
          refine rg_seg (fuel := 0) [9] hI2 (by kernel_rfl) rfl ?_
          simp only [pick, List.getElem?_cons_zero, List.getElem?_cons_succ]
          refine sg_fix _ rfl (fun w' hI => by go_simp; rfl) ?_; simp only [Act.put, List.setIfInBounds_toArray, List.set_cons_zero, List.set_cons_succ]
          refine sg_nil (rg_end (by kernel_rfl) ?_)
          replace hV := hV.trans (hI2.mono hV.size)
          go_wp2
          go_roundw
          case rel =>
            refine ⟨n + 1, hlt, by go_num, ?_, hV⟩
            have e := Hs.out
            rw [Hd.out, Hd'.out, Hq.out, deq_cons] at e
            exact e
          case measure => simp [intOf]; omega
        · skip
          rw [deq_ne e3]
          have Hq := Lib.hid e3
          clear e3
          refine rg_seg (fuel := 0) [9] hI2 (by kernel_rfl) rfl ?_
          simp only [pick, List.getElem?_cons_zero, List.getElem?_cons_succ]
          refine sg_fix _ rfl (fun w' hI => by go_simp; rfl) ?_; simp only [Act.put, List.setIfInBounds_toArray, List.set_cons_zero, List.set_cons_succ]
          refine sg_nil (rg_end (by kernel_rfl) ?_)
          replace hV := hV.trans (hI2.mono hV.size)
          have e := Hs.out
          rw [Hd.out, Hd'.out, deq_ne (fun q => Hq.out (List.cons.inj q).1)] at e
          have Hf := Lib.hid e
          clear e
          go_wp2
          go_ret
          exact ⟨ret_bool Hf.out, hV⟩
      · skip
        obtain rfl : n = l.length := by omega
        go_wp2
        go_ret
        refine ⟨ret_bool ?_, hV⟩
        rw [← Hs.out, List.drop_length, List.drop_eq_nil_of_le (by omega)]
        exact (deq_eq rfl).symm
  · skip
    have bhl : (l.length != m.length) = true := by simpa using hl
    have bihl : ((l.length : Int) != (m.length : Int)) = true := by simp; omega
    have Hl0 := Lib.hid hl
    clear hl
    go_enter Try.func39, Try.ntmps39
    go_wp2
    go_ret
    exact ⟨ret_bool (deq_ne (fun q => Hl0.out (congrArg List.length q))).symm, Below.refl _ _⟩
set_option maxRecDepth 100000 in
set_option maxHeartbeats 10000000 in
theorem specEqualVM_c (x y : TVM) : ∀ (w : World) (K : Nat → Prop) (_ : ∀ b, K b → b < w.heap.size) (cs ds : List Value) (_ : Rep w K x.enc cs) (_ : Rep w K y.enc ds),
    Calls Try.prog 8 #[.agg cs.toArray, .agg ds.toArray] w fun e w' => e = .returned (.bool (deq x y)) ∧ Below w.heap.size w w' := by
  intro w K hK cs ds h k
  obtain ⟨c0, c1, rfl, hStack, hFrames, hCalls, hCode⟩ := TVM.opn h
  obtain ⟨d0, d1, rfl, kStack, kFrames, kCalls, kCode⟩ := TVM.opn k
  clear h k
  clear hCalls kCalls
  clear hCode kCode
  obtain ⟨aFrames, capFrames, rfl, hcFrames, hmFrames, -, hEFrames⟩ := open_sl TFrame.width hFrames
  obtain ⟨aFrames', capFrames', rfl, hcFrames', hmFrames', -, hEFrames'⟩ := open_sl TFrame.width kFrames
  unfold maxLen at hmFrames hmFrames'
  have hV : Below w.heap.size w ((w.alloc (.cells #[c0, .slice aFrames x.fFrames.length capFrames, .int .i64 x.fCalls, .int .i64 x.fCode, .bool x.fDone] 31)).alloc (.cells #[d0, .slice aFrames' y.fFrames.length capFrames', .int .i64 y.fCalls, .int .i64 y.fCode, .bool y.fDone] 31)) := ((Below.refl _ _).alloc (Nat.le_refl _) _).alloc (by simp) _
  have hZ : w.heap.size + 1 < ((w.alloc (.cells #[c0, .slice aFrames x.fFrames.length capFrames, .int .i64 x.fCalls, .int .i64 x.fCode, .bool x.fDone] 31)).alloc (.cells #[d0, .slice aFrames' y.fFrames.length capFrames', .int .i64 y.fCalls, .int .i64 y.fCode, .bool y.fDone] 31)).heap.size := by simp
  have HA := Lib.hid (show ((w.alloc (.cells #[c0, .slice aFrames x.fFrames.length capFrames, .int .i64 x.fCalls, .int .i64 x.fCode, .bool x.fDone] 31)).alloc (.cells #[d0, .slice aFrames' y.fFrames.length capFrames', .int .i64 y.fCalls, .int .i64 y.fCode, .bool y.fDone] 31)).heap[w.heap.size]? = some (.cells #[c0, .slice aFrames x.fFrames.length capFrames, .int .i64 x.fCalls, .int .i64 x.fCode, .bool x.fDone] 31 (0, 0)) from alloc_lt (by simp) (alloc_at rfl))
  have HB := Lib.hid (show ((w.alloc (.cells #[c0, .slice aFrames x.fFrames.length capFrames, .int .i64 x.fCalls, .int .i64 x.fCode, .bool x.fDone] 31)).alloc (.cells #[d0, .slice aFrames' y.fFrames.length capFrames', .int .i64 y.fCalls, .int .i64 y.fCode, .bool y.fDone] 31)).heap[w.heap.size + 1]? = some (.cells #[d0, .slice aFrames' y.fFrames.length capFrames', .int .i64 y.fCalls, .int .i64 y.fCode, .bool y.fDone] 31 (0, 0)) from alloc_at (by simp))
  go_enter Try.func8, Try.ntmps8
  by_cases e1 : x.fCalls = y.fCalls
  · skip
    have be1 : (x.fCalls != y.fCalls) = false := by simp [e1]
    have bbe1 : (x.fCalls == y.fCalls) = true := by simp [e1]
    have Ee1 := Lib.hid e1
    clear e1
    by_cases e2 : x.fCode = y.fCode
    · skip
      have be2 : (x.fCode != y.fCode) = false := by simp [e2]
      have bbe2 : (x.fCode == y.fCode) = true := by simp [e2]
      have Ee2 := Lib.hid e2
      clear e2
      by_cases e3 : x.fDone = y.fDone
      · skip
        have be3 := e3
        have Ee3 := Lib.hid e3
        simp only [e3] at hV hZ HA HB
        go_wp2_with fail
        refine (specl42Same_c x.fStack y.fStack _ K (fun b hb => Nat.lt_of_lt_of_le (hK b hb) hV.size) _ _ (Rep.ext hV hK hStack) (Rep.ext hV hK kStack)).mono ?_
        rintro e w1 ⟨rfl, hB1⟩
        replace HA := Lib.hid ((hB1.block (w.heap.size) (by have := hZ; omega)).trans HA.out)
        replace HB := Lib.hid ((hB1.block (w.heap.size + 1) (by have := hZ; omega)).trans HB.out)
        replace hZ := Nat.lt_of_lt_of_le hZ hB1.size
        replace hV := hV.trans (hB1.mono hV.size)
        have cA := row_cell HA.out
        have cB := row_cell HB.out
        by_cases e4 : x.fStack = y.fStack
        · skip
          rw [deq_eq e4]
          have Ee4 := Lib.hid e4
          clear e4
          by_cases e5 : x.fFrames.length = y.fFrames.length
          · skip
            have be5 : (x.fFrames.length != y.fFrames.length) = false := by simp [e5]
            have bie5 : ((x.fFrames.length : Int) != (y.fFrames.length : Int)) = false := by simp [e5]
            have hae5 : x.fFrames.length ≤ y.fFrames.length := by omega
            have hbe5 : y.fFrames.length ≤ x.fFrames.length := by omega
            have Ee5 := Lib.hid e5
            clear e5
            go_wp2
            have Hg : Hid (deq (x.fFrames.drop 0) (y.fFrames.drop 0) = deq x.fFrames y.fFrames) := rfl
            go_loopw [5] (fun i wr => ∃ (n : Nat), n ≤ x.fFrames.length ∧ i = .int .i64 n ∧ Hid (deq (x.fFrames.drop n) (y.fFrames.drop n) = deq x.fFrames y.fFrames) ∧ Below w.heap.size w wr ∧ w.heap.size + 1 < wr.heap.size ∧ Hid (wr.heap[w.heap.size]? = some (.cells #[c0, .slice aFrames x.fFrames.length capFrames, .int .i64 x.fCalls, .int .i64 x.fCode, .bool y.fDone] 31 (0, 0))) ∧ Hid (wr.heap[w.heap.size + 1]? = some (.cells #[d0, .slice aFrames' y.fFrames.length capFrames', .int .i64 y.fCalls, .int .i64 y.fCode, .bool y.fDone] 31 (0, 0)))) (fun i _ => x.fFrames.length - (intOf i).toNat)
            case atStart => exact ⟨0, Nat.zero_le _, rfl, Hg, hV, hZ, HA, HB⟩
            case round =>
              clear Hg hV hZ HA HB cA cB
              obtain ⟨n, hn, rfl, Hs, hV, hZ, HA, HB⟩ := hrel
              have cA := row_cell HA.out
              have cB := row_cell HB.out
              by_cases hlt : n < x.fFrames.length
              · skip
                have hlt' : n < y.fFrames.length := by omega
                obtain ⟨b1, off1, hav, hKb, cs, hcs, hr⟩ := hEFrames n hlt
                obtain ⟨b2, off2, hav', hKb', cs', hcs', hr'⟩ := hEFrames' n hlt'
                subst hav hav'
                have gcs := hcs.ext hV (hK b1 hKb)
                have gcs' := hcs'.ext hV (hK b2 hKb')
                have gr := Rep.ext hV hK hr
                have gr' := Rep.ext hV hK hr'
                have hK' : ∀ b, K b → b < wr.heap.size := fun b h => Nat.lt_of_lt_of_le (hK b h) hV.size
                have hmem : x.fFrames[n] ∈ x.fFrames := List.getElem_mem hlt
                have Hd : Hid (x.fFrames.drop n = x.fFrames[n] :: x.fFrames.drop (n + 1)) := List.drop_eq_getElem_cons hlt
                have Hd' : Hid (y.fFrames.drop n = y.fFrames[n] :: y.fFrames.drop (n + 1)) := List.drop_eq_getElem_cons hlt'
                clear hcs hcs' hr hr'
                generalize x.fFrames[n] = u at *
                generalize y.fFrames[n] = v at *
                have ho := Lib.hid (Rep.one _ _ gr)
                have ho' := Lib.hid (Rep.one _ _ gr')
                obtain ⟨p3, rfl, -, -, -, rhSlots⟩ := TFrame.opn gr
                obtain ⟨q3, rfl, -, -, -, skSlots⟩ := TFrame.opn gr'
                have ha1 := Lib.hid (show ((#[.int .i64 0, .int .i64 0, .int .i64 0, .slice none 0 0] : Array Value).toList.take 0 ++ ([.int .i64 u.fCode, .int .i64 u.fAt, .int .i64 u.fBase, p3] : List Value) ++ (#[.int .i64 0, .int .i64 0, .int .i64 0, .slice none 0 0] : Array Value).toList.drop (0 + ([.int .i64 u.fCode, .int .i64 u.fAt, .int .i64 u.fBase, p3] : List Value).length)).toArray = #[.int .i64 u.fCode, .int .i64 u.fAt, .int .i64 u.fBase, p3] from rfl)
                have hf1 := Lib.hid (show 0 + ([.int .i64 u.fCode, .int .i64 u.fAt, .int .i64 u.fBase, p3] : List Value).length ≤ (#[.int .i64 0, .int .i64 0, .int .i64 0, .slice none 0 0] : Array Value).size from (by decide : 0 + 4 ≤ 4))
                have hi1 := Lib.hid (show (Try.prog.info? 83).map (·.size) = some ([.int .i64 u.fCode, .int .i64 u.fAt, .int .i64 u.fBase, p3] : List Value).length from infoQEqF83)
                go_wp2_with (first | (with_reducible refine ld rfl 83 _ rfl b1 _ rfl [.int .i64 u.fCode, .int .i64 u.fAt, .int .i64 u.fBase, p3] gcs _ Try.underlying83 hi1.out ?_) | (with_reducible refine stR rfl 83 _ _ rfl (wr.heap.size) 0 rfl [.int .i64 u.fCode, .int .i64 u.fAt, .int .i64 u.fBase, p3] rfl hi1.out ho.out (#[.int .i64 0, .int .i64 0, .int .i64 0, .slice none 0 0] : Array Value) #[.int .i64 u.fCode, .int .i64 u.fAt, .int .i64 u.fBase, p3] 83 (alloc_at rfl) hf1.out ha1.out ?_))
                intro w2 hp2
                have hB2 := hp2.below ((Below.refl _ _).alloc (Nat.le_refl _) _) (Nat.le_refl _)
                have lw2 : wr.heap.size < w2.heap.size := by rw [hp2.size]; simp
                have HX := Lib.hid hp2.row
                have gcs2 := gcs'.ext hB2 (hK' b2 hKb')
                replace HA := Lib.hid ((hB2.block (w.heap.size) (by have := hZ; omega)).trans HA.out)
                replace HB := Lib.hid ((hB2.block (w.heap.size + 1) (by have := hZ; omega)).trans HB.out)
                replace hZ := Nat.lt_of_lt_of_le hZ hB2.size
                replace hV := hV.trans (hB2.mono hV.size)
                clear cA cB
                have cA := row_cell HA.out
                have cB := row_cell HB.out
                have ha2 := Lib.hid (show ((#[.int .i64 0, .int .i64 0, .int .i64 0, .slice none 0 0] : Array Value).toList.take 0 ++ ([.int .i64 v.fCode, .int .i64 v.fAt, .int .i64 v.fBase, q3] : List Value) ++ (#[.int .i64 0, .int .i64 0, .int .i64 0, .slice none 0 0] : Array Value).toList.drop (0 + ([.int .i64 v.fCode, .int .i64 v.fAt, .int .i64 v.fBase, q3] : List Value).length)).toArray = #[.int .i64 v.fCode, .int .i64 v.fAt, .int .i64 v.fBase, q3] from rfl)
                have hf2 := Lib.hid (show 0 + ([.int .i64 v.fCode, .int .i64 v.fAt, .int .i64 v.fBase, q3] : List Value).length ≤ (#[.int .i64 0, .int .i64 0, .int .i64 0, .slice none 0 0] : Array Value).size from (by decide : 0 + 4 ≤ 4))
                have hi2 := Lib.hid (show (Try.prog.info? 83).map (·.size) = some ([.int .i64 v.fCode, .int .i64 v.fAt, .int .i64 v.fBase, q3] : List Value).length from infoQEqF83)
                go_wp2_with (first | (with_reducible refine ld rfl 83 _ rfl b2 _ rfl [.int .i64 v.fCode, .int .i64 v.fAt, .int .i64 v.fBase, q3] gcs2 _ Try.underlying83 hi2.out ?_) | (with_reducible refine stR rfl 83 _ _ rfl (w2.heap.size) 0 rfl [.int .i64 v.fCode, .int .i64 v.fAt, .int .i64 v.fBase, q3] rfl hi2.out ho'.out (#[.int .i64 0, .int .i64 0, .int .i64 0, .slice none 0 0] : Array Value) #[.int .i64 v.fCode, .int .i64 v.fAt, .int .i64 v.fBase, q3] 83 (alloc_at rfl) hf2.out ha2.out ?_))
                intro w3 hp3
                have hB3 := hp3.below ((Below.refl _ _).alloc (Nat.le_refl _) _) (Nat.le_refl _)
                have lw3 : w2.heap.size < w3.heap.size := by rw [hp3.size]; simp
                have HY := Lib.hid hp3.row
                replace HX := Lib.hid ((hB3.block _ lw2).trans HX.out)
                have lx : wr.heap.size < w3.heap.size := Nat.lt_of_lt_of_le lw2 hB3.size
                have ly : w2.heap.size < w3.heap.size := lw3
                replace HA := Lib.hid ((hB3.block (w.heap.size) (by have := hZ; omega)).trans HA.out)
                replace HB := Lib.hid ((hB3.block (w.heap.size + 1) (by have := hZ; omega)).trans HB.out)
                replace hZ := Nat.lt_of_lt_of_le hZ hB3.size
                replace hV := hV.trans (hB3.mono hV.size)
                clear cA cB
                have cA := row_cell HA.out
                have cB := row_cell HB.out
                have hI := hB2.trans (hB3.mono hB2.size)
                have cX := row_cell HX.out
                have cY := row_cell HY.out
                by_cases e6 : u.fCode = v.fCode
                · skip
                  have be6 : (u.fCode != v.fCode) = false := by simp [e6]
                  have bbe6 : (u.fCode == v.fCode) = true := by simp [e6]
                  have Ee6 := Lib.hid e6
                  clear e6
                  by_cases e7 : u.fAt = v.fAt
                  · skip
                    have be7 : (u.fAt != v.fAt) = false := by simp [e7]
                    have bbe7 : (u.fAt == v.fAt) = true := by simp [e7]
                    have Ee7 := Lib.hid e7
                    clear e7
                    by_cases e8 : u.fBase = v.fBase
                    · skip
                      have be8 : (u.fBase != v.fBase) = false := by simp [e8]
                      have bbe8 : (u.fBase == v.fBase) = true := by simp [e8]
                      have Ee8 := Lib.hid e8
                      clear e8
                      go_wp2_with fail
                      refine (specl42Same_c u.fSlots v.fSlots _ K (fun b hb => Nat.lt_of_lt_of_le (hK b hb) hV.size) _ _ (Rep.ext hI hK' rhSlots) (Rep.ext hI hK' skSlots)).mono ?_
                      rintro e w4 ⟨rfl, hB4⟩
                      replace HX := Lib.hid ((hB4.block _ lx).trans HX.out)
                      replace HY := Lib.hid ((hB4.block _ ly).trans HY.out)
                      replace lx := Nat.lt_of_lt_of_le lx hB4.size
                      replace ly := Nat.lt_of_lt_of_le ly hB4.size
                      replace hI := hI.trans (hB4.mono hI.size)
                      clear cX cY
                      have cX := row_cell HX.out
                      have cY := row_cell HY.out
                      replace HA := Lib.hid ((hB4.block (w.heap.size) (by have := hZ; omega)).trans HA.out)
                      replace HB := Lib.hid ((hB4.block (w.heap.size + 1) (by have := hZ; omega)).trans HB.out)
                      replace hZ := Nat.lt_of_lt_of_le hZ hB4.size
                      replace hV := hV.trans (hB4.mono hV.size)
                      clear cA cB
                      have cA := row_cell HA.out
                      have cB := row_cell HB.out
                      by_cases e9 : u.fSlots = v.fSlots
                      · skip
                        rw [deq_eq e9]
                        have Ee9 := Lib.hid e9
                        clear e9
                        have Hq : Hid (u = v) := TFrame.ext Ee6.out Ee7.out Ee8.out Ee9.out
                        go_wp2
                        go_roundw
                        case rel =>
                          refine ⟨n + 1, hlt, by go_num, ?_, hV, hZ, HA, HB⟩
                          have e := Hs.out
                          rw [Hd.out, Hd'.out, Hq.out, deq_cons] at e
                          exact e
                        case measure => simp [intOf]; omega
                      · skip
                        rw [deq_ne e9]
                        have Ee9 := Lib.hid e9
                        clear e9
                        have Hq : Hid (¬ u = v) := fun q => Ee9.out (congrArg (·.fSlots) q)
                        have e := Hs.out
                        rw [Hd.out, Hd'.out, deq_ne (fun q => Hq.out (List.cons.inj q).1)] at e
                        have Hf := Lib.hid e
                        clear e
                        go_wp2
                        go_ret
                        refine ⟨ret_bool ?_, hV⟩
                        rw [deq_ne (fun q => ?_)]
                        have := Hf.out
                        rw [q, deq_eq rfl] at this
                        cases this
                    · skip
                      have be8 : (u.fBase != v.fBase) = true := by simpa using e8
                      have bbe8 : (u.fBase == v.fBase) = false := by simpa using e8
                      have Ee8 := Lib.hid e8
                      clear e8
                      have Hq : Hid (¬ u = v) := fun q => Ee8.out (congrArg (·.fBase) q)
                      have e := Hs.out
                      rw [Hd.out, Hd'.out, deq_ne (fun q => Hq.out (List.cons.inj q).1)] at e
                      have Hf := Lib.hid e
                      clear e
                      go_wp2
                      go_ret
                      refine ⟨ret_bool ?_, hV⟩
                      rw [deq_ne (fun q => ?_)]
                      have := Hf.out
                      rw [q, deq_eq rfl] at this
                      cases this
                  · skip
                    have be7 : (u.fAt != v.fAt) = true := by simpa using e7
                    have bbe7 : (u.fAt == v.fAt) = false := by simpa using e7
                    have Ee7 := Lib.hid e7
                    clear e7
                    have Hq : Hid (¬ u = v) := fun q => Ee7.out (congrArg (·.fAt) q)
                    have e := Hs.out
                    rw [Hd.out, Hd'.out, deq_ne (fun q => Hq.out (List.cons.inj q).1)] at e
                    have Hf := Lib.hid e
                    clear e
                    go_wp2
                    go_ret
                    refine ⟨ret_bool ?_, hV⟩
                    rw [deq_ne (fun q => ?_)]
                    have := Hf.out
                    rw [q, deq_eq rfl] at this
                    cases this
                · skip
                  have be6 : (u.fCode != v.fCode) = true := by simpa using e6
                  have bbe6 : (u.fCode == v.fCode) = false := by simpa using e6
                  have Ee6 := Lib.hid e6
                  clear e6
                  have Hq : Hid (¬ u = v) := fun q => Ee6.out (congrArg (·.fCode) q)
                  have e := Hs.out
                  rw [Hd.out, Hd'.out, deq_ne (fun q => Hq.out (List.cons.inj q).1)] at e
                  have Hf := Lib.hid e
                  clear e
                  go_wp2
                  go_ret
                  refine ⟨ret_bool ?_, hV⟩
                  rw [deq_ne (fun q => ?_)]
                  have := Hf.out
                  rw [q, deq_eq rfl] at this
                  cases this
              · skip
                obtain rfl : n = x.fFrames.length := by omega
                have e10 : x.fFrames = y.fFrames := by
                  have e := Hs.out
                  rw [List.drop_length, List.drop_eq_nil_of_le (by omega), deq_eq rfl] at e
                  exact of_deq e.symm
                have Ee10 := Lib.hid e10
                clear e10
                clear hlt Hs hn
                go_wp2
                go_ret
                exact ⟨ret_bool (deq_eq (TVM.ext Ee4.out Ee10.out Ee1.out Ee2.out Ee3.out)).symm, hV⟩
          · skip
            have be5 : (x.fFrames.length != y.fFrames.length) = true := by simpa using e5
            have bie5 : ((x.fFrames.length : Int) != (y.fFrames.length : Int)) = true := by simp; omega
            have Ee5 := Lib.hid e5
            clear e5
            go_wp2
            go_ret
            exact ⟨ret_bool (deq_ne (fun q => (fun q => Ee5.out (congrArg List.length q)) (congrArg (·.fFrames) q))).symm, hV⟩
        · skip
          rw [deq_ne e4]
          have Ee4 := Lib.hid e4
          clear e4
          go_wp2
          go_ret
          exact ⟨ret_bool (deq_ne (fun q => Ee4.out (congrArg (·.fStack) q))).symm, hV⟩
      · skip
        have be3 := Bool.eq_not.2 e3
        simp only [be3] at hV hZ HA HB
        have Ee3 := Lib.hid e3
        clear e3
        go_wp2
        go_ret
        exact ⟨ret_bool (deq_ne (fun q => Ee3.out (congrArg (·.fDone) q))).symm, hV⟩
    · skip
      have be2 : (x.fCode != y.fCode) = true := by simpa using e2
      have bbe2 : (x.fCode == y.fCode) = false := by simpa using e2
      have Ee2 := Lib.hid e2
      clear e2
      go_wp2
      go_ret
      exact ⟨ret_bool (deq_ne (fun q => Ee2.out (congrArg (·.fCode) q))).symm, hV⟩
  · skip
    have be1 : (x.fCalls != y.fCalls) = true := by simpa using e1
    have bbe1 : (x.fCalls == y.fCalls) = false := by simpa using e1
    have Ee1 := Lib.hid e1
    clear e1
    go_wp2
    go_ret
    exact ⟨ret_bool (deq_ne (fun q => Ee1.out (congrArg (·.fCalls) q))).symm, hV⟩
set_option maxRecDepth 100000 in
set_option maxHeartbeats 10000000 in
theorem slicesEqualInt_c (l m : List Int) : ∀ (w : World) (K : Nat → Prop) (_ : ∀ b, K b → b < w.heap.size) (u v : Value) (_ : Rep w K (.sl (l.map encI)) [u]) (_ : Rep w K (.sl (m.map encI)) [v]),
    Calls Try.prog 135 #[u, v] w fun e w' => e = .returned (.bool (deq l m)) ∧ Below w.heap.size w w' := by
  intro w K hK u v h k
  obtain ⟨a, cap, rfl, hc, hm, -, hE⟩ := open_sl encI_w h
  obtain ⟨a', cap', rfl, hc', hm', -, hE'⟩ := open_sl encI_w k
  unfold maxLen at hm hm'
  clear h k
  by_cases hl : l.length = m.length
  · skip
    have bhl : (l.length != m.length) = false := by simp [hl]
    have bihl : ((l.length : Int) != (m.length : Int)) = false := by simp [hl]
    have hahl : l.length ≤ m.length := by omega
    have hbhl : m.length ≤ l.length := by omega
    have Hl0 := Lib.hid hl
    clear hl
    have Hg : Hid (deq (l.drop 0) (m.drop 0) = deq l m) := rfl
    go_enter Try.func135, Try.ntmps135
    go_wp2
    go_loopw [13] (fun i wr => ∃ (n : Nat), n ≤ l.length ∧ i = .int .i64 n ∧ Hid (deq (l.drop n) (m.drop n) = deq l m) ∧ Below w.heap.size w wr) (fun i _ => l.length - (intOf i).toNat)
    case atStart => exact ⟨0, Nat.zero_le _, rfl, Hg, Below.refl _ _⟩
    case round =>
      clear Hg
      obtain ⟨n, hn, rfl, Hs, hV⟩ := hrel
      by_cases hlt : n < l.length
      · skip
        have hlt' : n < m.length := by omega
        obtain ⟨b1, off1, rfl, hKb, cs, hcs, hr⟩ := hE n hlt
        obtain ⟨b2, off2, rfl, hKb', cs', hcs', hr'⟩ := hE' n hlt'
        have gcs := hcs.ext hV (hK b1 hKb)
        have gcs' := hcs'.ext hV (hK b2 hKb')
        have gr := Rep.ext hV hK hr
        have gr' := Rep.ext hV hK hr'
        have hK' : ∀ b, K b → b < wr.heap.size := fun b h => Nat.lt_of_lt_of_le (hK b h) hV.size
        have hmem : l[n] ∈ l := List.getElem_mem hlt
        have Hd : Hid (l.drop n = l[n] :: l.drop (n + 1)) := List.drop_eq_getElem_cons hlt
        have Hd' : Hid (m.drop n = m[n] :: m.drop (n + 1)) := List.drop_eq_getElem_cons hlt'
        clear hcs hcs' hr hr'
        generalize l[n] = u at *
        generalize m[n] = v at *
        simp only [encI, Rep] at gr gr'
        obtain ⟨rfl, -⟩ := gr
        obtain ⟨rfl, -⟩ := gr'
        have hI0 : Below wr.heap.size wr wr.drew := (Below.refl _ _).drew
        have k0_ : ∀ w', Below wr.heap.size wr w' → w'.cell? ⟨b1, off1 + n, none⟩ = some (.int .i64 u) := fun w' h => by simpa using (gcs.ext h (hK' b1 hKb)) 0 _ rfl
        have k1_ : ∀ w', Below wr.heap.size wr w' → w'.cell? ⟨b2, off2 + n, none⟩ = some (.int .i64 v) := fun w' h => by simpa using (gcs'.ext h (hK' b2 hKb')) 0 _ rfl
        clear gcs gcs'
        by_cases e1 : u = v
        · skip
          have be1 : (u != v) = false := by simp [e1]
          have bbe1 : (u == v) = true := by simp [e1]
          have Hq := Lib.hid e1
          clear e1
          go_wp2_with fail
          refine rg 9 (Below wr.heap.size wr) (by kernel_rfl) rfl ?_
          refine rg_seg (fuel := 0) [0, 1, 2, 3, 4, 5, 6, 7, 8] hI0 (by kernel_rfl) rfl ?_
          simp only [pick, List.getElem?_cons_zero, List.getElem?_cons_succ]
          refine sg_fix _ rfl (fun w' hI => by have := k0_ w' hI; have := k1_ w' hI; go_simp; rfl) ?_; simp only [Act.put, List.setIfInBounds_toArray, List.set_cons_zero, List.set_cons_succ]
          refine sg_fix _ rfl (fun w' hI => by have := k0_ w' hI; have := k1_ w' hI; go_simp; rfl) ?_; simp only [Act.put, List.setIfInBounds_toArray, List.set_cons_zero, List.set_cons_succ]
          refine sg_fix _ rfl (fun w' hI => by have := k0_ w' hI; have := k1_ w' hI; go_simp; rfl) ?_; simp only [Act.put, List.setIfInBounds_toArray, List.set_cons_zero, List.set_cons_succ]
          refine sg_fix _ rfl (fun w' hI => by have := k0_ w' hI; have := k1_ w' hI; go_simp; rfl) ?_; simp only [Act.put, List.setIfInBounds_toArray, List.set_cons_zero, List.set_cons_succ]
          refine sg_fix _ rfl (fun w' hI => by have := k0_ w' hI; have := k1_ w' hI; go_simp; rfl) ?_; simp only [Act.put, List.setIfInBounds_toArray, List.set_cons_zero, List.set_cons_succ]
          refine sg_fix _ rfl (fun w' hI => by have := k0_ w' hI; have := k1_ w' hI; go_simp; rfl) ?_; simp only [Act.put, List.setIfInBounds_toArray, List.set_cons_zero, List.set_cons_succ]
          refine sg_fix _ rfl (fun w' hI => by have := k0_ w' hI; have := k1_ w' hI; go_simp; rfl) ?_; simp only [Act.put, List.setIfInBounds_toArray, List.set_cons_zero, List.set_cons_succ]
          refine sg_fix _ rfl (fun w' hI => by have := k0_ w' hI; have := k1_ w' hI; go_simp; rfl) ?_; simp only [Act.put, List.setIfInBounds_toArray, List.set_cons_zero, List.set_cons_succ]
          refine sg_fix _ rfl (fun w' hI => by have := k0_ w' hI; have := k1_ w' hI; go_simp; rfl) ?_; simp only [Act.put, List.setIfInBounds_toArray, List.set_cons_zero, List.set_cons_succ]
          refine sg_nil (rg_end (by kernel_rfl) ?_)
          replace hV := hV.trans (hI0.mono hV.size)
          go_wp2
          go_roundw
          case rel =>
            refine ⟨n + 1, hlt, by go_num, ?_, hV⟩
            have e := Hs.out
            rw [Hd.out, Hd'.out, Hq.out, deq_cons] at e
            exact e
          case measure => simp [intOf]; omega
        · skip
          have be1 : (u != v) = true := by simpa using e1
          have bbe1 : (u == v) = false := by simpa using e1
          have Hq := Lib.hid e1
          clear e1
          go_wp2_with fail
          refine rg 9 (Below wr.heap.size wr) (by kernel_rfl) rfl ?_
          refine rg_seg (fuel := 0) [0, 1, 2, 3, 4, 5, 6, 7, 8] hI0 (by kernel_rfl) rfl ?_
          simp only [pick, List.getElem?_cons_zero, List.getElem?_cons_succ]
          refine sg_fix _ rfl (fun w' hI => by have := k0_ w' hI; have := k1_ w' hI; go_simp; rfl) ?_; simp only [Act.put, List.setIfInBounds_toArray, List.set_cons_zero, List.set_cons_succ]
          refine sg_fix _ rfl (fun w' hI => by have := k0_ w' hI; have := k1_ w' hI; go_simp; rfl) ?_; simp only [Act.put, List.setIfInBounds_toArray, List.set_cons_zero, List.set_cons_succ]
          refine sg_fix _ rfl (fun w' hI => by have := k0_ w' hI; have := k1_ w' hI; go_simp; rfl) ?_; simp only [Act.put, List.setIfInBounds_toArray, List.set_cons_zero, List.set_cons_succ]
          refine sg_fix _ rfl (fun w' hI => by have := k0_ w' hI; have := k1_ w' hI; go_simp; rfl) ?_; simp only [Act.put, List.setIfInBounds_toArray, List.set_cons_zero, List.set_cons_succ]
          refine sg_fix _ rfl (fun w' hI => by have := k0_ w' hI; have := k1_ w' hI; go_simp; rfl) ?_; simp only [Act.put, List.setIfInBounds_toArray, List.set_cons_zero, List.set_cons_succ]
          refine sg_fix _ rfl (fun w' hI => by have := k0_ w' hI; have := k1_ w' hI; go_simp; rfl) ?_; simp only [Act.put, List.setIfInBounds_toArray, List.set_cons_zero, List.set_cons_succ]
          refine sg_fix _ rfl (fun w' hI => by have := k0_ w' hI; have := k1_ w' hI; go_simp; rfl) ?_; simp only [Act.put, List.setIfInBounds_toArray, List.set_cons_zero, List.set_cons_succ]
          refine sg_fix _ rfl (fun w' hI => by have := k0_ w' hI; have := k1_ w' hI; go_simp; rfl) ?_; simp only [Act.put, List.setIfInBounds_toArray, List.set_cons_zero, List.set_cons_succ]
          refine sg_fix _ rfl (fun w' hI => by have := k0_ w' hI; have := k1_ w' hI; go_simp; rfl) ?_; simp only [Act.put, List.setIfInBounds_toArray, List.set_cons_zero, List.set_cons_succ]
          refine sg_nil (rg_end (by kernel_rfl) ?_)
          replace hV := hV.trans (hI0.mono hV.size)
          have e := Hs.out
          rw [Hd.out, Hd'.out, deq_ne (fun q => Hq.out (List.cons.inj q).1)] at e
          have Hf := Lib.hid e
          clear e
          go_wp2
          go_ret
          exact ⟨ret_bool Hf.out, hV⟩
      · skip
        obtain rfl : n = l.length := by omega
        go_wp2
        go_ret
        refine ⟨ret_bool ?_, hV⟩
        rw [← Hs.out, List.drop_length, List.drop_eq_nil_of_le (by omega)]
        exact (deq_eq rfl).symm
  · skip
    have bhl : (l.length != m.length) = true := by simpa using hl
    have bihl : ((l.length : Int) != (m.length : Int)) = true := by simp; omega
    have Hl0 := Lib.hid hl
    clear hl
    go_enter Try.func135, Try.ntmps135
    go_wp2
    go_ret
    exact ⟨ret_bool (deq_ne (fun q => Hl0.out (congrArg List.length q))).symm, Below.refl _ _⟩
def PimplEqualDictionary (N : Nat) : Prop := ∀ (x y : TDictionary), SizeOf.sizeOf x < N → ∀ (w : World) (K : Nat → Prop) (_ : ∀ b, K b → b < w.heap.size) (cs ds : List Value) (_ : Rep w K x.enc cs) (_ : Rep w K y.enc ds),
    Calls Try.prog 90 #[.agg cs.toArray, .agg ds.toArray] w fun e w' => e = .returned (.bool (deq x y)) ∧ Below w.heap.size w w'
def PslicesEqualFuncDictionary (N : Nat) : Prop := ∀ (l m : List TDictionary), SizeOf.sizeOf l < N → ∀ (w : World) (K : Nat → Prop) (_ : ∀ b, K b → b < w.heap.size) (u v : Value) (_ : Rep w K (.sl (l.map TDictionary.enc)) [u]) (_ : Rep w K (.sl (m.map TDictionary.enc)) [v]),
    Calls Try.prog 136 #[u, v, .func (.func 90) #[] #[]] w fun e w' => e = .returned (.bool (deq l m)) ∧ Below w.heap.size w w'
set_option maxRecDepth 100000 in
set_option maxHeartbeats 10000000 in
theorem stepPimplEqualDictionary (N : Nat) (_iPimplEqualDictionary : PimplEqualDictionary N) (iPslicesEqualFuncDictionary : PslicesEqualFuncDictionary N)  : PimplEqualDictionary (N + 1) := by
  intro x y hN
  intro w K hK cs ds h k
  obtain ⟨c1, c2, c3, c4, rfl, hKind, hAt, hSteps, hArgs⟩ := TDictionary.opn h
  obtain ⟨d1, d2, d3, d4, rfl, kKind, kAt, kSteps, kArgs⟩ := TDictionary.opn k
  clear h k
  clear hKind kKind
  obtain ⟨hq, -⟩ := TInstanceRef.opn hAt
  simp only [List.cons.injEq, and_true] at hq
  obtain ⟨rfl, rfl⟩ := hq
  obtain ⟨hq, -⟩ := TInstanceRef.opn kAt
  simp only [List.cons.injEq, and_true] at hq
  obtain ⟨rfl, rfl⟩ := hq
  clear hAt kAt
  have hV : Below w.heap.size w ((w.alloc (.cells #[.int .i64 x.fKind, .int .i64 x.fAt.fPackage, .int .i64 x.fAt.fAt, c3, c4] 91)).alloc (.cells #[.int .i64 y.fKind, .int .i64 y.fAt.fPackage, .int .i64 y.fAt.fAt, d3, d4] 91)) := ((Below.refl _ _).alloc (Nat.le_refl _) _).alloc (by simp) _
  have hZ : w.heap.size + 1 < ((w.alloc (.cells #[.int .i64 x.fKind, .int .i64 x.fAt.fPackage, .int .i64 x.fAt.fAt, c3, c4] 91)).alloc (.cells #[.int .i64 y.fKind, .int .i64 y.fAt.fPackage, .int .i64 y.fAt.fAt, d3, d4] 91)).heap.size := by simp
  have HA := Lib.hid (show ((w.alloc (.cells #[.int .i64 x.fKind, .int .i64 x.fAt.fPackage, .int .i64 x.fAt.fAt, c3, c4] 91)).alloc (.cells #[.int .i64 y.fKind, .int .i64 y.fAt.fPackage, .int .i64 y.fAt.fAt, d3, d4] 91)).heap[w.heap.size]? = some (.cells #[.int .i64 x.fKind, .int .i64 x.fAt.fPackage, .int .i64 x.fAt.fAt, c3, c4] 91 (0, 0)) from alloc_lt (by simp) (alloc_at rfl))
  have HB := Lib.hid (show ((w.alloc (.cells #[.int .i64 x.fKind, .int .i64 x.fAt.fPackage, .int .i64 x.fAt.fAt, c3, c4] 91)).alloc (.cells #[.int .i64 y.fKind, .int .i64 y.fAt.fPackage, .int .i64 y.fAt.fAt, d3, d4] 91)).heap[w.heap.size + 1]? = some (.cells #[.int .i64 y.fKind, .int .i64 y.fAt.fPackage, .int .i64 y.fAt.fAt, d3, d4] 91 (0, 0)) from alloc_at (by simp))
  go_enter Try.func90, Try.ntmps90
  by_cases e1 : x.fKind = y.fKind
  · skip
    have be1 : (x.fKind != y.fKind) = false := by simp [e1]
    have bbe1 : (x.fKind == y.fKind) = true := by simp [e1]
    have Ee1 := Lib.hid e1
    clear e1
    by_cases e3 : x.fAt.fPackage = y.fAt.fPackage
    · skip
      have Ee3 := Lib.hid e3
      simp only [e3] at hV hZ HA HB
      by_cases e4 : x.fAt.fAt = y.fAt.fAt
      · skip
        have Ee4 := Lib.hid e4
        simp only [e4] at hV hZ HA HB
        go_wp2_with fail
        refine (slicesEqualInt_c x.fSteps y.fSteps _ K (fun b hb => Nat.lt_of_lt_of_le (hK b hb) hV.size) _ _ (Rep.ext hV hK hSteps) (Rep.ext hV hK kSteps)).mono ?_
        rintro e w1 ⟨rfl, hB1⟩
        replace HA := Lib.hid ((hB1.block (w.heap.size) (by have := hZ; omega)).trans HA.out)
        replace HB := Lib.hid ((hB1.block (w.heap.size + 1) (by have := hZ; omega)).trans HB.out)
        replace hZ := Nat.lt_of_lt_of_le hZ hB1.size
        replace hV := hV.trans (hB1.mono hV.size)
        have cA := row_cell HA.out
        have cB := row_cell HB.out
        by_cases e5 : x.fSteps = y.fSteps
        · skip
          rw [deq_eq e5]
          have Ee5 := Lib.hid e5
          clear e5
          go_wp2_with fail
          refine (iPslicesEqualFuncDictionary x.fArgs y.fArgs (by have := TDictionary.lt_fArgs x; omega) _ K (fun b hb => Nat.lt_of_lt_of_le (hK b hb) hV.size) _ _ (Rep.ext hV hK hArgs) (Rep.ext hV hK kArgs)).mono ?_
          rintro e w2 ⟨rfl, hB2⟩
          replace HA := Lib.hid ((hB2.block (w.heap.size) (by have := hZ; omega)).trans HA.out)
          replace HB := Lib.hid ((hB2.block (w.heap.size + 1) (by have := hZ; omega)).trans HB.out)
          replace hZ := Nat.lt_of_lt_of_le hZ hB2.size
          replace hV := hV.trans (hB2.mono hV.size)
          clear cA cB
          have cA := row_cell HA.out
          have cB := row_cell HB.out
          by_cases e6 : x.fArgs = y.fArgs
          · skip
            rw [deq_eq e6]
            have Ee6 := Lib.hid e6
            clear e6
            go_wp2
            go_ret
            exact ⟨ret_bool (deq_eq (TDictionary.ext Ee1.out (TInstanceRef.ext Ee3.out Ee4.out) Ee5.out Ee6.out)).symm, hV⟩
          · skip
            rw [deq_ne e6]
            have Ee6 := Lib.hid e6
            clear e6
            go_wp2
            go_ret
            exact ⟨ret_bool (deq_ne (fun q => Ee6.out (congrArg (·.fArgs) q))).symm, hV⟩
        · skip
          rw [deq_ne e5]
          have Ee5 := Lib.hid e5
          clear e5
          go_wp2
          go_ret
          exact ⟨ret_bool (deq_ne (fun q => Ee5.out (congrArg (·.fSteps) q))).symm, hV⟩
      · skip
        have Ee4 := Lib.hid e4
        go_wp2
        go_ret
        exact ⟨ret_bool (deq_ne (fun q => (fun q => Ee4.out (congrArg (·.fAt) q)) (congrArg (·.fAt) q))).symm, hV⟩
    · skip
      have Ee3 := Lib.hid e3
      go_wp2
      go_ret
      exact ⟨ret_bool (deq_ne (fun q => (fun q => Ee3.out (congrArg (·.fPackage) q)) (congrArg (·.fAt) q))).symm, hV⟩
  · skip
    have be1 : (x.fKind != y.fKind) = true := by simpa using e1
    have bbe1 : (x.fKind == y.fKind) = false := by simpa using e1
    have Ee1 := Lib.hid e1
    clear e1
    go_wp2
    go_ret
    exact ⟨ret_bool (deq_ne (fun q => Ee1.out (congrArg (·.fKind) q))).symm, hV⟩
set_option maxRecDepth 100000 in
set_option maxHeartbeats 10000000 in
theorem stepPslicesEqualFuncDictionary (N : Nat) (iPimplEqualDictionary : PimplEqualDictionary N) (_iPslicesEqualFuncDictionary : PslicesEqualFuncDictionary N)  : PslicesEqualFuncDictionary (N + 1) := by
  intro l m hN
  intro w K hK u v h k
  obtain ⟨a, cap, rfl, hc, hm, -, hE⟩ := open_sl TDictionary.width h
  obtain ⟨a', cap', rfl, hc', hm', -, hE'⟩ := open_sl TDictionary.width k
  unfold maxLen at hm hm'
  clear h k
  by_cases hl : l.length = m.length
  · skip
    have bhl : (l.length != m.length) = false := by simp [hl]
    have bihl : ((l.length : Int) != (m.length : Int)) = false := by simp [hl]
    have hahl : l.length ≤ m.length := by omega
    have hbhl : m.length ≤ l.length := by omega
    have Hl0 := Lib.hid hl
    clear hl
    have Hg : Hid (deq (l.drop 0) (m.drop 0) = deq l m) := rfl
    go_enter Try.func136, Try.ntmps136
    go_wp2
    go_loopw [17] (fun i wr => ∃ (n : Nat), n ≤ l.length ∧ i = .int .i64 n ∧ Hid (deq (l.drop n) (m.drop n) = deq l m) ∧ Below w.heap.size w wr) (fun i _ => l.length - (intOf i).toNat)
    case atStart => exact ⟨0, Nat.zero_le _, rfl, Hg, Below.refl _ _⟩
    case round =>
      clear Hg
      obtain ⟨n, hn, rfl, Hs, hV⟩ := hrel
      by_cases hlt : n < l.length
      · skip
        have hlt' : n < m.length := by omega
        obtain ⟨b1, off1, rfl, hKb, cs, hcs, hr⟩ := hE n hlt
        obtain ⟨b2, off2, rfl, hKb', cs', hcs', hr'⟩ := hE' n hlt'
        have gcs := hcs.ext hV (hK b1 hKb)
        have gcs' := hcs'.ext hV (hK b2 hKb')
        have gr := Rep.ext hV hK hr
        have gr' := Rep.ext hV hK hr'
        have hK' : ∀ b, K b → b < wr.heap.size := fun b h => Nat.lt_of_lt_of_le (hK b h) hV.size
        have hmem : l[n] ∈ l := List.getElem_mem hlt
        have Hd : Hid (l.drop n = l[n] :: l.drop (n + 1)) := List.drop_eq_getElem_cons hlt
        have Hd' : Hid (m.drop n = m[n] :: m.drop (n + 1)) := List.drop_eq_getElem_cons hlt'
        clear hcs hcs' hr hr'
        generalize l[n] = u at *
        generalize m[n] = v at *
        have hl := (Rep.length _ _ gr).trans (TDictionary.width _)
        have hl' := (Rep.length _ _ gr').trans (TDictionary.width _)
        have hi : (Try.prog.info? 91).map (·.size) = some cs.length := by rw [hl]; exact infoQEqF91
        have hi' : (Try.prog.info? 91).map (·.size) = some cs'.length := by rw [hl']; exact infoQEqF91
        have ho := Rep.one _ _ gr
        have ho' := Rep.one _ _ gr'
        have Hl := Lib.hid hl; have Hl' := Lib.hid hl'
        clear hl hl'
        go_wp2_with (first | (with_reducible refine ld rfl 91 _ rfl b1 _ rfl cs gcs _ Try.underlying91 hi ?_) | (with_reducible refine stA rfl 91 _ _ rfl wr.heap.size 0 rfl cs rfl hi ho _ 91 (alloc_at rfl) (by rw [Hl.out]; decide) ?_))
        intro w1 hst1
        have hB1 := hst1.below ((Below.refl _ _).alloc (Nat.le_refl _) _) (Nat.le_refl _)
        have C1 := hst1.at_
        have l1 : wr.heap.size < w1.heap.size := by rw [hst1.size]; simp
        clear hst1
        have gcs2 := gcs'.ext hB1 (hK' b2 hKb')
        go_wp2_with (first | (with_reducible refine ld rfl 91 _ rfl b2 _ rfl cs' gcs2 _ Try.underlying91 hi' ?_) | (with_reducible refine stA rfl 91 _ _ rfl w1.heap.size 0 rfl cs' rfl hi' ho' _ 91 (alloc_at rfl) (by rw [Hl'.out]; decide) ?_))
        intro w2 hst2
        have hB2 := hst2.below ((Below.refl _ _).alloc (Nat.le_refl _) _) (Nat.le_refl _)
        have C2 := hst2.at_
        clear hst2
        have C1' := C1.ext hB2 l1
        have hI := hB1.trans (hB2.mono hB1.size)
        go_wp2_with (first | (with_reducible refine ld rfl 91 _ rfl wr.heap.size _ rfl cs C1' _ Try.underlying91 hi ?_) | (with_reducible refine ld rfl 91 _ rfl w1.heap.size _ rfl cs' C2 _ Try.underlying91 hi' ?_))
        refine (iPimplEqualDictionary u v (by have hsz := List.sizeOf_lt_of_mem hmem; omega) _ K (fun b hb => Nat.lt_of_lt_of_le (hK' b hb) hI.size) _ _ (Rep.ext hI hK' gr) (Rep.ext hI hK' gr')).mono ?_
        rintro e w3 ⟨rfl, hB3⟩
        replace hV := hV.trans ((hI.trans (hB3.mono hI.size)).mono hV.size)
        by_cases e1 : u = v
        · skip
          rw [deq_eq e1]
          have Hq := Lib.hid e1
          clear e1
          go_wp2
          go_roundw
          case rel =>
            refine ⟨n + 1, hlt, by go_num, ?_, hV⟩
            have e := Hs.out
            rw [Hd.out, Hd'.out, Hq.out, deq_cons] at e
            exact e
          case measure => simp [intOf]; omega
        · skip
          rw [deq_ne e1]
          have Hq := Lib.hid e1
          clear e1
          have e := Hs.out
          rw [Hd.out, Hd'.out, deq_ne (fun q => Hq.out (List.cons.inj q).1)] at e
          have Hf := Lib.hid e
          clear e
          go_wp2
          go_ret
          exact ⟨ret_bool Hf.out, hV⟩
      · skip
        obtain rfl : n = l.length := by omega
        go_wp2
        go_ret
        refine ⟨ret_bool ?_, hV⟩
        rw [← Hs.out, List.drop_length, List.drop_eq_nil_of_le (by omega)]
        exact (deq_eq rfl).symm
  · skip
    have bhl : (l.length != m.length) = true := by simpa using hl
    have bihl : ((l.length : Int) != (m.length : Int)) = true := by simp; omega
    have Hl0 := Lib.hid hl
    clear hl
    go_enter Try.func136, Try.ntmps136
    go_wp2
    go_ret
    exact ⟨ret_bool (deq_ne (fun q => Hl0.out (congrArg List.length q))).symm, Below.refl _ _⟩
theorem PimplEqualDictionary_all : ∀ N : Nat, PimplEqualDictionary N ∧ PslicesEqualFuncDictionary N
  | 0 => ⟨fun _ _ h => absurd h (Nat.not_lt_zero _), fun _ _ h => absurd h (Nat.not_lt_zero _)⟩
  | N + 1 => by
    obtain ⟨i0, i1⟩ := PimplEqualDictionary_all N
    have j0 := stepPimplEqualDictionary N i0 i1
    have j1 := stepPslicesEqualFuncDictionary N i0 i1
    exact ⟨j0, j1⟩
theorem implEqualDictionary_c (x y : TDictionary) : ∀ (w : World) (K : Nat → Prop) (_ : ∀ b, K b → b < w.heap.size) (cs ds : List Value) (_ : Rep w K x.enc cs) (_ : Rep w K y.enc ds),
    Calls Try.prog 90 #[.agg cs.toArray, .agg ds.toArray] w fun e w' => e = .returned (.bool (deq x y)) ∧ Below w.heap.size w w' := (PimplEqualDictionary_all (SizeOf.sizeOf x + 1)).1 x y (Nat.lt_succ_self _)
theorem slicesEqualFuncDictionary_c (l m : List TDictionary) : ∀ (w : World) (K : Nat → Prop) (_ : ∀ b, K b → b < w.heap.size) (u v : Value) (_ : Rep w K (.sl (l.map TDictionary.enc)) [u]) (_ : Rep w K (.sl (m.map TDictionary.enc)) [v]),
    Calls Try.prog 136 #[u, v, .func (.func 90) #[] #[]] w fun e w' => e = .returned (.bool (deq l m)) ∧ Below w.heap.size w w' := (PimplEqualDictionary_all (SizeOf.sizeOf l + 1)).2 l m (Nat.lt_succ_self _)
def PslicesEqualFuncValue (N : Nat) : Prop := ∀ (l m : List TValue), SizeOf.sizeOf l < N → ∀ (w : World) (K : Nat → Prop) (_ : ∀ b, K b → b < w.heap.size) (u v : Value) (_ : Rep w K (.sl (l.map TValue.enc)) [u]) (_ : Rep w K (.sl (m.map TValue.enc)) [v]),
    Calls Try.prog 41 #[u, v, .func (.func 42) #[] #[]] w fun e w' => e = .returned (.bool (deq l m)) ∧ Below w.heap.size w w'
def PimplEqualValue (N : Nat) : Prop := ∀ (x y : TValue), SizeOf.sizeOf x < N → ∀ (w : World) (K : Nat → Prop) (_ : ∀ b, K b → b < w.heap.size) (cs ds : List Value) (_ : Rep w K x.enc cs) (_ : Rep w K y.enc ds),
    Calls Try.prog 42 #[.agg cs.toArray, .agg ds.toArray] w fun e w' => e = .returned (.bool (deq x y)) ∧ Below w.heap.size w w'
set_option maxRecDepth 100000 in
set_option maxHeartbeats 10000000 in
theorem stepPslicesEqualFuncValue (N : Nat) (_iPslicesEqualFuncValue : PslicesEqualFuncValue N) (iPimplEqualValue : PimplEqualValue N)  : PslicesEqualFuncValue (N + 1) := by
  intro l m hN
  intro w K hK u v h k
  obtain ⟨a, cap, rfl, hc, hm, -, hE⟩ := open_sl TValue.width h
  obtain ⟨a', cap', rfl, hc', hm', -, hE'⟩ := open_sl TValue.width k
  unfold maxLen at hm hm'
  clear h k
  by_cases hl : l.length = m.length
  · skip
    have bhl : (l.length != m.length) = false := by simp [hl]
    have bihl : ((l.length : Int) != (m.length : Int)) = false := by simp [hl]
    have hahl : l.length ≤ m.length := by omega
    have hbhl : m.length ≤ l.length := by omega
    have Hl0 := Lib.hid hl
    clear hl
    have Hg : Hid (deq (l.drop 0) (m.drop 0) = deq l m) := rfl
    go_enter Try.func41, Try.ntmps41
    go_wp2
    go_loopw [17] (fun i wr => ∃ (n : Nat), n ≤ l.length ∧ i = .int .i64 n ∧ Hid (deq (l.drop n) (m.drop n) = deq l m) ∧ Below w.heap.size w wr) (fun i _ => l.length - (intOf i).toNat)
    case atStart => exact ⟨0, Nat.zero_le _, rfl, Hg, Below.refl _ _⟩
    case round =>
      clear Hg
      obtain ⟨n, hn, rfl, Hs, hV⟩ := hrel
      by_cases hlt : n < l.length
      · skip
        have hlt' : n < m.length := by omega
        obtain ⟨b1, off1, rfl, hKb, cs, hcs, hr⟩ := hE n hlt
        obtain ⟨b2, off2, rfl, hKb', cs', hcs', hr'⟩ := hE' n hlt'
        have gcs := hcs.ext hV (hK b1 hKb)
        have gcs' := hcs'.ext hV (hK b2 hKb')
        have gr := Rep.ext hV hK hr
        have gr' := Rep.ext hV hK hr'
        have hK' : ∀ b, K b → b < wr.heap.size := fun b h => Nat.lt_of_lt_of_le (hK b h) hV.size
        have hmem : l[n] ∈ l := List.getElem_mem hlt
        have Hd : Hid (l.drop n = l[n] :: l.drop (n + 1)) := List.drop_eq_getElem_cons hlt
        have Hd' : Hid (m.drop n = m[n] :: m.drop (n + 1)) := List.drop_eq_getElem_cons hlt'
        clear hcs hcs' hr hr'
        generalize l[n] = u at *
        generalize m[n] = v at *
        have hl := (Rep.length _ _ gr).trans (TValue.width _)
        have hl' := (Rep.length _ _ gr').trans (TValue.width _)
        have hi : (Try.prog.info? 93).map (·.size) = some cs.length := by rw [hl]; exact infoQEqF93
        have hi' : (Try.prog.info? 93).map (·.size) = some cs'.length := by rw [hl']; exact infoQEqF93
        have ho := Rep.one _ _ gr
        have ho' := Rep.one _ _ gr'
        have Hl := Lib.hid hl; have Hl' := Lib.hid hl'
        clear hl hl'
        go_wp2_with (first | (with_reducible refine ld rfl 93 _ rfl b1 _ rfl cs gcs _ Try.underlying93 hi ?_) | (with_reducible refine stA rfl 93 _ _ rfl wr.heap.size 0 rfl cs rfl hi ho _ 93 (alloc_at rfl) (by rw [Hl.out]; decide) ?_))
        intro w1 hst1
        have hB1 := hst1.below ((Below.refl _ _).alloc (Nat.le_refl _) _) (Nat.le_refl _)
        have C1 := hst1.at_
        have l1 : wr.heap.size < w1.heap.size := by rw [hst1.size]; simp
        clear hst1
        have gcs2 := gcs'.ext hB1 (hK' b2 hKb')
        go_wp2_with (first | (with_reducible refine ld rfl 93 _ rfl b2 _ rfl cs' gcs2 _ Try.underlying93 hi' ?_) | (with_reducible refine stA rfl 93 _ _ rfl w1.heap.size 0 rfl cs' rfl hi' ho' _ 93 (alloc_at rfl) (by rw [Hl'.out]; decide) ?_))
        intro w2 hst2
        have hB2 := hst2.below ((Below.refl _ _).alloc (Nat.le_refl _) _) (Nat.le_refl _)
        have C2 := hst2.at_
        clear hst2
        have C1' := C1.ext hB2 l1
        have hI := hB1.trans (hB2.mono hB1.size)
        go_wp2_with (first | (with_reducible refine ld rfl 93 _ rfl wr.heap.size _ rfl cs C1' _ Try.underlying93 hi ?_) | (with_reducible refine ld rfl 93 _ rfl w1.heap.size _ rfl cs' C2 _ Try.underlying93 hi' ?_))
        refine (iPimplEqualValue u v (by have hsz := List.sizeOf_lt_of_mem hmem; omega) _ K (fun b hb => Nat.lt_of_lt_of_le (hK' b hb) hI.size) _ _ (Rep.ext hI hK' gr) (Rep.ext hI hK' gr')).mono ?_
        rintro e w3 ⟨rfl, hB3⟩
        replace hV := hV.trans ((hI.trans (hB3.mono hI.size)).mono hV.size)
        by_cases e1 : u = v
        · skip
          rw [deq_eq e1]
          have Hq := Lib.hid e1
          clear e1
          go_wp2
          go_roundw
          case rel =>
            refine ⟨n + 1, hlt, by go_num, ?_, hV⟩
            have e := Hs.out
            rw [Hd.out, Hd'.out, Hq.out, deq_cons] at e
            exact e
          case measure => simp [intOf]; omega
        · skip
          rw [deq_ne e1]
          have Hq := Lib.hid e1
          clear e1
          have e := Hs.out
          rw [Hd.out, Hd'.out, deq_ne (fun q => Hq.out (List.cons.inj q).1)] at e
          have Hf := Lib.hid e
          clear e
          go_wp2
          go_ret
          exact ⟨ret_bool Hf.out, hV⟩
      · skip
        obtain rfl : n = l.length := by omega
        go_wp2
        go_ret
        refine ⟨ret_bool ?_, hV⟩
        rw [← Hs.out, List.drop_length, List.drop_eq_nil_of_le (by omega)]
        exact (deq_eq rfl).symm
  · skip
    have bhl : (l.length != m.length) = true := by simpa using hl
    have bihl : ((l.length : Int) != (m.length : Int)) = true := by simp; omega
    have Hl0 := Lib.hid hl
    clear hl
    go_enter Try.func41, Try.ntmps41
    go_wp2
    go_ret
    exact ⟨ret_bool (deq_ne (fun q => Hl0.out (congrArg List.length q))).symm, Below.refl _ _⟩
set_option maxRecDepth 100000 in
set_option maxHeartbeats 10000000 in
theorem stepPimplEqualValue (N : Nat) (iPslicesEqualFuncValue : PslicesEqualFuncValue N) (_iPimplEqualValue : PimplEqualValue N)  : PimplEqualValue (N + 1) := by
  intro x y hN
  intro w K hK cs ds h k
  obtain ⟨c3, c4, c5, c6, c7, c8, rfl, hKind, hN, hName, hDict, hArgs⟩ := TValue.opn h
  obtain ⟨d3, d4, d5, d6, d7, d8, rfl, kKind, kN, kName, kDict, kArgs⟩ := TValue.opn k
  clear h k
  clear hKind kKind
  clear hN kN
  clear hName kName
  have hV : Below w.heap.size w ((w.alloc (.cells #[.int .i64 x.fKind, .int .i64 x.fN, .string x.fName, c3, c4, c5, c6, c7, c8] 93)).alloc (.cells #[.int .i64 y.fKind, .int .i64 y.fN, .string y.fName, d3, d4, d5, d6, d7, d8] 93)) := ((Below.refl _ _).alloc (Nat.le_refl _) _).alloc (by simp) _
  have hZ : w.heap.size + 1 < ((w.alloc (.cells #[.int .i64 x.fKind, .int .i64 x.fN, .string x.fName, c3, c4, c5, c6, c7, c8] 93)).alloc (.cells #[.int .i64 y.fKind, .int .i64 y.fN, .string y.fName, d3, d4, d5, d6, d7, d8] 93)).heap.size := by simp
  have HA := Lib.hid (show ((w.alloc (.cells #[.int .i64 x.fKind, .int .i64 x.fN, .string x.fName, c3, c4, c5, c6, c7, c8] 93)).alloc (.cells #[.int .i64 y.fKind, .int .i64 y.fN, .string y.fName, d3, d4, d5, d6, d7, d8] 93)).heap[w.heap.size]? = some (.cells #[.int .i64 x.fKind, .int .i64 x.fN, .string x.fName, c3, c4, c5, c6, c7, c8] 93 (0, 0)) from alloc_lt (by simp) (alloc_at rfl))
  have HB := Lib.hid (show ((w.alloc (.cells #[.int .i64 x.fKind, .int .i64 x.fN, .string x.fName, c3, c4, c5, c6, c7, c8] 93)).alloc (.cells #[.int .i64 y.fKind, .int .i64 y.fN, .string y.fName, d3, d4, d5, d6, d7, d8] 93)).heap[w.heap.size + 1]? = some (.cells #[.int .i64 y.fKind, .int .i64 y.fN, .string y.fName, d3, d4, d5, d6, d7, d8] 93 (0, 0)) from alloc_at (by simp))
  go_enter Try.func42, Try.ntmps42
  by_cases e1 : x.fKind = y.fKind
  · skip
    have be1 : (x.fKind != y.fKind) = false := by simp [e1]
    have bbe1 : (x.fKind == y.fKind) = true := by simp [e1]
    have Ee1 := Lib.hid e1
    clear e1
    by_cases e2 : x.fN = y.fN
    · skip
      have be2 : (x.fN != y.fN) = false := by simp [e2]
      have bbe2 : (x.fN == y.fN) = true := by simp [e2]
      have Ee2 := Lib.hid e2
      clear e2
      by_cases e3 : x.fName = y.fName
      · skip
        have be3 : (!x.fName.toList == y.fName.toList) = false := by simp [e3]
        have bbe3 : (x.fName.toList == y.fName.toList) = true := by simp [e3]
        have Ee3 := Lib.hid e3
        clear e3
        go_wp2_with fail
        refine (implEqualDictionary_c x.fDict y.fDict _ K (fun b hb => Nat.lt_of_lt_of_le (hK b hb) hV.size) _ _ (Rep.ext hV hK hDict) (Rep.ext hV hK kDict)).mono ?_
        rintro e w1 ⟨rfl, hB1⟩
        replace HA := Lib.hid ((hB1.block (w.heap.size) (by have := hZ; omega)).trans HA.out)
        replace HB := Lib.hid ((hB1.block (w.heap.size + 1) (by have := hZ; omega)).trans HB.out)
        replace hZ := Nat.lt_of_lt_of_le hZ hB1.size
        replace hV := hV.trans (hB1.mono hV.size)
        have cA := row_cell HA.out
        have cB := row_cell HB.out
        by_cases e4 : x.fDict = y.fDict
        · skip
          rw [deq_eq e4]
          have Ee4 := Lib.hid e4
          clear e4
          go_wp2_with fail
          refine (iPslicesEqualFuncValue x.fArgs y.fArgs (by have := TValue.lt_fArgs x; omega) _ K (fun b hb => Nat.lt_of_lt_of_le (hK b hb) hV.size) _ _ (Rep.ext hV hK hArgs) (Rep.ext hV hK kArgs)).mono ?_
          rintro e w2 ⟨rfl, hB2⟩
          replace HA := Lib.hid ((hB2.block (w.heap.size) (by have := hZ; omega)).trans HA.out)
          replace HB := Lib.hid ((hB2.block (w.heap.size + 1) (by have := hZ; omega)).trans HB.out)
          replace hZ := Nat.lt_of_lt_of_le hZ hB2.size
          replace hV := hV.trans (hB2.mono hV.size)
          clear cA cB
          have cA := row_cell HA.out
          have cB := row_cell HB.out
          by_cases e5 : x.fArgs = y.fArgs
          · skip
            rw [deq_eq e5]
            have Ee5 := Lib.hid e5
            clear e5
            go_wp2
            go_ret
            exact ⟨ret_bool (deq_eq (TValue.ext Ee1.out Ee2.out Ee3.out Ee4.out Ee5.out)).symm, hV⟩
          · skip
            rw [deq_ne e5]
            have Ee5 := Lib.hid e5
            clear e5
            go_wp2
            go_ret
            exact ⟨ret_bool (deq_ne (fun q => Ee5.out (congrArg (·.fArgs) q))).symm, hV⟩
        · skip
          rw [deq_ne e4]
          have Ee4 := Lib.hid e4
          clear e4
          go_wp2
          go_ret
          exact ⟨ret_bool (deq_ne (fun q => Ee4.out (congrArg (·.fDict) q))).symm, hV⟩
      · skip
        have be3 : (!x.fName.toList == y.fName.toList) = true := by simpa using fun q => e3 (ba_ext q)
        have bbe3 : (x.fName.toList == y.fName.toList) = false := by simpa using fun q => e3 (ba_ext q)
        have Ee3 := Lib.hid e3
        clear e3
        go_wp2
        go_ret
        exact ⟨ret_bool (deq_ne (fun q => Ee3.out (congrArg (·.fName) q))).symm, hV⟩
    · skip
      have be2 : (x.fN != y.fN) = true := by simpa using e2
      have bbe2 : (x.fN == y.fN) = false := by simpa using e2
      have Ee2 := Lib.hid e2
      clear e2
      go_wp2
      go_ret
      exact ⟨ret_bool (deq_ne (fun q => Ee2.out (congrArg (·.fN) q))).symm, hV⟩
  · skip
    have be1 : (x.fKind != y.fKind) = true := by simpa using e1
    have bbe1 : (x.fKind == y.fKind) = false := by simpa using e1
    have Ee1 := Lib.hid e1
    clear e1
    go_wp2
    go_ret
    exact ⟨ret_bool (deq_ne (fun q => Ee1.out (congrArg (·.fKind) q))).symm, hV⟩
theorem PslicesEqualFuncValue_all : ∀ N : Nat, PslicesEqualFuncValue N ∧ PimplEqualValue N
  | 0 => ⟨fun _ _ h => absurd h (Nat.not_lt_zero _), fun _ _ h => absurd h (Nat.not_lt_zero _)⟩
  | N + 1 => by
    obtain ⟨i0, i1⟩ := PslicesEqualFuncValue_all N
    have j0 := stepPslicesEqualFuncValue N i0 i1
    have j1 := stepPimplEqualValue N i0 i1
    exact ⟨j0, j1⟩
theorem slicesEqualFuncValue_c (l m : List TValue) : ∀ (w : World) (K : Nat → Prop) (_ : ∀ b, K b → b < w.heap.size) (u v : Value) (_ : Rep w K (.sl (l.map TValue.enc)) [u]) (_ : Rep w K (.sl (m.map TValue.enc)) [v]),
    Calls Try.prog 41 #[u, v, .func (.func 42) #[] #[]] w fun e w' => e = .returned (.bool (deq l m)) ∧ Below w.heap.size w w' := (PslicesEqualFuncValue_all (SizeOf.sizeOf l + 1)).1 l m (Nat.lt_succ_self _)
theorem implEqualValue_c (x y : TValue) : ∀ (w : World) (K : Nat → Prop) (_ : ∀ b, K b → b < w.heap.size) (cs ds : List Value) (_ : Rep w K x.enc cs) (_ : Rep w K y.enc ds),
    Calls Try.prog 42 #[.agg cs.toArray, .agg ds.toArray] w fun e w' => e = .returned (.bool (deq x y)) ∧ Below w.heap.size w w' := (PslicesEqualFuncValue_all (SizeOf.sizeOf x + 1)).2 x y (Nat.lt_succ_self _)
set_option maxRecDepth 100000 in
set_option maxHeartbeats 10000000 in
theorem implEqualVMF_c (x y : TFrame) : ∀ (w : World) (K : Nat → Prop) (_ : ∀ b, K b → b < w.heap.size) (cs ds : List Value) (_ : Rep w K x.enc cs) (_ : Rep w K y.enc ds),
    Calls Try.prog 44 #[.agg cs.toArray, .agg ds.toArray] w fun e w' => e = .returned (.bool (deq x y)) ∧ Below w.heap.size w w' := by
  intro w K hK cs ds h k
  obtain ⟨c3, rfl, hCode, hAt, hBase, hSlots⟩ := TFrame.opn h
  obtain ⟨d3, rfl, kCode, kAt, kBase, kSlots⟩ := TFrame.opn k
  clear h k
  clear hCode kCode
  clear hAt kAt
  clear hBase kBase
  have hV : Below w.heap.size w ((w.alloc (.cells #[.int .i64 x.fCode, .int .i64 x.fAt, .int .i64 x.fBase, c3] 83)).alloc (.cells #[.int .i64 y.fCode, .int .i64 y.fAt, .int .i64 y.fBase, d3] 83)) := ((Below.refl _ _).alloc (Nat.le_refl _) _).alloc (by simp) _
  have hZ : w.heap.size + 1 < ((w.alloc (.cells #[.int .i64 x.fCode, .int .i64 x.fAt, .int .i64 x.fBase, c3] 83)).alloc (.cells #[.int .i64 y.fCode, .int .i64 y.fAt, .int .i64 y.fBase, d3] 83)).heap.size := by simp
  have HA := Lib.hid (show ((w.alloc (.cells #[.int .i64 x.fCode, .int .i64 x.fAt, .int .i64 x.fBase, c3] 83)).alloc (.cells #[.int .i64 y.fCode, .int .i64 y.fAt, .int .i64 y.fBase, d3] 83)).heap[w.heap.size]? = some (.cells #[.int .i64 x.fCode, .int .i64 x.fAt, .int .i64 x.fBase, c3] 83 (0, 0)) from alloc_lt (by simp) (alloc_at rfl))
  have HB := Lib.hid (show ((w.alloc (.cells #[.int .i64 x.fCode, .int .i64 x.fAt, .int .i64 x.fBase, c3] 83)).alloc (.cells #[.int .i64 y.fCode, .int .i64 y.fAt, .int .i64 y.fBase, d3] 83)).heap[w.heap.size + 1]? = some (.cells #[.int .i64 y.fCode, .int .i64 y.fAt, .int .i64 y.fBase, d3] 83 (0, 0)) from alloc_at (by simp))
  go_enter Try.func44, Try.ntmps44
  by_cases e1 : x.fCode = y.fCode
  · skip
    have be1 : (x.fCode != y.fCode) = false := by simp [e1]
    have bbe1 : (x.fCode == y.fCode) = true := by simp [e1]
    have Ee1 := Lib.hid e1
    clear e1
    by_cases e2 : x.fAt = y.fAt
    · skip
      have be2 : (x.fAt != y.fAt) = false := by simp [e2]
      have bbe2 : (x.fAt == y.fAt) = true := by simp [e2]
      have Ee2 := Lib.hid e2
      clear e2
      by_cases e3 : x.fBase = y.fBase
      · skip
        have be3 : (x.fBase != y.fBase) = false := by simp [e3]
        have bbe3 : (x.fBase == y.fBase) = true := by simp [e3]
        have Ee3 := Lib.hid e3
        clear e3
        go_wp2_with fail
        refine (slicesEqualFuncValue_c x.fSlots y.fSlots _ K (fun b hb => Nat.lt_of_lt_of_le (hK b hb) hV.size) _ _ (Rep.ext hV hK hSlots) (Rep.ext hV hK kSlots)).mono ?_
        rintro e w1 ⟨rfl, hB1⟩
        replace HA := Lib.hid ((hB1.block (w.heap.size) (by have := hZ; omega)).trans HA.out)
        replace HB := Lib.hid ((hB1.block (w.heap.size + 1) (by have := hZ; omega)).trans HB.out)
        replace hZ := Nat.lt_of_lt_of_le hZ hB1.size
        replace hV := hV.trans (hB1.mono hV.size)
        have cA := row_cell HA.out
        have cB := row_cell HB.out
        by_cases e4 : x.fSlots = y.fSlots
        · skip
          rw [deq_eq e4]
          have Ee4 := Lib.hid e4
          clear e4
          go_wp2
          go_ret
          exact ⟨ret_bool (deq_eq (TFrame.ext Ee1.out Ee2.out Ee3.out Ee4.out)).symm, hV⟩
        · skip
          rw [deq_ne e4]
          have Ee4 := Lib.hid e4
          clear e4
          go_wp2
          go_ret
          exact ⟨ret_bool (deq_ne (fun q => Ee4.out (congrArg (·.fSlots) q))).symm, hV⟩
      · skip
        have be3 : (x.fBase != y.fBase) = true := by simpa using e3
        have bbe3 : (x.fBase == y.fBase) = false := by simpa using e3
        have Ee3 := Lib.hid e3
        clear e3
        go_wp2
        go_ret
        exact ⟨ret_bool (deq_ne (fun q => Ee3.out (congrArg (·.fBase) q))).symm, hV⟩
    · skip
      have be2 : (x.fAt != y.fAt) = true := by simpa using e2
      have bbe2 : (x.fAt == y.fAt) = false := by simpa using e2
      have Ee2 := Lib.hid e2
      clear e2
      go_wp2
      go_ret
      exact ⟨ret_bool (deq_ne (fun q => Ee2.out (congrArg (·.fAt) q))).symm, hV⟩
  · skip
    have be1 : (x.fCode != y.fCode) = true := by simpa using e1
    have bbe1 : (x.fCode == y.fCode) = false := by simpa using e1
    have Ee1 := Lib.hid e1
    clear e1
    go_wp2
    go_ret
    exact ⟨ret_bool (deq_ne (fun q => Ee1.out (congrArg (·.fCode) q))).symm, hV⟩
set_option maxRecDepth 100000 in
set_option maxHeartbeats 10000000 in
theorem slicesEqualFuncFrame_c (l m : List TFrame) : ∀ (w : World) (K : Nat → Prop) (_ : ∀ b, K b → b < w.heap.size) (u v : Value) (_ : Rep w K (.sl (l.map TFrame.enc)) [u]) (_ : Rep w K (.sl (m.map TFrame.enc)) [v]),
    Calls Try.prog 43 #[u, v, .func (.func 44) #[] #[]] w fun e w' => e = .returned (.bool (deq l m)) ∧ Below w.heap.size w w' := by
  intro w K hK u v h k
  obtain ⟨a, cap, rfl, hc, hm, -, hE⟩ := open_sl TFrame.width h
  obtain ⟨a', cap', rfl, hc', hm', -, hE'⟩ := open_sl TFrame.width k
  unfold maxLen at hm hm'
  clear h k
  by_cases hl : l.length = m.length
  · skip
    have bhl : (l.length != m.length) = false := by simp [hl]
    have bihl : ((l.length : Int) != (m.length : Int)) = false := by simp [hl]
    have hahl : l.length ≤ m.length := by omega
    have hbhl : m.length ≤ l.length := by omega
    have Hl0 := Lib.hid hl
    clear hl
    have Hg : Hid (deq (l.drop 0) (m.drop 0) = deq l m) := rfl
    go_enter Try.func43, Try.ntmps43
    go_wp2
    go_loopw [17] (fun i wr => ∃ (n : Nat), n ≤ l.length ∧ i = .int .i64 n ∧ Hid (deq (l.drop n) (m.drop n) = deq l m) ∧ Below w.heap.size w wr) (fun i _ => l.length - (intOf i).toNat)
    case atStart => exact ⟨0, Nat.zero_le _, rfl, Hg, Below.refl _ _⟩
    case round =>
      clear Hg
      obtain ⟨n, hn, rfl, Hs, hV⟩ := hrel
      by_cases hlt : n < l.length
      · skip
        have hlt' : n < m.length := by omega
        obtain ⟨b1, off1, rfl, hKb, cs, hcs, hr⟩ := hE n hlt
        obtain ⟨b2, off2, rfl, hKb', cs', hcs', hr'⟩ := hE' n hlt'
        have gcs := hcs.ext hV (hK b1 hKb)
        have gcs' := hcs'.ext hV (hK b2 hKb')
        have gr := Rep.ext hV hK hr
        have gr' := Rep.ext hV hK hr'
        have hK' : ∀ b, K b → b < wr.heap.size := fun b h => Nat.lt_of_lt_of_le (hK b h) hV.size
        have hmem : l[n] ∈ l := List.getElem_mem hlt
        have Hd : Hid (l.drop n = l[n] :: l.drop (n + 1)) := List.drop_eq_getElem_cons hlt
        have Hd' : Hid (m.drop n = m[n] :: m.drop (n + 1)) := List.drop_eq_getElem_cons hlt'
        clear hcs hcs' hr hr'
        generalize l[n] = u at *
        generalize m[n] = v at *
        have hl := (Rep.length _ _ gr).trans (TFrame.width _)
        have hl' := (Rep.length _ _ gr').trans (TFrame.width _)
        have hi : (Try.prog.info? 83).map (·.size) = some cs.length := by rw [hl]; exact infoQEqF83
        have hi' : (Try.prog.info? 83).map (·.size) = some cs'.length := by rw [hl']; exact infoQEqF83
        have ho := Rep.one _ _ gr
        have ho' := Rep.one _ _ gr'
        have Hl := Lib.hid hl; have Hl' := Lib.hid hl'
        clear hl hl'
        go_wp2_with (first | (with_reducible refine ld rfl 83 _ rfl b1 _ rfl cs gcs _ Try.underlying83 hi ?_) | (with_reducible refine stA rfl 83 _ _ rfl wr.heap.size 0 rfl cs rfl hi ho _ 83 (alloc_at rfl) (by rw [Hl.out]; decide) ?_))
        intro w1 hst1
        have hB1 := hst1.below ((Below.refl _ _).alloc (Nat.le_refl _) _) (Nat.le_refl _)
        have C1 := hst1.at_
        have l1 : wr.heap.size < w1.heap.size := by rw [hst1.size]; simp
        clear hst1
        have gcs2 := gcs'.ext hB1 (hK' b2 hKb')
        go_wp2_with (first | (with_reducible refine ld rfl 83 _ rfl b2 _ rfl cs' gcs2 _ Try.underlying83 hi' ?_) | (with_reducible refine stA rfl 83 _ _ rfl w1.heap.size 0 rfl cs' rfl hi' ho' _ 83 (alloc_at rfl) (by rw [Hl'.out]; decide) ?_))
        intro w2 hst2
        have hB2 := hst2.below ((Below.refl _ _).alloc (Nat.le_refl _) _) (Nat.le_refl _)
        have C2 := hst2.at_
        clear hst2
        have C1' := C1.ext hB2 l1
        have hI := hB1.trans (hB2.mono hB1.size)
        go_wp2_with (first | (with_reducible refine ld rfl 83 _ rfl wr.heap.size _ rfl cs C1' _ Try.underlying83 hi ?_) | (with_reducible refine ld rfl 83 _ rfl w1.heap.size _ rfl cs' C2 _ Try.underlying83 hi' ?_))
        refine (implEqualVMF_c u v _ K (fun b hb => Nat.lt_of_lt_of_le (hK' b hb) hI.size) _ _ (Rep.ext hI hK' gr) (Rep.ext hI hK' gr')).mono ?_
        rintro e w3 ⟨rfl, hB3⟩
        replace hV := hV.trans ((hI.trans (hB3.mono hI.size)).mono hV.size)
        by_cases e1 : u = v
        · skip
          rw [deq_eq e1]
          have Hq := Lib.hid e1
          clear e1
          go_wp2
          go_roundw
          case rel =>
            refine ⟨n + 1, hlt, by go_num, ?_, hV⟩
            have e := Hs.out
            rw [Hd.out, Hd'.out, Hq.out, deq_cons] at e
            exact e
          case measure => simp [intOf]; omega
        · skip
          rw [deq_ne e1]
          have Hq := Lib.hid e1
          clear e1
          have e := Hs.out
          rw [Hd.out, Hd'.out, deq_ne (fun q => Hq.out (List.cons.inj q).1)] at e
          have Hf := Lib.hid e
          clear e
          go_wp2
          go_ret
          exact ⟨ret_bool Hf.out, hV⟩
      · skip
        obtain rfl : n = l.length := by omega
        go_wp2
        go_ret
        refine ⟨ret_bool ?_, hV⟩
        rw [← Hs.out, List.drop_length, List.drop_eq_nil_of_le (by omega)]
        exact (deq_eq rfl).symm
  · skip
    have bhl : (l.length != m.length) = true := by simpa using hl
    have bihl : ((l.length : Int) != (m.length : Int)) = true := by simp; omega
    have Hl0 := Lib.hid hl
    clear hl
    go_enter Try.func43, Try.ntmps43
    go_wp2
    go_ret
    exact ⟨ret_bool (deq_ne (fun q => Hl0.out (congrArg List.length q))).symm, Below.refl _ _⟩
set_option maxRecDepth 100000 in
set_option maxHeartbeats 10000000 in
theorem implEqualVM_c (x y : TVM) : ∀ (w : World) (K : Nat → Prop) (_ : ∀ b, K b → b < w.heap.size) (cs ds : List Value) (_ : Rep w K x.enc cs) (_ : Rep w K y.enc ds),
    Calls Try.prog 10 #[.agg cs.toArray, .agg ds.toArray] w fun e w' => e = .returned (.bool (deq x y)) ∧ Below w.heap.size w w' := by
  intro w K hK cs ds h k
  obtain ⟨c0, c1, rfl, hStack, hFrames, hCalls, hCode⟩ := TVM.opn h
  obtain ⟨d0, d1, rfl, kStack, kFrames, kCalls, kCode⟩ := TVM.opn k
  clear h k
  clear hCalls kCalls
  clear hCode kCode
  have hV : Below w.heap.size w ((w.alloc (.cells #[c0, c1, .int .i64 x.fCalls, .int .i64 x.fCode, .bool x.fDone] 31)).alloc (.cells #[d0, d1, .int .i64 y.fCalls, .int .i64 y.fCode, .bool y.fDone] 31)) := ((Below.refl _ _).alloc (Nat.le_refl _) _).alloc (by simp) _
  have hZ : w.heap.size + 1 < ((w.alloc (.cells #[c0, c1, .int .i64 x.fCalls, .int .i64 x.fCode, .bool x.fDone] 31)).alloc (.cells #[d0, d1, .int .i64 y.fCalls, .int .i64 y.fCode, .bool y.fDone] 31)).heap.size := by simp
  have HA := Lib.hid (show ((w.alloc (.cells #[c0, c1, .int .i64 x.fCalls, .int .i64 x.fCode, .bool x.fDone] 31)).alloc (.cells #[d0, d1, .int .i64 y.fCalls, .int .i64 y.fCode, .bool y.fDone] 31)).heap[w.heap.size]? = some (.cells #[c0, c1, .int .i64 x.fCalls, .int .i64 x.fCode, .bool x.fDone] 31 (0, 0)) from alloc_lt (by simp) (alloc_at rfl))
  have HB := Lib.hid (show ((w.alloc (.cells #[c0, c1, .int .i64 x.fCalls, .int .i64 x.fCode, .bool x.fDone] 31)).alloc (.cells #[d0, d1, .int .i64 y.fCalls, .int .i64 y.fCode, .bool y.fDone] 31)).heap[w.heap.size + 1]? = some (.cells #[d0, d1, .int .i64 y.fCalls, .int .i64 y.fCode, .bool y.fDone] 31 (0, 0)) from alloc_at (by simp))
  go_enter Try.func10, Try.ntmps10
  by_cases e1 : x.fCalls = y.fCalls
  · skip
    have be1 : (x.fCalls != y.fCalls) = false := by simp [e1]
    have bbe1 : (x.fCalls == y.fCalls) = true := by simp [e1]
    have Ee1 := Lib.hid e1
    clear e1
    by_cases e2 : x.fCode = y.fCode
    · skip
      have be2 : (x.fCode != y.fCode) = false := by simp [e2]
      have bbe2 : (x.fCode == y.fCode) = true := by simp [e2]
      have Ee2 := Lib.hid e2
      clear e2
      by_cases e3 : x.fDone = y.fDone
      · skip
        have be3 := e3
        have Ee3 := Lib.hid e3
        simp only [e3] at hV hZ HA HB
        go_wp2_with fail
        refine (slicesEqualFuncValue_c x.fStack y.fStack _ K (fun b hb => Nat.lt_of_lt_of_le (hK b hb) hV.size) _ _ (Rep.ext hV hK hStack) (Rep.ext hV hK kStack)).mono ?_
        rintro e w1 ⟨rfl, hB1⟩
        replace HA := Lib.hid ((hB1.block (w.heap.size) (by have := hZ; omega)).trans HA.out)
        replace HB := Lib.hid ((hB1.block (w.heap.size + 1) (by have := hZ; omega)).trans HB.out)
        replace hZ := Nat.lt_of_lt_of_le hZ hB1.size
        replace hV := hV.trans (hB1.mono hV.size)
        have cA := row_cell HA.out
        have cB := row_cell HB.out
        by_cases e4 : x.fStack = y.fStack
        · skip
          rw [deq_eq e4]
          have Ee4 := Lib.hid e4
          clear e4
          go_wp2_with fail
          refine (slicesEqualFuncFrame_c x.fFrames y.fFrames _ K (fun b hb => Nat.lt_of_lt_of_le (hK b hb) hV.size) _ _ (Rep.ext hV hK hFrames) (Rep.ext hV hK kFrames)).mono ?_
          rintro e w2 ⟨rfl, hB2⟩
          replace HA := Lib.hid ((hB2.block (w.heap.size) (by have := hZ; omega)).trans HA.out)
          replace HB := Lib.hid ((hB2.block (w.heap.size + 1) (by have := hZ; omega)).trans HB.out)
          replace hZ := Nat.lt_of_lt_of_le hZ hB2.size
          replace hV := hV.trans (hB2.mono hV.size)
          clear cA cB
          have cA := row_cell HA.out
          have cB := row_cell HB.out
          by_cases e5 : x.fFrames = y.fFrames
          · skip
            rw [deq_eq e5]
            have Ee5 := Lib.hid e5
            clear e5
            go_wp2
            go_ret
            exact ⟨ret_bool (deq_eq (TVM.ext Ee4.out Ee5.out Ee1.out Ee2.out Ee3.out)).symm, hV⟩
          · skip
            rw [deq_ne e5]
            have Ee5 := Lib.hid e5
            clear e5
            go_wp2
            go_ret
            exact ⟨ret_bool (deq_ne (fun q => Ee5.out (congrArg (·.fFrames) q))).symm, hV⟩
        · skip
          rw [deq_ne e4]
          have Ee4 := Lib.hid e4
          clear e4
          go_wp2
          go_ret
          exact ⟨ret_bool (deq_ne (fun q => Ee4.out (congrArg (·.fStack) q))).symm, hV⟩
      · skip
        have be3 := Bool.eq_not.2 e3
        simp only [be3] at hV hZ HA HB
        have Ee3 := Lib.hid e3
        clear e3
        go_wp2
        go_ret
        exact ⟨ret_bool (deq_ne (fun q => Ee3.out (congrArg (·.fDone) q))).symm, hV⟩
    · skip
      have be2 : (x.fCode != y.fCode) = true := by simpa using e2
      have bbe2 : (x.fCode == y.fCode) = false := by simpa using e2
      have Ee2 := Lib.hid e2
      clear e2
      go_wp2
      go_ret
      exact ⟨ret_bool (deq_ne (fun q => Ee2.out (congrArg (·.fCode) q))).symm, hV⟩
  · skip
    have be1 : (x.fCalls != y.fCalls) = true := by simpa using e1
    have bbe1 : (x.fCalls == y.fCalls) = false := by simpa using e1
    have Ee1 := Lib.hid e1
    clear e1
    go_wp2
    go_ret
    exact ⟨ret_bool (deq_ne (fun q => Ee1.out (congrArg (·.fCalls) q))).symm, hV⟩
end Go.Proofs.Ytnlmldgbhdcpbaa
