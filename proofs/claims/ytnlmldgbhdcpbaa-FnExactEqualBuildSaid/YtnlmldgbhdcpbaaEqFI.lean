/- The functions of spec, impl and slices that say whether two values are equal, each walked once. No condition. -/
import Derived.Test.YtnlmldgbhdcpbaaTypes
import Derived.Test.YtnlmldgbhdcpbaaReg
import Derived.Test.YtnlmldgbhdcpbaaEq
import Derived.Test.YtnlmldgbhdcpbaaEqK
namespace Go.Proofs.Ytnlmldgbhdcpbaa
open Go.RowKit
theorem infoQEqFI138 : (Try.prog.info? 138).map (·.size) = some 3 := by kernel_rfl
theorem infoQEqFI233 : (Try.prog.info? 233).map (·.size) = some 4 := by kernel_rfl
theorem infoQEqFI235 : (Try.prog.info? 235).map (·.size) = some 4 := by kernel_rfl
theorem infoQEqFI267 : (Try.prog.info? 267).map (·.size) = some 5 := by kernel_rfl
theorem infoQEqFI143 : (Try.prog.info? 143).map (·.size) = some 11 := by kernel_rfl
theorem infoQEqFI239 : (Try.prog.info? 239).map (·.size) = some 13 := by kernel_rfl
theorem infoQEqFI176 : (Try.prog.info? 176).map (·.size) = some 21 := by kernel_rfl
theorem infoQEqFI108 : (Try.prog.info? 108).map (·.size) = some 6 := by kernel_rfl
theorem infoQEqFI102 : (Try.prog.info? 102).map (·.size) = some 4 := by kernel_rfl
theorem neqEqFI_TUnitError (u v : TUnitError) (w : World) : (if u.fKind = v.fKind then (if u.fPackage = v.fPackage then (if u.fAt = v.fAt then (if u.fSub = v.fSub then (if u.fCode = v.fCode then (if u.fNode = v.fNode then Result.ok (Next.value (Value.bool false)) w else Result.ok (Next.value (Value.bool true)) w) else Result.ok (Next.value (Value.bool true)) w) else Result.ok (Next.value (Value.bool true)) w) else Result.ok (Next.value (Value.bool true)) w) else Result.ok (Next.value (Value.bool true)) w) else Result.ok (Next.value (Value.bool true)) w) = Result.ok (Next.value (Value.bool (!(deq u v)))) w := by
  by_cases h : u = v
  · subst h; simp [deq_eq rfl]
  · rw [deq_ne h]
    have : ¬ (u.fKind = v.fKind ∧ u.fPackage = v.fPackage ∧ u.fAt = v.fAt ∧ u.fSub = v.fSub ∧ u.fCode = v.fCode ∧ u.fNode = v.fNode) := fun ⟨z0, z1, z2, z3, z4, z5⟩ => h (TUnitError.ext z0 z1 z2 z3 z4 z5)
    split <;> try rfl
    split <;> try rfl
    split <;> try rfl
    split <;> try rfl
    split <;> try rfl
    split <;> try rfl
    exact absurd (by simp_all) this
set_option maxRecDepth 100000 in
set_option maxHeartbeats 10000000 in
theorem slicesEqualString_c (l m : List ByteArray) : ∀ (w : World) (K : Nat → Prop) (_ : ∀ b, K b → b < w.heap.size) (u v : Value) (_ : Rep w K (.sl (l.map encS)) [u]) (_ : Rep w K (.sl (m.map encS)) [v]),
    Calls Try.prog 143 #[u, v] w fun e w' => e = .returned (.bool (deq l m)) ∧ Below w.heap.size w w' := by
  intro w K hK u v h k
  obtain ⟨a, cap, rfl, hc, hm, -, hE⟩ := open_sl encS_w h
  obtain ⟨a', cap', rfl, hc', hm', -, hE'⟩ := open_sl encS_w k
  unfold maxLen at hm hm'
  clear h k
  by_cases hl : l.length = m.length
  · skip
    have bhl : (l.length != m.length) = false := by simp [hl]
    have bihl : ((l.length : Int) != (m.length : Int)) = false := by simp [hl]
    have hahl : l.length ≤ m.length := by omega
    have hbhl : m.length ≤ l.length := by omega
    have Hl0 := Lib.hid hl
    clear hl
    have Hg : Hid (deq (l.drop 0) (m.drop 0) = deq l m) := rfl
    go_enter Try.func143, Try.ntmps143
    go_wp2
    go_loopw [13] (fun i wr => ∃ (n : Nat), n ≤ l.length ∧ i = .int .i64 n ∧ Hid (deq (l.drop n) (m.drop n) = deq l m) ∧ Below w.heap.size w wr) (fun i _ => l.length - (intOf i).toNat)
    case atStart => exact ⟨0, Nat.zero_le _, rfl, Hg, Below.refl _ _⟩
    case round =>
      clear Hg
      obtain ⟨n, hn, rfl, Hs, hV⟩ := hrel
      by_cases hlt : n < l.length
      · skip
        have hlt' : n < m.length := by omega
        obtain ⟨b1, off1, rfl, hKb, cs, hcs, hr⟩ := hE n hlt
        obtain ⟨b2, off2, rfl, hKb', cs', hcs', hr'⟩ := hE' n hlt'
        have gcs := hcs.ext hV (hK b1 hKb)
        have gcs' := hcs'.ext hV (hK b2 hKb')
        have gr := Rep.ext hV hK hr
        have gr' := Rep.ext hV hK hr'
        have hK' : ∀ b, K b → b < wr.heap.size := fun b h => Nat.lt_of_lt_of_le (hK b h) hV.size
        have hmem : l[n] ∈ l := List.getElem_mem hlt
        have Hd : Hid (l.drop n = l[n] :: l.drop (n + 1)) := List.drop_eq_getElem_cons hlt
        have Hd' : Hid (m.drop n = m[n] :: m.drop (n + 1)) := List.drop_eq_getElem_cons hlt'
        clear hcs hcs' hr hr'
        generalize l[n] = u at *
        generalize m[n] = v at *
        simp only [encS, Rep] at gr gr'
        obtain ⟨rfl, -⟩ := gr
        obtain ⟨rfl, -⟩ := gr'
        have hI0 : Below wr.heap.size wr wr.drew := (Below.refl _ _).drew
        have k0_ : ∀ w', Below wr.heap.size wr w' → w'.cell? ⟨b1, off1 + n, none⟩ = some (.string u) := fun w' h => by simpa using (gcs.ext h (hK' b1 hKb)) 0 _ rfl
        have k1_ : ∀ w', Below wr.heap.size wr w' → w'.cell? ⟨b2, off2 + n, none⟩ = some (.string v) := fun w' h => by simpa using (gcs'.ext h (hK' b2 hKb')) 0 _ rfl
        clear gcs gcs'
        by_cases e1 : u = v
        · skip
          have be1 : (!u.toList == v.toList) = false := by simp [e1]
          have bbe1 : (u.toList == v.toList) = true := by simp [e1]
          have Hq := Lib.hid e1
          clear e1
          go_wp2_with fail
          refine rg 9 (Below wr.heap.size wr) (by kernel_rfl) rfl ?_
          refine rg_seg (fuel := 0) [0, 1, 2, 3, 4, 5, 6, 7, 8] hI0 (by kernel_rfl) rfl ?_
          simp only [pick, List.getElem?_cons_zero, List.getElem?_cons_succ]
          refine sg_fix _ rfl (fun w' hI => by have := k0_ w' hI; have := k1_ w' hI; go_simp; rfl) ?_; simp only [Act.put, List.setIfInBounds_toArray, List.set_cons_zero, List.set_cons_succ]
          refine sg_fix _ rfl (fun w' hI => by have := k0_ w' hI; have := k1_ w' hI; go_simp; rfl) ?_; simp only [Act.put, List.setIfInBounds_toArray, List.set_cons_zero, List.set_cons_succ]
          refine sg_fix _ rfl (fun w' hI => by have := k0_ w' hI; have := k1_ w' hI; go_simp; rfl) ?_; simp only [Act.put, List.setIfInBounds_toArray, List.set_cons_zero, List.set_cons_succ]
          refine sg_fix _ rfl (fun w' hI => by have := k0_ w' hI; have := k1_ w' hI; go_simp; rfl) ?_; simp only [Act.put, List.setIfInBounds_toArray, List.set_cons_zero, List.set_cons_succ]
          refine sg_fix _ rfl (fun w' hI => by have := k0_ w' hI; have := k1_ w' hI; go_simp; rfl) ?_; simp only [Act.put, List.setIfInBounds_toArray, List.set_cons_zero, List.set_cons_succ]
          refine sg_fix _ rfl (fun w' hI => by have := k0_ w' hI; have := k1_ w' hI; go_simp; rfl) ?_; simp only [Act.put, List.setIfInBounds_toArray, List.set_cons_zero, List.set_cons_succ]
          refine sg_fix _ rfl (fun w' hI => by have := k0_ w' hI; have := k1_ w' hI; go_simp; rfl) ?_; simp only [Act.put, List.setIfInBounds_toArray, List.set_cons_zero, List.set_cons_succ]
          refine sg_fix _ rfl (fun w' hI => by have := k0_ w' hI; have := k1_ w' hI; go_simp; rfl) ?_; simp only [Act.put, List.setIfInBounds_toArray, List.set_cons_zero, List.set_cons_succ]
          refine sg_fix _ rfl (fun w' hI => by have := k0_ w' hI; have := k1_ w' hI; go_simp; rfl) ?_; simp only [Act.put, List.setIfInBounds_toArray, List.set_cons_zero, List.set_cons_succ]
          refine sg_nil (rg_end (by kernel_rfl) ?_)
          replace hV := hV.trans (hI0.mono hV.size)
          go_wp2
          go_roundw
          case rel =>
            refine ⟨n + 1, hlt, by go_num, ?_, hV⟩
            have e := Hs.out
            rw [Hd.out, Hd'.out, Hq.out, deq_cons] at e
            exact e
          case measure => simp [intOf]; omega
        · skip
          have be1 : (!u.toList == v.toList) = true := by simpa using fun q => e1 (ba_ext q)
          have bbe1 : (u.toList == v.toList) = false := by simpa using fun q => e1 (ba_ext q)
          have Hq := Lib.hid e1
          clear e1
          go_wp2_with fail
          refine rg 9 (Below wr.heap.size wr) (by kernel_rfl) rfl ?_
          refine rg_seg (fuel := 0) [0, 1, 2, 3, 4, 5, 6, 7, 8] hI0 (by kernel_rfl) rfl ?_
          simp only [pick, List.getElem?_cons_zero, List.getElem?_cons_succ]
          refine sg_fix _ rfl (fun w' hI => by have := k0_ w' hI; have := k1_ w' hI; go_simp; rfl) ?_; simp only [Act.put, List.setIfInBounds_toArray, List.set_cons_zero, List.set_cons_succ]
          refine sg_fix _ rfl (fun w' hI => by have := k0_ w' hI; have := k1_ w' hI; go_simp; rfl) ?_; simp only [Act.put, List.setIfInBounds_toArray, List.set_cons_zero, List.set_cons_succ]
          refine sg_fix _ rfl (fun w' hI => by have := k0_ w' hI; have := k1_ w' hI; go_simp; rfl) ?_; simp only [Act.put, List.setIfInBounds_toArray, List.set_cons_zero, List.set_cons_succ]
          refine sg_fix _ rfl (fun w' hI => by have := k0_ w' hI; have := k1_ w' hI; go_simp; rfl) ?_; simp only [Act.put, List.setIfInBounds_toArray, List.set_cons_zero, List.set_cons_succ]
          refine sg_fix _ rfl (fun w' hI => by have := k0_ w' hI; have := k1_ w' hI; go_simp; rfl) ?_; simp only [Act.put, List.setIfInBounds_toArray, List.set_cons_zero, List.set_cons_succ]
          refine sg_fix _ rfl (fun w' hI => by have := k0_ w' hI; have := k1_ w' hI; go_simp; rfl) ?_; simp only [Act.put, List.setIfInBounds_toArray, List.set_cons_zero, List.set_cons_succ]
          refine sg_fix _ rfl (fun w' hI => by have := k0_ w' hI; have := k1_ w' hI; go_simp; rfl) ?_; simp only [Act.put, List.setIfInBounds_toArray, List.set_cons_zero, List.set_cons_succ]
          refine sg_fix _ rfl (fun w' hI => by have := k0_ w' hI; have := k1_ w' hI; go_simp; rfl) ?_; simp only [Act.put, List.setIfInBounds_toArray, List.set_cons_zero, List.set_cons_succ]
          refine sg_fix _ rfl (fun w' hI => by have := k0_ w' hI; have := k1_ w' hI; go_simp; rfl) ?_; simp only [Act.put, List.setIfInBounds_toArray, List.set_cons_zero, List.set_cons_succ]
          refine sg_nil (rg_end (by kernel_rfl) ?_)
          replace hV := hV.trans (hI0.mono hV.size)
          have e := Hs.out
          rw [Hd.out, Hd'.out, deq_ne (fun q => Hq.out (List.cons.inj q).1)] at e
          have Hf := Lib.hid e
          clear e
          go_wp2
          go_ret
          exact ⟨ret_bool Hf.out, hV⟩
      · skip
        obtain rfl : n = l.length := by omega
        go_wp2
        go_ret
        refine ⟨ret_bool ?_, hV⟩
        rw [← Hs.out, List.drop_length, List.drop_eq_nil_of_le (by omega)]
        exact (deq_eq rfl).symm
  · skip
    have bhl : (l.length != m.length) = true := by simpa using hl
    have bihl : ((l.length : Int) != (m.length : Int)) = true := by simp; omega
    have Hl0 := Lib.hid hl
    clear hl
    go_enter Try.func143, Try.ntmps143
    go_wp2
    go_ret
    exact ⟨ret_bool (deq_ne (fun q => Hl0.out (congrArg List.length q))).symm, Below.refl _ _⟩
def PimplEqualType (N : Nat) : Prop := ∀ (x y : TType), SizeOf.sizeOf x < N → ∀ (w : World) (K : Nat → Prop) (_ : ∀ b, K b → b < w.heap.size) (cs ds : List Value) (_ : Rep w K x.enc cs) (_ : Rep w K y.enc ds),
    Calls Try.prog 148 #[.agg cs.toArray, .agg ds.toArray] w fun e w' => e = .returned (.bool (deq x y)) ∧ Below w.heap.size w w'
def PslicesEqualFuncType (N : Nat) : Prop := ∀ (l m : List TType), SizeOf.sizeOf l < N → ∀ (w : World) (K : Nat → Prop) (_ : ∀ b, K b → b < w.heap.size) (u v : Value) (_ : Rep w K (.sl (l.map TType.enc)) [u]) (_ : Rep w K (.sl (m.map TType.enc)) [v]),
    Calls Try.prog 183 #[u, v, .func (.func 148) #[] #[]] w fun e w' => e = .returned (.bool (deq l m)) ∧ Below w.heap.size w w'
set_option maxRecDepth 100000 in
set_option maxHeartbeats 10000000 in
theorem stepPimplEqualType (N : Nat) (_iPimplEqualType : PimplEqualType N) (iPslicesEqualFuncType : PslicesEqualFuncType N)  : PimplEqualType (N + 1) := by
  intro x y hN
  intro w K hK cs ds h k
  obtain ⟨c2, rfl, hKind, hName, hArgs⟩ := TType.opn h
  obtain ⟨d2, rfl, kKind, kName, kArgs⟩ := TType.opn k
  clear h k
  clear hKind kKind
  clear hName kName
  have hV : Below w.heap.size w ((w.alloc (.cells #[.int .i64 x.fKind, .string x.fName, c2] 138)).alloc (.cells #[.int .i64 y.fKind, .string y.fName, d2] 138)) := ((Below.refl _ _).alloc (Nat.le_refl _) _).alloc (by simp) _
  have hZ : w.heap.size + 1 < ((w.alloc (.cells #[.int .i64 x.fKind, .string x.fName, c2] 138)).alloc (.cells #[.int .i64 y.fKind, .string y.fName, d2] 138)).heap.size := by simp
  have HA := Lib.hid (show ((w.alloc (.cells #[.int .i64 x.fKind, .string x.fName, c2] 138)).alloc (.cells #[.int .i64 y.fKind, .string y.fName, d2] 138)).heap[w.heap.size]? = some (.cells #[.int .i64 x.fKind, .string x.fName, c2] 138 (0, 0)) from alloc_lt (by simp) (alloc_at rfl))
  have HB := Lib.hid (show ((w.alloc (.cells #[.int .i64 x.fKind, .string x.fName, c2] 138)).alloc (.cells #[.int .i64 y.fKind, .string y.fName, d2] 138)).heap[w.heap.size + 1]? = some (.cells #[.int .i64 y.fKind, .string y.fName, d2] 138 (0, 0)) from alloc_at (by simp))
  go_enter Try.func148, Try.ntmps148
  by_cases e1 : x.fKind = y.fKind
  · skip
    have be1 : (x.fKind != y.fKind) = false := by simp [e1]
    have bbe1 : (x.fKind == y.fKind) = true := by simp [e1]
    have Ee1 := Lib.hid e1
    clear e1
    by_cases e2 : x.fName = y.fName
    · skip
      have be2 : (!x.fName.toList == y.fName.toList) = false := by simp [e2]
      have bbe2 : (x.fName.toList == y.fName.toList) = true := by simp [e2]
      have Ee2 := Lib.hid e2
      clear e2
      go_wp2_with fail
      refine (iPslicesEqualFuncType x.fArgs y.fArgs (by have := TType.lt_fArgs x; omega) _ K (fun b hb => Nat.lt_of_lt_of_le (hK b hb) hV.size) _ _ (Rep.ext hV hK hArgs) (Rep.ext hV hK kArgs)).mono ?_
      rintro e w1 ⟨rfl, hB1⟩
      replace HA := Lib.hid ((hB1.block (w.heap.size) (by have := hZ; omega)).trans HA.out)
      replace HB := Lib.hid ((hB1.block (w.heap.size + 1) (by have := hZ; omega)).trans HB.out)
      replace hZ := Nat.lt_of_lt_of_le hZ hB1.size
      replace hV := hV.trans (hB1.mono hV.size)
      have cA := row_cell HA.out
      have cB := row_cell HB.out
      by_cases e3 : x.fArgs = y.fArgs
      · skip
        rw [deq_eq e3]
        have Ee3 := Lib.hid e3
        clear e3
        go_wp2
        go_ret
        exact ⟨ret_bool (deq_eq (TType.ext Ee1.out Ee2.out Ee3.out)).symm, hV⟩
      · skip
        rw [deq_ne e3]
        have Ee3 := Lib.hid e3
        clear e3
        go_wp2
        go_ret
        exact ⟨ret_bool (deq_ne (fun q => Ee3.out (congrArg (·.fArgs) q))).symm, hV⟩
    · skip
      have be2 : (!x.fName.toList == y.fName.toList) = true := by simpa using fun q => e2 (ba_ext q)
      have bbe2 : (x.fName.toList == y.fName.toList) = false := by simpa using fun q => e2 (ba_ext q)
      have Ee2 := Lib.hid e2
      clear e2
      go_wp2
      go_ret
      exact ⟨ret_bool (deq_ne (fun q => Ee2.out (congrArg (·.fName) q))).symm, hV⟩
  · skip
    have be1 : (x.fKind != y.fKind) = true := by simpa using e1
    have bbe1 : (x.fKind == y.fKind) = false := by simpa using e1
    have Ee1 := Lib.hid e1
    clear e1
    go_wp2
    go_ret
    exact ⟨ret_bool (deq_ne (fun q => Ee1.out (congrArg (·.fKind) q))).symm, hV⟩
set_option maxRecDepth 100000 in
set_option maxHeartbeats 10000000 in
theorem stepPslicesEqualFuncType (N : Nat) (iPimplEqualType : PimplEqualType N) (_iPslicesEqualFuncType : PslicesEqualFuncType N)  : PslicesEqualFuncType (N + 1) := by
  intro l m hN
  intro w K hK u v h k
  obtain ⟨a, cap, rfl, hc, hm, -, hE⟩ := open_sl TType.width h
  obtain ⟨a', cap', rfl, hc', hm', -, hE'⟩ := open_sl TType.width k
  unfold maxLen at hm hm'
  clear h k
  by_cases hl : l.length = m.length
  · skip
    have bhl : (l.length != m.length) = false := by simp [hl]
    have bihl : ((l.length : Int) != (m.length : Int)) = false := by simp [hl]
    have hahl : l.length ≤ m.length := by omega
    have hbhl : m.length ≤ l.length := by omega
    have Hl0 := Lib.hid hl
    clear hl
    have Hg : Hid (deq (l.drop 0) (m.drop 0) = deq l m) := rfl
    go_enter Try.func183, Try.ntmps183
    go_wp2
    go_loopw [17] (fun i wr => ∃ (n : Nat), n ≤ l.length ∧ i = .int .i64 n ∧ Hid (deq (l.drop n) (m.drop n) = deq l m) ∧ Below w.heap.size w wr) (fun i _ => l.length - (intOf i).toNat)
    case atStart => exact ⟨0, Nat.zero_le _, rfl, Hg, Below.refl _ _⟩
    case round =>
      clear Hg
      obtain ⟨n, hn, rfl, Hs, hV⟩ := hrel
      by_cases hlt : n < l.length
      · skip
        have hlt' : n < m.length := by omega
        obtain ⟨b1, off1, rfl, hKb, cs, hcs, hr⟩ := hE n hlt
        obtain ⟨b2, off2, rfl, hKb', cs', hcs', hr'⟩ := hE' n hlt'
        have gcs := hcs.ext hV (hK b1 hKb)
        have gcs' := hcs'.ext hV (hK b2 hKb')
        have gr := Rep.ext hV hK hr
        have gr' := Rep.ext hV hK hr'
        have hK' : ∀ b, K b → b < wr.heap.size := fun b h => Nat.lt_of_lt_of_le (hK b h) hV.size
        have hmem : l[n] ∈ l := List.getElem_mem hlt
        have Hd : Hid (l.drop n = l[n] :: l.drop (n + 1)) := List.drop_eq_getElem_cons hlt
        have Hd' : Hid (m.drop n = m[n] :: m.drop (n + 1)) := List.drop_eq_getElem_cons hlt'
        clear hcs hcs' hr hr'
        generalize l[n] = u at *
        generalize m[n] = v at *
        have hl := (Rep.length _ _ gr).trans (TType.width _)
        have hl' := (Rep.length _ _ gr').trans (TType.width _)
        have hi : (Try.prog.info? 138).map (·.size) = some cs.length := by rw [hl]; exact infoQEqFI138
        have hi' : (Try.prog.info? 138).map (·.size) = some cs'.length := by rw [hl']; exact infoQEqFI138
        have ho := Rep.one _ _ gr
        have ho' := Rep.one _ _ gr'
        have Hl := Lib.hid hl; have Hl' := Lib.hid hl'
        clear hl hl'
        go_wp2_with (first | (with_reducible refine ld rfl 138 _ rfl b1 _ rfl cs gcs _ Try.underlying138 hi ?_) | (with_reducible refine stA rfl 138 _ _ rfl wr.heap.size 0 rfl cs rfl hi ho _ 138 (alloc_at rfl) (by rw [Hl.out]; decide) ?_))
        intro w1 hst1
        have hB1 := hst1.below ((Below.refl _ _).alloc (Nat.le_refl _) _) (Nat.le_refl _)
        have C1 := hst1.at_
        have l1 : wr.heap.size < w1.heap.size := by rw [hst1.size]; simp
        clear hst1
        have gcs2 := gcs'.ext hB1 (hK' b2 hKb')
        go_wp2_with (first | (with_reducible refine ld rfl 138 _ rfl b2 _ rfl cs' gcs2 _ Try.underlying138 hi' ?_) | (with_reducible refine stA rfl 138 _ _ rfl w1.heap.size 0 rfl cs' rfl hi' ho' _ 138 (alloc_at rfl) (by rw [Hl'.out]; decide) ?_))
        intro w2 hst2
        have hB2 := hst2.below ((Below.refl _ _).alloc (Nat.le_refl _) _) (Nat.le_refl _)
        have C2 := hst2.at_
        clear hst2
        have C1' := C1.ext hB2 l1
        have hI := hB1.trans (hB2.mono hB1.size)
        go_wp2_with (first | (with_reducible refine ld rfl 138 _ rfl wr.heap.size _ rfl cs C1' _ Try.underlying138 hi ?_) | (with_reducible refine ld rfl 138 _ rfl w1.heap.size _ rfl cs' C2 _ Try.underlying138 hi' ?_))
        refine (iPimplEqualType u v (by have hsz := List.sizeOf_lt_of_mem hmem; omega) _ K (fun b hb => Nat.lt_of_lt_of_le (hK' b hb) hI.size) _ _ (Rep.ext hI hK' gr) (Rep.ext hI hK' gr')).mono ?_
        rintro e w3 ⟨rfl, hB3⟩
        replace hV := hV.trans ((hI.trans (hB3.mono hI.size)).mono hV.size)
        by_cases e1 : u = v
        · skip
          rw [deq_eq e1]
          have Hq := Lib.hid e1
          clear e1
          go_wp2
          go_roundw
          case rel =>
            refine ⟨n + 1, hlt, by go_num, ?_, hV⟩
            have e := Hs.out
            rw [Hd.out, Hd'.out, Hq.out, deq_cons] at e
            exact e
          case measure => simp [intOf]; omega
        · skip
          rw [deq_ne e1]
          have Hq := Lib.hid e1
          clear e1
          have e := Hs.out
          rw [Hd.out, Hd'.out, deq_ne (fun q => Hq.out (List.cons.inj q).1)] at e
          have Hf := Lib.hid e
          clear e
          go_wp2
          go_ret
          exact ⟨ret_bool Hf.out, hV⟩
      · skip
        obtain rfl : n = l.length := by omega
        go_wp2
        go_ret
        refine ⟨ret_bool ?_, hV⟩
        rw [← Hs.out, List.drop_length, List.drop_eq_nil_of_le (by omega)]
        exact (deq_eq rfl).symm
  · skip
    have bhl : (l.length != m.length) = true := by simpa using hl
    have bihl : ((l.length : Int) != (m.length : Int)) = true := by simp; omega
    have Hl0 := Lib.hid hl
    clear hl
    go_enter Try.func183, Try.ntmps183
    go_wp2
    go_ret
    exact ⟨ret_bool (deq_ne (fun q => Hl0.out (congrArg List.length q))).symm, Below.refl _ _⟩
theorem PimplEqualType_all : ∀ N : Nat, PimplEqualType N ∧ PslicesEqualFuncType N
  | 0 => ⟨fun _ _ h => absurd h (Nat.not_lt_zero _), fun _ _ h => absurd h (Nat.not_lt_zero _)⟩
  | N + 1 => by
    obtain ⟨i0, i1⟩ := PimplEqualType_all N
    have j0 := stepPimplEqualType N i0 i1
    have j1 := stepPslicesEqualFuncType N i0 i1
    exact ⟨j0, j1⟩
theorem implEqualType_c (x y : TType) : ∀ (w : World) (K : Nat → Prop) (_ : ∀ b, K b → b < w.heap.size) (cs ds : List Value) (_ : Rep w K x.enc cs) (_ : Rep w K y.enc ds),
    Calls Try.prog 148 #[.agg cs.toArray, .agg ds.toArray] w fun e w' => e = .returned (.bool (deq x y)) ∧ Below w.heap.size w w' := (PimplEqualType_all (SizeOf.sizeOf x + 1)).1 x y (Nat.lt_succ_self _)
theorem slicesEqualFuncType_c (l m : List TType) : ∀ (w : World) (K : Nat → Prop) (_ : ∀ b, K b → b < w.heap.size) (u v : Value) (_ : Rep w K (.sl (l.map TType.enc)) [u]) (_ : Rep w K (.sl (m.map TType.enc)) [v]),
    Calls Try.prog 183 #[u, v, .func (.func 148) #[] #[]] w fun e w' => e = .returned (.bool (deq l m)) ∧ Below w.heap.size w w' := (PimplEqualType_all (SizeOf.sizeOf l + 1)).2 l m (Nat.lt_succ_self _)
set_option maxRecDepth 100000 in
set_option maxHeartbeats 10000000 in
theorem implEqualGoal_c (x y : TBound) : ∀ (w : World) (K : Nat → Prop) (_ : ∀ b, K b → b < w.heap.size) (cs ds : List Value) (_ : Rep w K x.enc cs) (_ : Rep w K y.enc ds),
    Calls Try.prog 145 #[.agg cs.toArray, .agg ds.toArray] w fun e w' => e = .returned (.bool (deq x y)) ∧ Below w.heap.size w w' := by
  intro w K hK cs ds h k
  obtain ⟨c1, c2, c3, rfl, hTrait, hType⟩ := TBound.opn h
  obtain ⟨d1, d2, d3, rfl, kTrait, kType⟩ := TBound.opn k
  clear h k
  clear hTrait kTrait
  have hV : Below w.heap.size w ((w.alloc (.cells #[.string x.fTrait, c1, c2, c3] 233)).alloc (.cells #[.string y.fTrait, d1, d2, d3] 233)) := ((Below.refl _ _).alloc (Nat.le_refl _) _).alloc (by simp) _
  have hZ : w.heap.size + 1 < ((w.alloc (.cells #[.string x.fTrait, c1, c2, c3] 233)).alloc (.cells #[.string y.fTrait, d1, d2, d3] 233)).heap.size := by simp
  have HA := Lib.hid (show ((w.alloc (.cells #[.string x.fTrait, c1, c2, c3] 233)).alloc (.cells #[.string y.fTrait, d1, d2, d3] 233)).heap[w.heap.size]? = some (.cells #[.string x.fTrait, c1, c2, c3] 233 (0, 0)) from alloc_lt (by simp) (alloc_at rfl))
  have HB := Lib.hid (show ((w.alloc (.cells #[.string x.fTrait, c1, c2, c3] 233)).alloc (.cells #[.string y.fTrait, d1, d2, d3] 233)).heap[w.heap.size + 1]? = some (.cells #[.string y.fTrait, d1, d2, d3] 233 (0, 0)) from alloc_at (by simp))
  go_enter Try.func145, Try.ntmps145
  by_cases e1 : x.fTrait = y.fTrait
  · skip
    have be1 : (!x.fTrait.toList == y.fTrait.toList) = false := by simp [e1]
    have bbe1 : (x.fTrait.toList == y.fTrait.toList) = true := by simp [e1]
    have Ee1 := Lib.hid e1
    clear e1
    go_wp2_with fail
    refine (implEqualType_c x.fType y.fType _ K (fun b hb => Nat.lt_of_lt_of_le (hK b hb) hV.size) _ _ (Rep.ext hV hK hType) (Rep.ext hV hK kType)).mono ?_
    rintro e w1 ⟨rfl, hB1⟩
    replace HA := Lib.hid ((hB1.block (w.heap.size) (by have := hZ; omega)).trans HA.out)
    replace HB := Lib.hid ((hB1.block (w.heap.size + 1) (by have := hZ; omega)).trans HB.out)
    replace hZ := Nat.lt_of_lt_of_le hZ hB1.size
    replace hV := hV.trans (hB1.mono hV.size)
    have cA := row_cell HA.out
    have cB := row_cell HB.out
    by_cases e2 : x.fType = y.fType
    · skip
      rw [deq_eq e2]
      have Ee2 := Lib.hid e2
      clear e2
      go_wp2
      go_ret
      exact ⟨ret_bool (deq_eq (TBound.ext Ee1.out Ee2.out)).symm, hV⟩
    · skip
      rw [deq_ne e2]
      have Ee2 := Lib.hid e2
      clear e2
      go_wp2
      go_ret
      exact ⟨ret_bool (deq_ne (fun q => Ee2.out (congrArg (·.fType) q))).symm, hV⟩
  · skip
    have be1 : (!x.fTrait.toList == y.fTrait.toList) = true := by simpa using fun q => e1 (ba_ext q)
    have bbe1 : (x.fTrait.toList == y.fTrait.toList) = false := by simpa using fun q => e1 (ba_ext q)
    have Ee1 := Lib.hid e1
    clear e1
    go_wp2
    go_ret
    exact ⟨ret_bool (deq_ne (fun q => Ee1.out (congrArg (·.fTrait) q))).symm, hV⟩
set_option maxRecDepth 100000 in
set_option maxHeartbeats 10000000 in
theorem slicesEqualFuncBound_c (l m : List TBound) : ∀ (w : World) (K : Nat → Prop) (_ : ∀ b, K b → b < w.heap.size) (u v : Value) (_ : Rep w K (.sl (l.map TBound.enc)) [u]) (_ : Rep w K (.sl (m.map TBound.enc)) [v]),
    Calls Try.prog 144 #[u, v, .func (.func 145) #[] #[]] w fun e w' => e = .returned (.bool (deq l m)) ∧ Below w.heap.size w w' := by
  intro w K hK u v h k
  obtain ⟨a, cap, rfl, hc, hm, -, hE⟩ := open_sl TBound.width h
  obtain ⟨a', cap', rfl, hc', hm', -, hE'⟩ := open_sl TBound.width k
  unfold maxLen at hm hm'
  clear h k
  by_cases hl : l.length = m.length
  · skip
    have bhl : (l.length != m.length) = false := by simp [hl]
    have bihl : ((l.length : Int) != (m.length : Int)) = false := by simp [hl]
    have hahl : l.length ≤ m.length := by omega
    have hbhl : m.length ≤ l.length := by omega
    have Hl0 := Lib.hid hl
    clear hl
    have Hg : Hid (deq (l.drop 0) (m.drop 0) = deq l m) := rfl
    go_enter Try.func144, Try.ntmps144
    go_wp2
    go_loopw [17] (fun i wr => ∃ (n : Nat), n ≤ l.length ∧ i = .int .i64 n ∧ Hid (deq (l.drop n) (m.drop n) = deq l m) ∧ Below w.heap.size w wr) (fun i _ => l.length - (intOf i).toNat)
    case atStart => exact ⟨0, Nat.zero_le _, rfl, Hg, Below.refl _ _⟩
    case round =>
      clear Hg
      obtain ⟨n, hn, rfl, Hs, hV⟩ := hrel
      by_cases hlt : n < l.length
      · skip
        have hlt' : n < m.length := by omega
        obtain ⟨b1, off1, rfl, hKb, cs, hcs, hr⟩ := hE n hlt
        obtain ⟨b2, off2, rfl, hKb', cs', hcs', hr'⟩ := hE' n hlt'
        have gcs := hcs.ext hV (hK b1 hKb)
        have gcs' := hcs'.ext hV (hK b2 hKb')
        have gr := Rep.ext hV hK hr
        have gr' := Rep.ext hV hK hr'
        have hK' : ∀ b, K b → b < wr.heap.size := fun b h => Nat.lt_of_lt_of_le (hK b h) hV.size
        have hmem : l[n] ∈ l := List.getElem_mem hlt
        have Hd : Hid (l.drop n = l[n] :: l.drop (n + 1)) := List.drop_eq_getElem_cons hlt
        have Hd' : Hid (m.drop n = m[n] :: m.drop (n + 1)) := List.drop_eq_getElem_cons hlt'
        clear hcs hcs' hr hr'
        generalize l[n] = u at *
        generalize m[n] = v at *
        have hl := (Rep.length _ _ gr).trans (TBound.width _)
        have hl' := (Rep.length _ _ gr').trans (TBound.width _)
        have hi : (Try.prog.info? 233).map (·.size) = some cs.length := by rw [hl]; exact infoQEqFI233
        have hi' : (Try.prog.info? 233).map (·.size) = some cs'.length := by rw [hl']; exact infoQEqFI233
        have ho := Rep.one _ _ gr
        have ho' := Rep.one _ _ gr'
        have Hl := Lib.hid hl; have Hl' := Lib.hid hl'
        clear hl hl'
        go_wp2_with (first | (with_reducible refine ld rfl 233 _ rfl b1 _ rfl cs gcs _ Try.underlying233 hi ?_) | (with_reducible refine stA rfl 233 _ _ rfl wr.heap.size 0 rfl cs rfl hi ho _ 233 (alloc_at rfl) (by rw [Hl.out]; decide) ?_))
        intro w1 hst1
        have hB1 := hst1.below ((Below.refl _ _).alloc (Nat.le_refl _) _) (Nat.le_refl _)
        have C1 := hst1.at_
        have l1 : wr.heap.size < w1.heap.size := by rw [hst1.size]; simp
        clear hst1
        have gcs2 := gcs'.ext hB1 (hK' b2 hKb')
        go_wp2_with (first | (with_reducible refine ld rfl 233 _ rfl b2 _ rfl cs' gcs2 _ Try.underlying233 hi' ?_) | (with_reducible refine stA rfl 233 _ _ rfl w1.heap.size 0 rfl cs' rfl hi' ho' _ 233 (alloc_at rfl) (by rw [Hl'.out]; decide) ?_))
        intro w2 hst2
        have hB2 := hst2.below ((Below.refl _ _).alloc (Nat.le_refl _) _) (Nat.le_refl _)
        have C2 := hst2.at_
        clear hst2
        have C1' := C1.ext hB2 l1
        have hI := hB1.trans (hB2.mono hB1.size)
        go_wp2_with (first | (with_reducible refine ld rfl 233 _ rfl wr.heap.size _ rfl cs C1' _ Try.underlying233 hi ?_) | (with_reducible refine ld rfl 233 _ rfl w1.heap.size _ rfl cs' C2 _ Try.underlying233 hi' ?_))
        refine (implEqualGoal_c u v _ K (fun b hb => Nat.lt_of_lt_of_le (hK' b hb) hI.size) _ _ (Rep.ext hI hK' gr) (Rep.ext hI hK' gr')).mono ?_
        rintro e w3 ⟨rfl, hB3⟩
        replace hV := hV.trans ((hI.trans (hB3.mono hI.size)).mono hV.size)
        by_cases e1 : u = v
        · skip
          rw [deq_eq e1]
          have Hq := Lib.hid e1
          clear e1
          go_wp2
          go_roundw
          case rel =>
            refine ⟨n + 1, hlt, by go_num, ?_, hV⟩
            have e := Hs.out
            rw [Hd.out, Hd'.out, Hq.out, deq_cons] at e
            exact e
          case measure => simp [intOf]; omega
        · skip
          rw [deq_ne e1]
          have Hq := Lib.hid e1
          clear e1
          have e := Hs.out
          rw [Hd.out, Hd'.out, deq_ne (fun q => Hq.out (List.cons.inj q).1)] at e
          have Hf := Lib.hid e
          clear e
          go_wp2
          go_ret
          exact ⟨ret_bool Hf.out, hV⟩
      · skip
        obtain rfl : n = l.length := by omega
        go_wp2
        go_ret
        refine ⟨ret_bool ?_, hV⟩
        rw [← Hs.out, List.drop_length, List.drop_eq_nil_of_le (by omega)]
        exact (deq_eq rfl).symm
  · skip
    have bhl : (l.length != m.length) = true := by simpa using hl
    have bihl : ((l.length : Int) != (m.length : Int)) = true := by simp; omega
    have Hl0 := Lib.hid hl
    clear hl
    go_enter Try.func144, Try.ntmps144
    go_wp2
    go_ret
    exact ⟨ret_bool (deq_ne (fun q => Hl0.out (congrArg List.length q))).symm, Below.refl _ _⟩
set_option maxRecDepth 100000 in
set_option maxHeartbeats 10000000 in
theorem implequalUnitF_c (x y : TParam) : ∀ (w : World) (K : Nat → Prop) (_ : ∀ b, K b → b < w.heap.size) (cs ds : List Value) (_ : Rep w K x.enc cs) (_ : Rep w K y.enc ds),
    Calls Try.prog 147 #[.agg cs.toArray, .agg ds.toArray] w fun e w' => e = .returned (.bool (deq x y)) ∧ Below w.heap.size w w' := by
  intro w K hK cs ds h k
  obtain ⟨c1, c2, c3, rfl, hName, hType⟩ := TParam.opn h
  obtain ⟨d1, d2, d3, rfl, kName, kType⟩ := TParam.opn k
  clear h k
  clear hName kName
  have hV : Below w.heap.size w ((w.alloc (.cells #[.string x.fName, c1, c2, c3] 235)).alloc (.cells #[.string y.fName, d1, d2, d3] 235)) := ((Below.refl _ _).alloc (Nat.le_refl _) _).alloc (by simp) _
  have hZ : w.heap.size + 1 < ((w.alloc (.cells #[.string x.fName, c1, c2, c3] 235)).alloc (.cells #[.string y.fName, d1, d2, d3] 235)).heap.size := by simp
  have HA := Lib.hid (show ((w.alloc (.cells #[.string x.fName, c1, c2, c3] 235)).alloc (.cells #[.string y.fName, d1, d2, d3] 235)).heap[w.heap.size]? = some (.cells #[.string x.fName, c1, c2, c3] 235 (0, 0)) from alloc_lt (by simp) (alloc_at rfl))
  have HB := Lib.hid (show ((w.alloc (.cells #[.string x.fName, c1, c2, c3] 235)).alloc (.cells #[.string y.fName, d1, d2, d3] 235)).heap[w.heap.size + 1]? = some (.cells #[.string y.fName, d1, d2, d3] 235 (0, 0)) from alloc_at (by simp))
  go_enter Try.func147, Try.ntmps147
  by_cases e1 : x.fName = y.fName
  · skip
    have be1 : (!x.fName.toList == y.fName.toList) = false := by simp [e1]
    have bbe1 : (x.fName.toList == y.fName.toList) = true := by simp [e1]
    have Ee1 := Lib.hid e1
    clear e1
    go_wp2_with fail
    refine (implEqualType_c x.fType y.fType _ K (fun b hb => Nat.lt_of_lt_of_le (hK b hb) hV.size) _ _ (Rep.ext hV hK hType) (Rep.ext hV hK kType)).mono ?_
    rintro e w1 ⟨rfl, hB1⟩
    replace HA := Lib.hid ((hB1.block (w.heap.size) (by have := hZ; omega)).trans HA.out)
    replace HB := Lib.hid ((hB1.block (w.heap.size + 1) (by have := hZ; omega)).trans HB.out)
    replace hZ := Nat.lt_of_lt_of_le hZ hB1.size
    replace hV := hV.trans (hB1.mono hV.size)
    have cA := row_cell HA.out
    have cB := row_cell HB.out
    by_cases e2 : x.fType = y.fType
    · skip
      rw [deq_eq e2]
      have Ee2 := Lib.hid e2
      clear e2
      go_wp2
      go_ret
      exact ⟨ret_bool (deq_eq (TParam.ext Ee1.out Ee2.out)).symm, hV⟩
    · skip
      rw [deq_ne e2]
      have Ee2 := Lib.hid e2
      clear e2
      go_wp2
      go_ret
      exact ⟨ret_bool (deq_ne (fun q => Ee2.out (congrArg (·.fType) q))).symm, hV⟩
  · skip
    have be1 : (!x.fName.toList == y.fName.toList) = true := by simpa using fun q => e1 (ba_ext q)
    have bbe1 : (x.fName.toList == y.fName.toList) = false := by simpa using fun q => e1 (ba_ext q)
    have Ee1 := Lib.hid e1
    clear e1
    go_wp2
    go_ret
    exact ⟨ret_bool (deq_ne (fun q => Ee1.out (congrArg (·.fName) q))).symm, hV⟩
set_option maxRecDepth 100000 in
set_option maxHeartbeats 10000000 in
theorem slicesEqualFuncParam_c (l m : List TParam) : ∀ (w : World) (K : Nat → Prop) (_ : ∀ b, K b → b < w.heap.size) (u v : Value) (_ : Rep w K (.sl (l.map TParam.enc)) [u]) (_ : Rep w K (.sl (m.map TParam.enc)) [v]),
    Calls Try.prog 146 #[u, v, .func (.func 147) #[] #[]] w fun e w' => e = .returned (.bool (deq l m)) ∧ Below w.heap.size w w' := by
  intro w K hK u v h k
  obtain ⟨a, cap, rfl, hc, hm, -, hE⟩ := open_sl TParam.width h
  obtain ⟨a', cap', rfl, hc', hm', -, hE'⟩ := open_sl TParam.width k
  unfold maxLen at hm hm'
  clear h k
  by_cases hl : l.length = m.length
  · skip
    have bhl : (l.length != m.length) = false := by simp [hl]
    have bihl : ((l.length : Int) != (m.length : Int)) = false := by simp [hl]
    have hahl : l.length ≤ m.length := by omega
    have hbhl : m.length ≤ l.length := by omega
    have Hl0 := Lib.hid hl
    clear hl
    have Hg : Hid (deq (l.drop 0) (m.drop 0) = deq l m) := rfl
    go_enter Try.func146, Try.ntmps146
    go_wp2
    go_loopw [17] (fun i wr => ∃ (n : Nat), n ≤ l.length ∧ i = .int .i64 n ∧ Hid (deq (l.drop n) (m.drop n) = deq l m) ∧ Below w.heap.size w wr) (fun i _ => l.length - (intOf i).toNat)
    case atStart => exact ⟨0, Nat.zero_le _, rfl, Hg, Below.refl _ _⟩
    case round =>
      clear Hg
      obtain ⟨n, hn, rfl, Hs, hV⟩ := hrel
      by_cases hlt : n < l.length
      · skip
        have hlt' : n < m.length := by omega
        obtain ⟨b1, off1, rfl, hKb, cs, hcs, hr⟩ := hE n hlt
        obtain ⟨b2, off2, rfl, hKb', cs', hcs', hr'⟩ := hE' n hlt'
        have gcs := hcs.ext hV (hK b1 hKb)
        have gcs' := hcs'.ext hV (hK b2 hKb')
        have gr := Rep.ext hV hK hr
        have gr' := Rep.ext hV hK hr'
        have hK' : ∀ b, K b → b < wr.heap.size := fun b h => Nat.lt_of_lt_of_le (hK b h) hV.size
        have hmem : l[n] ∈ l := List.getElem_mem hlt
        have Hd : Hid (l.drop n = l[n] :: l.drop (n + 1)) := List.drop_eq_getElem_cons hlt
        have Hd' : Hid (m.drop n = m[n] :: m.drop (n + 1)) := List.drop_eq_getElem_cons hlt'
        clear hcs hcs' hr hr'
        generalize l[n] = u at *
        generalize m[n] = v at *
        have hl := (Rep.length _ _ gr).trans (TParam.width _)
        have hl' := (Rep.length _ _ gr').trans (TParam.width _)
        have hi : (Try.prog.info? 235).map (·.size) = some cs.length := by rw [hl]; exact infoQEqFI235
        have hi' : (Try.prog.info? 235).map (·.size) = some cs'.length := by rw [hl']; exact infoQEqFI235
        have ho := Rep.one _ _ gr
        have ho' := Rep.one _ _ gr'
        have Hl := Lib.hid hl; have Hl' := Lib.hid hl'
        clear hl hl'
        go_wp2_with (first | (with_reducible refine ld rfl 235 _ rfl b1 _ rfl cs gcs _ Try.underlying235 hi ?_) | (with_reducible refine stA rfl 235 _ _ rfl wr.heap.size 0 rfl cs rfl hi ho _ 235 (alloc_at rfl) (by rw [Hl.out]; decide) ?_))
        intro w1 hst1
        have hB1 := hst1.below ((Below.refl _ _).alloc (Nat.le_refl _) _) (Nat.le_refl _)
        have C1 := hst1.at_
        have l1 : wr.heap.size < w1.heap.size := by rw [hst1.size]; simp
        clear hst1
        have gcs2 := gcs'.ext hB1 (hK' b2 hKb')
        go_wp2_with (first | (with_reducible refine ld rfl 235 _ rfl b2 _ rfl cs' gcs2 _ Try.underlying235 hi' ?_) | (with_reducible refine stA rfl 235 _ _ rfl w1.heap.size 0 rfl cs' rfl hi' ho' _ 235 (alloc_at rfl) (by rw [Hl'.out]; decide) ?_))
        intro w2 hst2
        have hB2 := hst2.below ((Below.refl _ _).alloc (Nat.le_refl _) _) (Nat.le_refl _)
        have C2 := hst2.at_
        clear hst2
        have C1' := C1.ext hB2 l1
        have hI := hB1.trans (hB2.mono hB1.size)
        go_wp2_with (first | (with_reducible refine ld rfl 235 _ rfl wr.heap.size _ rfl cs C1' _ Try.underlying235 hi ?_) | (with_reducible refine ld rfl 235 _ rfl w1.heap.size _ rfl cs' C2 _ Try.underlying235 hi' ?_))
        refine (implequalUnitF_c u v _ K (fun b hb => Nat.lt_of_lt_of_le (hK' b hb) hI.size) _ _ (Rep.ext hI hK' gr) (Rep.ext hI hK' gr')).mono ?_
        rintro e w3 ⟨rfl, hB3⟩
        replace hV := hV.trans ((hI.trans (hB3.mono hI.size)).mono hV.size)
        by_cases e1 : u = v
        · skip
          rw [deq_eq e1]
          have Hq := Lib.hid e1
          clear e1
          go_wp2
          go_roundw
          case rel =>
            refine ⟨n + 1, hlt, by go_num, ?_, hV⟩
            have e := Hs.out
            rw [Hd.out, Hd'.out, Hq.out, deq_cons] at e
            exact e
          case measure => simp [intOf]; omega
        · skip
          rw [deq_ne e1]
          have Hq := Lib.hid e1
          clear e1
          have e := Hs.out
          rw [Hd.out, Hd'.out, deq_ne (fun q => Hq.out (List.cons.inj q).1)] at e
          have Hf := Lib.hid e
          clear e
          go_wp2
          go_ret
          exact ⟨ret_bool Hf.out, hV⟩
      · skip
        obtain rfl : n = l.length := by omega
        go_wp2
        go_ret
        refine ⟨ret_bool ?_, hV⟩
        rw [← Hs.out, List.drop_length, List.drop_eq_nil_of_le (by omega)]
        exact (deq_eq rfl).symm
  · skip
    have bhl : (l.length != m.length) = true := by simpa using hl
    have bihl : ((l.length : Int) != (m.length : Int)) = true := by simp; omega
    have Hl0 := Lib.hid hl
    clear hl
    go_enter Try.func146, Try.ntmps146
    go_wp2
    go_ret
    exact ⟨ret_bool (deq_ne (fun q => Hl0.out (congrArg List.length q))).symm, Below.refl _ _⟩
set_option maxRecDepth 100000 in
set_option maxHeartbeats 10000000 in
theorem implequalTypes_c (l m : List TType) : ∀ (w : World) (K : Nat → Prop) (_ : ∀ b, K b → b < w.heap.size) (u v : Value) (_ : Rep w K (.sl (l.map TType.enc)) [u]) (_ : Rep w K (.sl (m.map TType.enc)) [v]),
    Calls Try.prog 184 #[u, v] w fun e w' => e = .returned (.bool (deq l m)) ∧ Below w.heap.size w w' := by
  intro w K hK u v h k
  go_enter Try.func184, Try.ntmps184
  go_wp2_with fail
  refine (slicesEqualFuncType_c l m _ K hK _ _ h k).mono ?_
  rintro e w1 ⟨rfl, hB1⟩
  go_wp2
  go_ret
  exact ⟨rfl, hB1⟩
def PslicesEqualFuncEvidence (N : Nat) : Prop := ∀ (l m : List TEvidence), SizeOf.sizeOf l < N → ∀ (w : World) (K : Nat → Prop) (_ : ∀ b, K b → b < w.heap.size) (u v : Value) (_ : Rep w K (.sl (l.map TEvidence.enc)) [u]) (_ : Rep w K (.sl (m.map TEvidence.enc)) [v]),
    Calls Try.prog 185 #[u, v, .func (.func 186) #[] #[]] w fun e w' => e = .returned (.bool (deq l m)) ∧ Below w.heap.size w w'
def PimplEqualEvidence (N : Nat) : Prop := ∀ (x y : TEvidence), SizeOf.sizeOf x < N → ∀ (w : World) (K : Nat → Prop) (_ : ∀ b, K b → b < w.heap.size) (cs ds : List Value) (_ : Rep w K x.enc cs) (_ : Rep w K y.enc ds),
    Calls Try.prog 186 #[.agg cs.toArray, .agg ds.toArray] w fun e w' => e = .returned (.bool (deq x y)) ∧ Below w.heap.size w w'
set_option maxRecDepth 100000 in
set_option maxHeartbeats 10000000 in
theorem stepPslicesEqualFuncEvidence (N : Nat) (_iPslicesEqualFuncEvidence : PslicesEqualFuncEvidence N) (iPimplEqualEvidence : PimplEqualEvidence N)  : PslicesEqualFuncEvidence (N + 1) := by
  intro l m hN
  intro w K hK u v h k
  obtain ⟨a, cap, rfl, hc, hm, -, hE⟩ := open_sl TEvidence.width h
  obtain ⟨a', cap', rfl, hc', hm', -, hE'⟩ := open_sl TEvidence.width k
  unfold maxLen at hm hm'
  clear h k
  by_cases hl : l.length = m.length
  · skip
    have bhl : (l.length != m.length) = false := by simp [hl]
    have bihl : ((l.length : Int) != (m.length : Int)) = false := by simp [hl]
    have hahl : l.length ≤ m.length := by omega
    have hbhl : m.length ≤ l.length := by omega
    have Hl0 := Lib.hid hl
    clear hl
    have Hg : Hid (deq (l.drop 0) (m.drop 0) = deq l m) := rfl
    go_enter Try.func185, Try.ntmps185
    go_wp2
    go_loopw [17] (fun i wr => ∃ (n : Nat), n ≤ l.length ∧ i = .int .i64 n ∧ Hid (deq (l.drop n) (m.drop n) = deq l m) ∧ Below w.heap.size w wr) (fun i _ => l.length - (intOf i).toNat)
    case atStart => exact ⟨0, Nat.zero_le _, rfl, Hg, Below.refl _ _⟩
    case round =>
      clear Hg
      obtain ⟨n, hn, rfl, Hs, hV⟩ := hrel
      by_cases hlt : n < l.length
      · skip
        have hlt' : n < m.length := by omega
        obtain ⟨b1, off1, rfl, hKb, cs, hcs, hr⟩ := hE n hlt
        obtain ⟨b2, off2, rfl, hKb', cs', hcs', hr'⟩ := hE' n hlt'
        have gcs := hcs.ext hV (hK b1 hKb)
        have gcs' := hcs'.ext hV (hK b2 hKb')
        have gr := Rep.ext hV hK hr
        have gr' := Rep.ext hV hK hr'
        have hK' : ∀ b, K b → b < wr.heap.size := fun b h => Nat.lt_of_lt_of_le (hK b h) hV.size
        have hmem : l[n] ∈ l := List.getElem_mem hlt
        have Hd : Hid (l.drop n = l[n] :: l.drop (n + 1)) := List.drop_eq_getElem_cons hlt
        have Hd' : Hid (m.drop n = m[n] :: m.drop (n + 1)) := List.drop_eq_getElem_cons hlt'
        clear hcs hcs' hr hr'
        generalize l[n] = u at *
        generalize m[n] = v at *
        have hl := (Rep.length _ _ gr).trans (TEvidence.width _)
        have hl' := (Rep.length _ _ gr').trans (TEvidence.width _)
        have hi : (Try.prog.info? 267).map (·.size) = some cs.length := by rw [hl]; exact infoQEqFI267
        have hi' : (Try.prog.info? 267).map (·.size) = some cs'.length := by rw [hl']; exact infoQEqFI267
        have ho := Rep.one _ _ gr
        have ho' := Rep.one _ _ gr'
        have Hl := Lib.hid hl; have Hl' := Lib.hid hl'
        clear hl hl'
        go_wp2_with (first | (with_reducible refine ld rfl 267 _ rfl b1 _ rfl cs gcs _ Try.underlying267 hi ?_) | (with_reducible refine stA rfl 267 _ _ rfl wr.heap.size 0 rfl cs rfl hi ho _ 267 (alloc_at rfl) (by rw [Hl.out]; decide) ?_))
        intro w1 hst1
        have hB1 := hst1.below ((Below.refl _ _).alloc (Nat.le_refl _) _) (Nat.le_refl _)
        have C1 := hst1.at_
        have l1 : wr.heap.size < w1.heap.size := by rw [hst1.size]; simp
        clear hst1
        have gcs2 := gcs'.ext hB1 (hK' b2 hKb')
        go_wp2_with (first | (with_reducible refine ld rfl 267 _ rfl b2 _ rfl cs' gcs2 _ Try.underlying267 hi' ?_) | (with_reducible refine stA rfl 267 _ _ rfl w1.heap.size 0 rfl cs' rfl hi' ho' _ 267 (alloc_at rfl) (by rw [Hl'.out]; decide) ?_))
        intro w2 hst2
        have hB2 := hst2.below ((Below.refl _ _).alloc (Nat.le_refl _) _) (Nat.le_refl _)
        have C2 := hst2.at_
        clear hst2
        have C1' := C1.ext hB2 l1
        have hI := hB1.trans (hB2.mono hB1.size)
        go_wp2_with (first | (with_reducible refine ld rfl 267 _ rfl wr.heap.size _ rfl cs C1' _ Try.underlying267 hi ?_) | (with_reducible refine ld rfl 267 _ rfl w1.heap.size _ rfl cs' C2 _ Try.underlying267 hi' ?_))
        refine (iPimplEqualEvidence u v (by have hsz := List.sizeOf_lt_of_mem hmem; omega) _ K (fun b hb => Nat.lt_of_lt_of_le (hK' b hb) hI.size) _ _ (Rep.ext hI hK' gr) (Rep.ext hI hK' gr')).mono ?_
        rintro e w3 ⟨rfl, hB3⟩
        replace hV := hV.trans ((hI.trans (hB3.mono hI.size)).mono hV.size)
        by_cases e1 : u = v
        · skip
          rw [deq_eq e1]
          have Hq := Lib.hid e1
          clear e1
          go_wp2
          go_roundw
          case rel =>
            refine ⟨n + 1, hlt, by go_num, ?_, hV⟩
            have e := Hs.out
            rw [Hd.out, Hd'.out, Hq.out, deq_cons] at e
            exact e
          case measure => simp [intOf]; omega
        · skip
          rw [deq_ne e1]
          have Hq := Lib.hid e1
          clear e1
          have e := Hs.out
          rw [Hd.out, Hd'.out, deq_ne (fun q => Hq.out (List.cons.inj q).1)] at e
          have Hf := Lib.hid e
          clear e
          go_wp2
          go_ret
          exact ⟨ret_bool Hf.out, hV⟩
      · skip
        obtain rfl : n = l.length := by omega
        go_wp2
        go_ret
        refine ⟨ret_bool ?_, hV⟩
        rw [← Hs.out, List.drop_length, List.drop_eq_nil_of_le (by omega)]
        exact (deq_eq rfl).symm
  · skip
    have bhl : (l.length != m.length) = true := by simpa using hl
    have bihl : ((l.length : Int) != (m.length : Int)) = true := by simp; omega
    have Hl0 := Lib.hid hl
    clear hl
    go_enter Try.func185, Try.ntmps185
    go_wp2
    go_ret
    exact ⟨ret_bool (deq_ne (fun q => Hl0.out (congrArg List.length q))).symm, Below.refl _ _⟩
set_option maxRecDepth 100000 in
set_option maxHeartbeats 10000000 in
theorem stepPimplEqualEvidence (N : Nat) (iPslicesEqualFuncEvidence : PslicesEqualFuncEvidence N) (_iPimplEqualEvidence : PimplEqualEvidence N)  : PimplEqualEvidence (N + 1) := by
  intro x y hN
  intro w K hK cs ds h k
  obtain ⟨c2, c3, c4, rfl, hKind, hN, hAt, hArgs⟩ := TEvidence.opn h
  obtain ⟨d2, d3, d4, rfl, kKind, kN, kAt, kArgs⟩ := TEvidence.opn k
  clear h k
  clear hKind kKind
  clear hN kN
  obtain ⟨hq, -⟩ := TInstanceRef.opn hAt
  simp only [List.cons.injEq, and_true] at hq
  obtain ⟨rfl, rfl⟩ := hq
  obtain ⟨hq, -⟩ := TInstanceRef.opn kAt
  simp only [List.cons.injEq, and_true] at hq
  obtain ⟨rfl, rfl⟩ := hq
  clear hAt kAt
  have hV : Below w.heap.size w ((w.alloc (.cells #[.int .i64 x.fKind, .int .i64 x.fN, .int .i64 x.fAt.fPackage, .int .i64 x.fAt.fAt, c4] 267)).alloc (.cells #[.int .i64 y.fKind, .int .i64 y.fN, .int .i64 y.fAt.fPackage, .int .i64 y.fAt.fAt, d4] 267)) := ((Below.refl _ _).alloc (Nat.le_refl _) _).alloc (by simp) _
  have hZ : w.heap.size + 1 < ((w.alloc (.cells #[.int .i64 x.fKind, .int .i64 x.fN, .int .i64 x.fAt.fPackage, .int .i64 x.fAt.fAt, c4] 267)).alloc (.cells #[.int .i64 y.fKind, .int .i64 y.fN, .int .i64 y.fAt.fPackage, .int .i64 y.fAt.fAt, d4] 267)).heap.size := by simp
  have HA := Lib.hid (show ((w.alloc (.cells #[.int .i64 x.fKind, .int .i64 x.fN, .int .i64 x.fAt.fPackage, .int .i64 x.fAt.fAt, c4] 267)).alloc (.cells #[.int .i64 y.fKind, .int .i64 y.fN, .int .i64 y.fAt.fPackage, .int .i64 y.fAt.fAt, d4] 267)).heap[w.heap.size]? = some (.cells #[.int .i64 x.fKind, .int .i64 x.fN, .int .i64 x.fAt.fPackage, .int .i64 x.fAt.fAt, c4] 267 (0, 0)) from alloc_lt (by simp) (alloc_at rfl))
  have HB := Lib.hid (show ((w.alloc (.cells #[.int .i64 x.fKind, .int .i64 x.fN, .int .i64 x.fAt.fPackage, .int .i64 x.fAt.fAt, c4] 267)).alloc (.cells #[.int .i64 y.fKind, .int .i64 y.fN, .int .i64 y.fAt.fPackage, .int .i64 y.fAt.fAt, d4] 267)).heap[w.heap.size + 1]? = some (.cells #[.int .i64 y.fKind, .int .i64 y.fN, .int .i64 y.fAt.fPackage, .int .i64 y.fAt.fAt, d4] 267 (0, 0)) from alloc_at (by simp))
  go_enter Try.func186, Try.ntmps186
  by_cases e1 : x.fKind = y.fKind
  · skip
    have be1 : (x.fKind != y.fKind) = false := by simp [e1]
    have bbe1 : (x.fKind == y.fKind) = true := by simp [e1]
    have Ee1 := Lib.hid e1
    clear e1
    by_cases e2 : x.fN = y.fN
    · skip
      have be2 : (x.fN != y.fN) = false := by simp [e2]
      have bbe2 : (x.fN == y.fN) = true := by simp [e2]
      have Ee2 := Lib.hid e2
      clear e2
      by_cases e4 : x.fAt.fPackage = y.fAt.fPackage
      · skip
        have Ee4 := Lib.hid e4
        simp only [e4] at hV hZ HA HB
        by_cases e5 : x.fAt.fAt = y.fAt.fAt
        · skip
          have Ee5 := Lib.hid e5
          simp only [e5] at hV hZ HA HB
          go_wp2_with fail
          refine (iPslicesEqualFuncEvidence x.fArgs y.fArgs (by have := TEvidence.lt_fArgs x; omega) _ K (fun b hb => Nat.lt_of_lt_of_le (hK b hb) hV.size) _ _ (Rep.ext hV hK hArgs) (Rep.ext hV hK kArgs)).mono ?_
          rintro e w1 ⟨rfl, hB1⟩
          replace HA := Lib.hid ((hB1.block (w.heap.size) (by have := hZ; omega)).trans HA.out)
          replace HB := Lib.hid ((hB1.block (w.heap.size + 1) (by have := hZ; omega)).trans HB.out)
          replace hZ := Nat.lt_of_lt_of_le hZ hB1.size
          replace hV := hV.trans (hB1.mono hV.size)
          have cA := row_cell HA.out
          have cB := row_cell HB.out
          by_cases e6 : x.fArgs = y.fArgs
          · skip
            rw [deq_eq e6]
            have Ee6 := Lib.hid e6
            clear e6
            go_wp2
            go_ret
            exact ⟨ret_bool (deq_eq (TEvidence.ext Ee1.out Ee2.out (TInstanceRef.ext Ee4.out Ee5.out) Ee6.out)).symm, hV⟩
          · skip
            rw [deq_ne e6]
            have Ee6 := Lib.hid e6
            clear e6
            go_wp2
            go_ret
            exact ⟨ret_bool (deq_ne (fun q => Ee6.out (congrArg (·.fArgs) q))).symm, hV⟩
        · skip
          have Ee5 := Lib.hid e5
          go_wp2
          go_ret
          exact ⟨ret_bool (deq_ne (fun q => (fun q => Ee5.out (congrArg (·.fAt) q)) (congrArg (·.fAt) q))).symm, hV⟩
      · skip
        have Ee4 := Lib.hid e4
        go_wp2
        go_ret
        exact ⟨ret_bool (deq_ne (fun q => (fun q => Ee4.out (congrArg (·.fPackage) q)) (congrArg (·.fAt) q))).symm, hV⟩
    · skip
      have be2 : (x.fN != y.fN) = true := by simpa using e2
      have bbe2 : (x.fN == y.fN) = false := by simpa using e2
      have Ee2 := Lib.hid e2
      clear e2
      go_wp2
      go_ret
      exact ⟨ret_bool (deq_ne (fun q => Ee2.out (congrArg (·.fN) q))).symm, hV⟩
  · skip
    have be1 : (x.fKind != y.fKind) = true := by simpa using e1
    have bbe1 : (x.fKind == y.fKind) = false := by simpa using e1
    have Ee1 := Lib.hid e1
    clear e1
    go_wp2
    go_ret
    exact ⟨ret_bool (deq_ne (fun q => Ee1.out (congrArg (·.fKind) q))).symm, hV⟩
theorem PslicesEqualFuncEvidence_all : ∀ N : Nat, PslicesEqualFuncEvidence N ∧ PimplEqualEvidence N
  | 0 => ⟨fun _ _ h => absurd h (Nat.not_lt_zero _), fun _ _ h => absurd h (Nat.not_lt_zero _)⟩
  | N + 1 => by
    obtain ⟨i0, i1⟩ := PslicesEqualFuncEvidence_all N
    have j0 := stepPslicesEqualFuncEvidence N i0 i1
    have j1 := stepPimplEqualEvidence N i0 i1
    exact ⟨j0, j1⟩
theorem slicesEqualFuncEvidence_c (l m : List TEvidence) : ∀ (w : World) (K : Nat → Prop) (_ : ∀ b, K b → b < w.heap.size) (u v : Value) (_ : Rep w K (.sl (l.map TEvidence.enc)) [u]) (_ : Rep w K (.sl (m.map TEvidence.enc)) [v]),
    Calls Try.prog 185 #[u, v, .func (.func 186) #[] #[]] w fun e w' => e = .returned (.bool (deq l m)) ∧ Below w.heap.size w w' := (PslicesEqualFuncEvidence_all (SizeOf.sizeOf l + 1)).1 l m (Nat.lt_succ_self _)
theorem implEqualEvidence_c (x y : TEvidence) : ∀ (w : World) (K : Nat → Prop) (_ : ∀ b, K b → b < w.heap.size) (cs ds : List Value) (_ : Rep w K x.enc cs) (_ : Rep w K y.enc ds),
    Calls Try.prog 186 #[.agg cs.toArray, .agg ds.toArray] w fun e w' => e = .returned (.bool (deq x y)) ∧ Below w.heap.size w w' := (PslicesEqualFuncEvidence_all (SizeOf.sizeOf x + 1)).2 x y (Nat.lt_succ_self _)
def PimplEqualCore (N : Nat) : Prop := ∀ (x y : TCore), SizeOf.sizeOf x < N → ∀ (w : World) (K : Nat → Prop) (_ : ∀ b, K b → b < w.heap.size) (cs ds : List Value) (_ : Rep w K x.enc cs) (_ : Rep w K y.enc ds),
    Calls Try.prog 149 #[.agg cs.toArray, .agg ds.toArray] w fun e w' => e = .returned (.bool (deq x y)) ∧ Below w.heap.size w w'
def PslicesEqualFuncCore (N : Nat) : Prop := ∀ (l m : List TCore), SizeOf.sizeOf l < N → ∀ (w : World) (K : Nat → Prop) (_ : ∀ b, K b → b < w.heap.size) (u v : Value) (_ : Rep w K (.sl (l.map TCore.enc)) [u]) (_ : Rep w K (.sl (m.map TCore.enc)) [v]),
    Calls Try.prog 187 #[u, v, .func (.func 149) #[] #[]] w fun e w' => e = .returned (.bool (deq l m)) ∧ Below w.heap.size w w'
def PslicesEqualFuncCoreArm (N : Nat) : Prop := ∀ (l m : List TCoreArm), SizeOf.sizeOf l < N → ∀ (w : World) (K : Nat → Prop) (_ : ∀ b, K b → b < w.heap.size) (u v : Value) (_ : Rep w K (.sl (l.map TCoreArm.enc)) [u]) (_ : Rep w K (.sl (m.map TCoreArm.enc)) [v]),
    Calls Try.prog 188 #[u, v, .func (.func 189) #[] #[]] w fun e w' => e = .returned (.bool (deq l m)) ∧ Below w.heap.size w w'
def PimplEqualCoreF (N : Nat) : Prop := ∀ (x y : TCoreArm), SizeOf.sizeOf x < N → ∀ (w : World) (K : Nat → Prop) (_ : ∀ b, K b → b < w.heap.size) (cs ds : List Value) (_ : Rep w K x.enc cs) (_ : Rep w K y.enc ds),
    Calls Try.prog 189 #[.agg cs.toArray, .agg ds.toArray] w fun e w' => e = .returned (.bool (deq x y)) ∧ Below w.heap.size w w'
set_option maxRecDepth 100000 in
set_option maxHeartbeats 10000000 in
theorem stepPimplEqualCore (N : Nat) (_iPimplEqualCore : PimplEqualCore N) (iPslicesEqualFuncCore : PslicesEqualFuncCore N) (iPslicesEqualFuncCoreArm : PslicesEqualFuncCoreArm N) (_iPimplEqualCoreF : PimplEqualCoreF N)  : PimplEqualCore (N + 1) := by
  intro x y hN
  intro w K hK cs ds h k
  obtain ⟨c4, c5, c6, c7, c8, c9, c10, rfl, hKind, hTrait, hName, hN, hType, hTypeArgs, hEvidence, hArgs, hArms⟩ := TCore.opn h
  obtain ⟨d4, d5, d6, d7, d8, d9, d10, rfl, kKind, kTrait, kName, kN, kType, kTypeArgs, kEvidence, kArgs, kArms⟩ := TCore.opn k
  clear h k
  clear hKind kKind
  clear hTrait kTrait
  clear hName kName
  clear hN kN
  have hV : Below w.heap.size w ((w.alloc (.cells #[.int .i64 x.fKind, .string x.fTrait, .string x.fName, .int .i64 x.fN, c4, c5, c6, c7, c8, c9, c10] 143)).alloc (.cells #[.int .i64 y.fKind, .string y.fTrait, .string y.fName, .int .i64 y.fN, d4, d5, d6, d7, d8, d9, d10] 143)) := ((Below.refl _ _).alloc (Nat.le_refl _) _).alloc (by simp) _
  have hZ : w.heap.size + 1 < ((w.alloc (.cells #[.int .i64 x.fKind, .string x.fTrait, .string x.fName, .int .i64 x.fN, c4, c5, c6, c7, c8, c9, c10] 143)).alloc (.cells #[.int .i64 y.fKind, .string y.fTrait, .string y.fName, .int .i64 y.fN, d4, d5, d6, d7, d8, d9, d10] 143)).heap.size := by simp
  have HA := Lib.hid (show ((w.alloc (.cells #[.int .i64 x.fKind, .string x.fTrait, .string x.fName, .int .i64 x.fN, c4, c5, c6, c7, c8, c9, c10] 143)).alloc (.cells #[.int .i64 y.fKind, .string y.fTrait, .string y.fName, .int .i64 y.fN, d4, d5, d6, d7, d8, d9, d10] 143)).heap[w.heap.size]? = some (.cells #[.int .i64 x.fKind, .string x.fTrait, .string x.fName, .int .i64 x.fN, c4, c5, c6, c7, c8, c9, c10] 143 (0, 0)) from alloc_lt (by simp) (alloc_at rfl))
  have HB := Lib.hid (show ((w.alloc (.cells #[.int .i64 x.fKind, .string x.fTrait, .string x.fName, .int .i64 x.fN, c4, c5, c6, c7, c8, c9, c10] 143)).alloc (.cells #[.int .i64 y.fKind, .string y.fTrait, .string y.fName, .int .i64 y.fN, d4, d5, d6, d7, d8, d9, d10] 143)).heap[w.heap.size + 1]? = some (.cells #[.int .i64 y.fKind, .string y.fTrait, .string y.fName, .int .i64 y.fN, d4, d5, d6, d7, d8, d9, d10] 143 (0, 0)) from alloc_at (by simp))
  go_enter Try.func149, Try.ntmps149
  by_cases e1 : x.fKind = y.fKind
  · skip
    have be1 : (x.fKind != y.fKind) = false := by simp [e1]
    have bbe1 : (x.fKind == y.fKind) = true := by simp [e1]
    have Ee1 := Lib.hid e1
    clear e1
    by_cases e2 : x.fTrait = y.fTrait
    · skip
      have be2 : (!x.fTrait.toList == y.fTrait.toList) = false := by simp [e2]
      have bbe2 : (x.fTrait.toList == y.fTrait.toList) = true := by simp [e2]
      have Ee2 := Lib.hid e2
      clear e2
      by_cases e3 : x.fName = y.fName
      · skip
        have be3 : (!x.fName.toList == y.fName.toList) = false := by simp [e3]
        have bbe3 : (x.fName.toList == y.fName.toList) = true := by simp [e3]
        have Ee3 := Lib.hid e3
        clear e3
        by_cases e4 : x.fN = y.fN
        · skip
          have be4 : (x.fN != y.fN) = false := by simp [e4]
          have bbe4 : (x.fN == y.fN) = true := by simp [e4]
          have Ee4 := Lib.hid e4
          clear e4
          go_wp2_with fail
          refine (implEqualType_c x.fType y.fType _ K (fun b hb => Nat.lt_of_lt_of_le (hK b hb) hV.size) _ _ (Rep.ext hV hK hType) (Rep.ext hV hK kType)).mono ?_
          rintro e w1 ⟨rfl, hB1⟩
          replace HA := Lib.hid ((hB1.block (w.heap.size) (by have := hZ; omega)).trans HA.out)
          replace HB := Lib.hid ((hB1.block (w.heap.size + 1) (by have := hZ; omega)).trans HB.out)
          replace hZ := Nat.lt_of_lt_of_le hZ hB1.size
          replace hV := hV.trans (hB1.mono hV.size)
          have cA := row_cell HA.out
          have cB := row_cell HB.out
          by_cases e5 : x.fType = y.fType
          · skip
            rw [deq_eq e5]
            have Ee5 := Lib.hid e5
            clear e5
            go_wp2_with fail
            refine (implequalTypes_c x.fTypeArgs y.fTypeArgs _ K (fun b hb => Nat.lt_of_lt_of_le (hK b hb) hV.size) _ _ (Rep.ext hV hK hTypeArgs) (Rep.ext hV hK kTypeArgs)).mono ?_
            rintro e w2 ⟨rfl, hB2⟩
            replace HA := Lib.hid ((hB2.block (w.heap.size) (by have := hZ; omega)).trans HA.out)
            replace HB := Lib.hid ((hB2.block (w.heap.size + 1) (by have := hZ; omega)).trans HB.out)
            replace hZ := Nat.lt_of_lt_of_le hZ hB2.size
            replace hV := hV.trans (hB2.mono hV.size)
            clear cA cB
            have cA := row_cell HA.out
            have cB := row_cell HB.out
            by_cases e6 : x.fTypeArgs = y.fTypeArgs
            · skip
              rw [deq_eq e6]
              have Ee6 := Lib.hid e6
              clear e6
              go_wp2_with fail
              refine (slicesEqualFuncEvidence_c x.fEvidence y.fEvidence _ K (fun b hb => Nat.lt_of_lt_of_le (hK b hb) hV.size) _ _ (Rep.ext hV hK hEvidence) (Rep.ext hV hK kEvidence)).mono ?_
              rintro e w3 ⟨rfl, hB3⟩
              replace HA := Lib.hid ((hB3.block (w.heap.size) (by have := hZ; omega)).trans HA.out)
              replace HB := Lib.hid ((hB3.block (w.heap.size + 1) (by have := hZ; omega)).trans HB.out)
              replace hZ := Nat.lt_of_lt_of_le hZ hB3.size
              replace hV := hV.trans (hB3.mono hV.size)
              clear cA cB
              have cA := row_cell HA.out
              have cB := row_cell HB.out
              by_cases e7 : x.fEvidence = y.fEvidence
              · skip
                rw [deq_eq e7]
                have Ee7 := Lib.hid e7
                clear e7
                go_wp2_with fail
                refine (iPslicesEqualFuncCore x.fArgs y.fArgs (by have := TCore.lt_fArgs x; omega) _ K (fun b hb => Nat.lt_of_lt_of_le (hK b hb) hV.size) _ _ (Rep.ext hV hK hArgs) (Rep.ext hV hK kArgs)).mono ?_
                rintro e w4 ⟨rfl, hB4⟩
                replace HA := Lib.hid ((hB4.block (w.heap.size) (by have := hZ; omega)).trans HA.out)
                replace HB := Lib.hid ((hB4.block (w.heap.size + 1) (by have := hZ; omega)).trans HB.out)
                replace hZ := Nat.lt_of_lt_of_le hZ hB4.size
                replace hV := hV.trans (hB4.mono hV.size)
                clear cA cB
                have cA := row_cell HA.out
                have cB := row_cell HB.out
                by_cases e8 : x.fArgs = y.fArgs
                · skip
                  rw [deq_eq e8]
                  have Ee8 := Lib.hid e8
                  clear e8
                  go_wp2_with fail
                  refine (iPslicesEqualFuncCoreArm x.fArms y.fArms (by have := TCore.lt_fArms x; omega) _ K (fun b hb => Nat.lt_of_lt_of_le (hK b hb) hV.size) _ _ (Rep.ext hV hK hArms) (Rep.ext hV hK kArms)).mono ?_
                  rintro e w5 ⟨rfl, hB5⟩
                  replace HA := Lib.hid ((hB5.block (w.heap.size) (by have := hZ; omega)).trans HA.out)
                  replace HB := Lib.hid ((hB5.block (w.heap.size + 1) (by have := hZ; omega)).trans HB.out)
                  replace hZ := Nat.lt_of_lt_of_le hZ hB5.size
                  replace hV := hV.trans (hB5.mono hV.size)
                  clear cA cB
                  have cA := row_cell HA.out
                  have cB := row_cell HB.out
                  by_cases e9 : x.fArms = y.fArms
                  · skip
                    rw [deq_eq e9]
                    have Ee9 := Lib.hid e9
                    clear e9
                    go_wp2
                    go_ret
                    exact ⟨ret_bool (deq_eq (TCore.ext Ee1.out Ee2.out Ee3.out Ee4.out Ee5.out Ee6.out Ee7.out Ee8.out Ee9.out)).symm, hV⟩
                  · skip
                    rw [deq_ne e9]
                    have Ee9 := Lib.hid e9
                    clear e9
                    go_wp2
                    go_ret
                    exact ⟨ret_bool (deq_ne (fun q => Ee9.out (congrArg (·.fArms) q))).symm, hV⟩
                · skip
                  rw [deq_ne e8]
                  have Ee8 := Lib.hid e8
                  clear e8
                  go_wp2
                  go_ret
                  exact ⟨ret_bool (deq_ne (fun q => Ee8.out (congrArg (·.fArgs) q))).symm, hV⟩
              · skip
                rw [deq_ne e7]
                have Ee7 := Lib.hid e7
                clear e7
                go_wp2
                go_ret
                exact ⟨ret_bool (deq_ne (fun q => Ee7.out (congrArg (·.fEvidence) q))).symm, hV⟩
            · skip
              rw [deq_ne e6]
              have Ee6 := Lib.hid e6
              clear e6
              go_wp2
              go_ret
              exact ⟨ret_bool (deq_ne (fun q => Ee6.out (congrArg (·.fTypeArgs) q))).symm, hV⟩
          · skip
            rw [deq_ne e5]
            have Ee5 := Lib.hid e5
            clear e5
            go_wp2
            go_ret
            exact ⟨ret_bool (deq_ne (fun q => Ee5.out (congrArg (·.fType) q))).symm, hV⟩
        · skip
          have be4 : (x.fN != y.fN) = true := by simpa using e4
          have bbe4 : (x.fN == y.fN) = false := by simpa using e4
          have Ee4 := Lib.hid e4
          clear e4
          go_wp2
          go_ret
          exact ⟨ret_bool (deq_ne (fun q => Ee4.out (congrArg (·.fN) q))).symm, hV⟩
      · skip
        have be3 : (!x.fName.toList == y.fName.toList) = true := by simpa using fun q => e3 (ba_ext q)
        have bbe3 : (x.fName.toList == y.fName.toList) = false := by simpa using fun q => e3 (ba_ext q)
        have Ee3 := Lib.hid e3
        clear e3
        go_wp2
        go_ret
        exact ⟨ret_bool (deq_ne (fun q => Ee3.out (congrArg (·.fName) q))).symm, hV⟩
    · skip
      have be2 : (!x.fTrait.toList == y.fTrait.toList) = true := by simpa using fun q => e2 (ba_ext q)
      have bbe2 : (x.fTrait.toList == y.fTrait.toList) = false := by simpa using fun q => e2 (ba_ext q)
      have Ee2 := Lib.hid e2
      clear e2
      go_wp2
      go_ret
      exact ⟨ret_bool (deq_ne (fun q => Ee2.out (congrArg (·.fTrait) q))).symm, hV⟩
  · skip
    have be1 : (x.fKind != y.fKind) = true := by simpa using e1
    have bbe1 : (x.fKind == y.fKind) = false := by simpa using e1
    have Ee1 := Lib.hid e1
    clear e1
    go_wp2
    go_ret
    exact ⟨ret_bool (deq_ne (fun q => Ee1.out (congrArg (·.fKind) q))).symm, hV⟩
set_option maxRecDepth 100000 in
set_option maxHeartbeats 10000000 in
theorem stepPslicesEqualFuncCore (N : Nat) (iPimplEqualCore : PimplEqualCore N) (_iPslicesEqualFuncCore : PslicesEqualFuncCore N) (_iPslicesEqualFuncCoreArm : PslicesEqualFuncCoreArm N) (_iPimplEqualCoreF : PimplEqualCoreF N)  : PslicesEqualFuncCore (N + 1) := by
  intro l m hN
  intro w K hK u v h k
  obtain ⟨a, cap, rfl, hc, hm, -, hE⟩ := open_sl TCore.width h
  obtain ⟨a', cap', rfl, hc', hm', -, hE'⟩ := open_sl TCore.width k
  unfold maxLen at hm hm'
  clear h k
  by_cases hl : l.length = m.length
  · skip
    have bhl : (l.length != m.length) = false := by simp [hl]
    have bihl : ((l.length : Int) != (m.length : Int)) = false := by simp [hl]
    have hahl : l.length ≤ m.length := by omega
    have hbhl : m.length ≤ l.length := by omega
    have Hl0 := Lib.hid hl
    clear hl
    have Hg : Hid (deq (l.drop 0) (m.drop 0) = deq l m) := rfl
    go_enter Try.func187, Try.ntmps187
    go_wp2
    go_loopw [17] (fun i wr => ∃ (n : Nat), n ≤ l.length ∧ i = .int .i64 n ∧ Hid (deq (l.drop n) (m.drop n) = deq l m) ∧ Below w.heap.size w wr) (fun i _ => l.length - (intOf i).toNat)
    case atStart => exact ⟨0, Nat.zero_le _, rfl, Hg, Below.refl _ _⟩
    case round =>
      clear Hg
      obtain ⟨n, hn, rfl, Hs, hV⟩ := hrel
      by_cases hlt : n < l.length
      · skip
        have hlt' : n < m.length := by omega
        obtain ⟨b1, off1, rfl, hKb, cs, hcs, hr⟩ := hE n hlt
        obtain ⟨b2, off2, rfl, hKb', cs', hcs', hr'⟩ := hE' n hlt'
        have gcs := hcs.ext hV (hK b1 hKb)
        have gcs' := hcs'.ext hV (hK b2 hKb')
        have gr := Rep.ext hV hK hr
        have gr' := Rep.ext hV hK hr'
        have hK' : ∀ b, K b → b < wr.heap.size := fun b h => Nat.lt_of_lt_of_le (hK b h) hV.size
        have hmem : l[n] ∈ l := List.getElem_mem hlt
        have Hd : Hid (l.drop n = l[n] :: l.drop (n + 1)) := List.drop_eq_getElem_cons hlt
        have Hd' : Hid (m.drop n = m[n] :: m.drop (n + 1)) := List.drop_eq_getElem_cons hlt'
        clear hcs hcs' hr hr'
        generalize l[n] = u at *
        generalize m[n] = v at *
        have hl := (Rep.length _ _ gr).trans (TCore.width _)
        have hl' := (Rep.length _ _ gr').trans (TCore.width _)
        have hi : (Try.prog.info? 143).map (·.size) = some cs.length := by rw [hl]; exact infoQEqFI143
        have hi' : (Try.prog.info? 143).map (·.size) = some cs'.length := by rw [hl']; exact infoQEqFI143
        have ho := Rep.one _ _ gr
        have ho' := Rep.one _ _ gr'
        have Hl := Lib.hid hl; have Hl' := Lib.hid hl'
        clear hl hl'
        go_wp2_with (first | (with_reducible refine ld rfl 143 _ rfl b1 _ rfl cs gcs _ Try.underlying143 hi ?_) | (with_reducible refine stA rfl 143 _ _ rfl wr.heap.size 0 rfl cs rfl hi ho _ 143 (alloc_at rfl) (by rw [Hl.out]; decide) ?_))
        intro w1 hst1
        have hB1 := hst1.below ((Below.refl _ _).alloc (Nat.le_refl _) _) (Nat.le_refl _)
        have C1 := hst1.at_
        have l1 : wr.heap.size < w1.heap.size := by rw [hst1.size]; simp
        clear hst1
        have gcs2 := gcs'.ext hB1 (hK' b2 hKb')
        go_wp2_with (first | (with_reducible refine ld rfl 143 _ rfl b2 _ rfl cs' gcs2 _ Try.underlying143 hi' ?_) | (with_reducible refine stA rfl 143 _ _ rfl w1.heap.size 0 rfl cs' rfl hi' ho' _ 143 (alloc_at rfl) (by rw [Hl'.out]; decide) ?_))
        intro w2 hst2
        have hB2 := hst2.below ((Below.refl _ _).alloc (Nat.le_refl _) _) (Nat.le_refl _)
        have C2 := hst2.at_
        clear hst2
        have C1' := C1.ext hB2 l1
        have hI := hB1.trans (hB2.mono hB1.size)
        go_wp2_with (first | (with_reducible refine ld rfl 143 _ rfl wr.heap.size _ rfl cs C1' _ Try.underlying143 hi ?_) | (with_reducible refine ld rfl 143 _ rfl w1.heap.size _ rfl cs' C2 _ Try.underlying143 hi' ?_))
        refine (iPimplEqualCore u v (by have hsz := List.sizeOf_lt_of_mem hmem; omega) _ K (fun b hb => Nat.lt_of_lt_of_le (hK' b hb) hI.size) _ _ (Rep.ext hI hK' gr) (Rep.ext hI hK' gr')).mono ?_
        rintro e w3 ⟨rfl, hB3⟩
        replace hV := hV.trans ((hI.trans (hB3.mono hI.size)).mono hV.size)
        by_cases e1 : u = v
        · skip
          rw [deq_eq e1]
          have Hq := Lib.hid e1
          clear e1
          go_wp2
          go_roundw
          case rel =>
            refine ⟨n + 1, hlt, by go_num, ?_, hV⟩
            have e := Hs.out
            rw [Hd.out, Hd'.out, Hq.out, deq_cons] at e
            exact e
          case measure => simp [intOf]; omega
        · skip
          rw [deq_ne e1]
          have Hq := Lib.hid e1
          clear e1
          have e := Hs.out
          rw [Hd.out, Hd'.out, deq_ne (fun q => Hq.out (List.cons.inj q).1)] at e
          have Hf := Lib.hid e
          clear e
          go_wp2
          go_ret
          exact ⟨ret_bool Hf.out, hV⟩
      · skip
        obtain rfl : n = l.length := by omega
        go_wp2
        go_ret
        refine ⟨ret_bool ?_, hV⟩
        rw [← Hs.out, List.drop_length, List.drop_eq_nil_of_le (by omega)]
        exact (deq_eq rfl).symm
  · skip
    have bhl : (l.length != m.length) = true := by simpa using hl
    have bihl : ((l.length : Int) != (m.length : Int)) = true := by simp; omega
    have Hl0 := Lib.hid hl
    clear hl
    go_enter Try.func187, Try.ntmps187
    go_wp2
    go_ret
    exact ⟨ret_bool (deq_ne (fun q => Hl0.out (congrArg List.length q))).symm, Below.refl _ _⟩
set_option maxRecDepth 100000 in
set_option maxHeartbeats 10000000 in
theorem stepPslicesEqualFuncCoreArm (N : Nat) (_iPimplEqualCore : PimplEqualCore N) (_iPslicesEqualFuncCore : PslicesEqualFuncCore N) (_iPslicesEqualFuncCoreArm : PslicesEqualFuncCoreArm N) (iPimplEqualCoreF : PimplEqualCoreF N)  : PslicesEqualFuncCoreArm (N + 1) := by
  intro l m hN
  intro w K hK u v h k
  obtain ⟨a, cap, rfl, hc, hm, -, hE⟩ := open_sl TCoreArm.width h
  obtain ⟨a', cap', rfl, hc', hm', -, hE'⟩ := open_sl TCoreArm.width k
  unfold maxLen at hm hm'
  clear h k
  by_cases hl : l.length = m.length
  · skip
    have bhl : (l.length != m.length) = false := by simp [hl]
    have bihl : ((l.length : Int) != (m.length : Int)) = false := by simp [hl]
    have hahl : l.length ≤ m.length := by omega
    have hbhl : m.length ≤ l.length := by omega
    have Hl0 := Lib.hid hl
    clear hl
    have Hg : Hid (deq (l.drop 0) (m.drop 0) = deq l m) := rfl
    go_enter Try.func188, Try.ntmps188
    go_wp2
    go_loopw [17] (fun i wr => ∃ (n : Nat), n ≤ l.length ∧ i = .int .i64 n ∧ Hid (deq (l.drop n) (m.drop n) = deq l m) ∧ Below w.heap.size w wr) (fun i _ => l.length - (intOf i).toNat)
    case atStart => exact ⟨0, Nat.zero_le _, rfl, Hg, Below.refl _ _⟩
    case round =>
      clear Hg
      obtain ⟨n, hn, rfl, Hs, hV⟩ := hrel
      by_cases hlt : n < l.length
      · skip
        have hlt' : n < m.length := by omega
        obtain ⟨b1, off1, rfl, hKb, cs, hcs, hr⟩ := hE n hlt
        obtain ⟨b2, off2, rfl, hKb', cs', hcs', hr'⟩ := hE' n hlt'
        have gcs := hcs.ext hV (hK b1 hKb)
        have gcs' := hcs'.ext hV (hK b2 hKb')
        have gr := Rep.ext hV hK hr
        have gr' := Rep.ext hV hK hr'
        have hK' : ∀ b, K b → b < wr.heap.size := fun b h => Nat.lt_of_lt_of_le (hK b h) hV.size
        have hmem : l[n] ∈ l := List.getElem_mem hlt
        have Hd : Hid (l.drop n = l[n] :: l.drop (n + 1)) := List.drop_eq_getElem_cons hlt
        have Hd' : Hid (m.drop n = m[n] :: m.drop (n + 1)) := List.drop_eq_getElem_cons hlt'
        clear hcs hcs' hr hr'
        generalize l[n] = u at *
        generalize m[n] = v at *
        have hl := (Rep.length _ _ gr).trans (TCoreArm.width _)
        have hl' := (Rep.length _ _ gr').trans (TCoreArm.width _)
        have hi : (Try.prog.info? 239).map (·.size) = some cs.length := by rw [hl]; exact infoQEqFI239
        have hi' : (Try.prog.info? 239).map (·.size) = some cs'.length := by rw [hl']; exact infoQEqFI239
        have ho := Rep.one _ _ gr
        have ho' := Rep.one _ _ gr'
        have Hl := Lib.hid hl; have Hl' := Lib.hid hl'
        clear hl hl'
        go_wp2_with (first | (with_reducible refine ld rfl 239 _ rfl b1 _ rfl cs gcs _ Try.underlying239 hi ?_) | (with_reducible refine stA rfl 239 _ _ rfl wr.heap.size 0 rfl cs rfl hi ho _ 239 (alloc_at rfl) (by rw [Hl.out]; decide) ?_))
        intro w1 hst1
        have hB1 := hst1.below ((Below.refl _ _).alloc (Nat.le_refl _) _) (Nat.le_refl _)
        have C1 := hst1.at_
        have l1 : wr.heap.size < w1.heap.size := by rw [hst1.size]; simp
        clear hst1
        have gcs2 := gcs'.ext hB1 (hK' b2 hKb')
        go_wp2_with (first | (with_reducible refine ld rfl 239 _ rfl b2 _ rfl cs' gcs2 _ Try.underlying239 hi' ?_) | (with_reducible refine stA rfl 239 _ _ rfl w1.heap.size 0 rfl cs' rfl hi' ho' _ 239 (alloc_at rfl) (by rw [Hl'.out]; decide) ?_))
        intro w2 hst2
        have hB2 := hst2.below ((Below.refl _ _).alloc (Nat.le_refl _) _) (Nat.le_refl _)
        have C2 := hst2.at_
        clear hst2
        have C1' := C1.ext hB2 l1
        have hI := hB1.trans (hB2.mono hB1.size)
        go_wp2_with (first | (with_reducible refine ld rfl 239 _ rfl wr.heap.size _ rfl cs C1' _ Try.underlying239 hi ?_) | (with_reducible refine ld rfl 239 _ rfl w1.heap.size _ rfl cs' C2 _ Try.underlying239 hi' ?_))
        refine (iPimplEqualCoreF u v (by have hsz := List.sizeOf_lt_of_mem hmem; omega) _ K (fun b hb => Nat.lt_of_lt_of_le (hK' b hb) hI.size) _ _ (Rep.ext hI hK' gr) (Rep.ext hI hK' gr')).mono ?_
        rintro e w3 ⟨rfl, hB3⟩
        replace hV := hV.trans ((hI.trans (hB3.mono hI.size)).mono hV.size)
        by_cases e1 : u = v
        · skip
          rw [deq_eq e1]
          have Hq := Lib.hid e1
          clear e1
          go_wp2
          go_roundw
          case rel =>
            refine ⟨n + 1, hlt, by go_num, ?_, hV⟩
            have e := Hs.out
            rw [Hd.out, Hd'.out, Hq.out, deq_cons] at e
            exact e
          case measure => simp [intOf]; omega
        · skip
          rw [deq_ne e1]
          have Hq := Lib.hid e1
          clear e1
          have e := Hs.out
          rw [Hd.out, Hd'.out, deq_ne (fun q => Hq.out (List.cons.inj q).1)] at e
          have Hf := Lib.hid e
          clear e
          go_wp2
          go_ret
          exact ⟨ret_bool Hf.out, hV⟩
      · skip
        obtain rfl : n = l.length := by omega
        go_wp2
        go_ret
        refine ⟨ret_bool ?_, hV⟩
        rw [← Hs.out, List.drop_length, List.drop_eq_nil_of_le (by omega)]
        exact (deq_eq rfl).symm
  · skip
    have bhl : (l.length != m.length) = true := by simpa using hl
    have bihl : ((l.length : Int) != (m.length : Int)) = true := by simp; omega
    have Hl0 := Lib.hid hl
    clear hl
    go_enter Try.func188, Try.ntmps188
    go_wp2
    go_ret
    exact ⟨ret_bool (deq_ne (fun q => Hl0.out (congrArg List.length q))).symm, Below.refl _ _⟩
set_option maxRecDepth 100000 in
set_option maxHeartbeats 10000000 in
theorem stepPimplEqualCoreF (N : Nat) (iPimplEqualCore : PimplEqualCore N) (_iPslicesEqualFuncCore : PslicesEqualFuncCore N) (_iPslicesEqualFuncCoreArm : PslicesEqualFuncCoreArm N) (_iPimplEqualCoreF : PimplEqualCoreF N)  : PimplEqualCoreF (N + 1) := by
  intro x y hN
  intro w K hK cs ds h k
  obtain ⟨c1, c2, c3, c4, c5, c6, c7, c8, c9, c10, c11, c12, rfl, hConstructor, hVars, hBody⟩ := TCoreArm.opn h
  obtain ⟨d1, d2, d3, d4, d5, d6, d7, d8, d9, d10, d11, d12, rfl, kConstructor, kVars, kBody⟩ := TCoreArm.opn k
  clear h k
  clear hConstructor kConstructor
  have hV : Below w.heap.size w ((w.alloc (.cells #[.string x.fConstructor, c1, c2, c3, c4, c5, c6, c7, c8, c9, c10, c11, c12] 239)).alloc (.cells #[.string y.fConstructor, d1, d2, d3, d4, d5, d6, d7, d8, d9, d10, d11, d12] 239)) := ((Below.refl _ _).alloc (Nat.le_refl _) _).alloc (by simp) _
  have hZ : w.heap.size + 1 < ((w.alloc (.cells #[.string x.fConstructor, c1, c2, c3, c4, c5, c6, c7, c8, c9, c10, c11, c12] 239)).alloc (.cells #[.string y.fConstructor, d1, d2, d3, d4, d5, d6, d7, d8, d9, d10, d11, d12] 239)).heap.size := by simp
  have HA := Lib.hid (show ((w.alloc (.cells #[.string x.fConstructor, c1, c2, c3, c4, c5, c6, c7, c8, c9, c10, c11, c12] 239)).alloc (.cells #[.string y.fConstructor, d1, d2, d3, d4, d5, d6, d7, d8, d9, d10, d11, d12] 239)).heap[w.heap.size]? = some (.cells #[.string x.fConstructor, c1, c2, c3, c4, c5, c6, c7, c8, c9, c10, c11, c12] 239 (0, 0)) from alloc_lt (by simp) (alloc_at rfl))
  have HB := Lib.hid (show ((w.alloc (.cells #[.string x.fConstructor, c1, c2, c3, c4, c5, c6, c7, c8, c9, c10, c11, c12] 239)).alloc (.cells #[.string y.fConstructor, d1, d2, d3, d4, d5, d6, d7, d8, d9, d10, d11, d12] 239)).heap[w.heap.size + 1]? = some (.cells #[.string y.fConstructor, d1, d2, d3, d4, d5, d6, d7, d8, d9, d10, d11, d12] 239 (0, 0)) from alloc_at (by simp))
  go_enter Try.func189, Try.ntmps189
  by_cases e1 : x.fConstructor = y.fConstructor
  · skip
    have be1 : (!x.fConstructor.toList == y.fConstructor.toList) = false := by simp [e1]
    have bbe1 : (x.fConstructor.toList == y.fConstructor.toList) = true := by simp [e1]
    have Ee1 := Lib.hid e1
    clear e1
    go_wp2_with fail
    refine (slicesEqualString_c x.fVars y.fVars _ K (fun b hb => Nat.lt_of_lt_of_le (hK b hb) hV.size) _ _ (Rep.ext hV hK hVars) (Rep.ext hV hK kVars)).mono ?_
    rintro e w1 ⟨rfl, hB1⟩
    replace HA := Lib.hid ((hB1.block (w.heap.size) (by have := hZ; omega)).trans HA.out)
    replace HB := Lib.hid ((hB1.block (w.heap.size + 1) (by have := hZ; omega)).trans HB.out)
    replace hZ := Nat.lt_of_lt_of_le hZ hB1.size
    replace hV := hV.trans (hB1.mono hV.size)
    have cA := row_cell HA.out
    have cB := row_cell HB.out
    by_cases e2 : x.fVars = y.fVars
    · skip
      rw [deq_eq e2]
      have Ee2 := Lib.hid e2
      clear e2
      go_wp2_with fail
      refine (iPimplEqualCore x.fBody y.fBody (by have := TCoreArm.lt_fBody x; omega) _ K (fun b hb => Nat.lt_of_lt_of_le (hK b hb) hV.size) _ _ (Rep.ext hV hK hBody) (Rep.ext hV hK kBody)).mono ?_
      rintro e w2 ⟨rfl, hB2⟩
      replace HA := Lib.hid ((hB2.block (w.heap.size) (by have := hZ; omega)).trans HA.out)
      replace HB := Lib.hid ((hB2.block (w.heap.size + 1) (by have := hZ; omega)).trans HB.out)
      replace hZ := Nat.lt_of_lt_of_le hZ hB2.size
      replace hV := hV.trans (hB2.mono hV.size)
      clear cA cB
      have cA := row_cell HA.out
      have cB := row_cell HB.out
      by_cases e3 : x.fBody = y.fBody
      · skip
        rw [deq_eq e3]
        have Ee3 := Lib.hid e3
        clear e3
        go_wp2
        go_ret
        exact ⟨ret_bool (deq_eq (TCoreArm.ext Ee1.out Ee2.out Ee3.out)).symm, hV⟩
      · skip
        rw [deq_ne e3]
        have Ee3 := Lib.hid e3
        clear e3
        go_wp2
        go_ret
        exact ⟨ret_bool (deq_ne (fun q => Ee3.out (congrArg (·.fBody) q))).symm, hV⟩
    · skip
      rw [deq_ne e2]
      have Ee2 := Lib.hid e2
      clear e2
      go_wp2
      go_ret
      exact ⟨ret_bool (deq_ne (fun q => Ee2.out (congrArg (·.fVars) q))).symm, hV⟩
  · skip
    have be1 : (!x.fConstructor.toList == y.fConstructor.toList) = true := by simpa using fun q => e1 (ba_ext q)
    have bbe1 : (x.fConstructor.toList == y.fConstructor.toList) = false := by simpa using fun q => e1 (ba_ext q)
    have Ee1 := Lib.hid e1
    clear e1
    go_wp2
    go_ret
    exact ⟨ret_bool (deq_ne (fun q => Ee1.out (congrArg (·.fConstructor) q))).symm, hV⟩
theorem PimplEqualCore_all : ∀ N : Nat, PimplEqualCore N ∧ PslicesEqualFuncCore N ∧ PslicesEqualFuncCoreArm N ∧ PimplEqualCoreF N
  | 0 => ⟨fun _ _ h => absurd h (Nat.not_lt_zero _), fun _ _ h => absurd h (Nat.not_lt_zero _), fun _ _ h => absurd h (Nat.not_lt_zero _), fun _ _ h => absurd h (Nat.not_lt_zero _)⟩
  | N + 1 => by
    obtain ⟨i0, i1, i2, i3⟩ := PimplEqualCore_all N
    have j0 := stepPimplEqualCore N i0 i1 i2 i3
    have j1 := stepPslicesEqualFuncCore N i0 i1 i2 i3
    have j2 := stepPslicesEqualFuncCoreArm N i0 i1 i2 i3
    have j3 := stepPimplEqualCoreF N i0 i1 i2 i3
    exact ⟨j0, j1, j2, j3⟩
theorem implEqualCore_c (x y : TCore) : ∀ (w : World) (K : Nat → Prop) (_ : ∀ b, K b → b < w.heap.size) (cs ds : List Value) (_ : Rep w K x.enc cs) (_ : Rep w K y.enc ds),
    Calls Try.prog 149 #[.agg cs.toArray, .agg ds.toArray] w fun e w' => e = .returned (.bool (deq x y)) ∧ Below w.heap.size w w' := (PimplEqualCore_all (SizeOf.sizeOf x + 1)).1 x y (Nat.lt_succ_self _)
theorem slicesEqualFuncCore_c (l m : List TCore) : ∀ (w : World) (K : Nat → Prop) (_ : ∀ b, K b → b < w.heap.size) (u v : Value) (_ : Rep w K (.sl (l.map TCore.enc)) [u]) (_ : Rep w K (.sl (m.map TCore.enc)) [v]),
    Calls Try.prog 187 #[u, v, .func (.func 149) #[] #[]] w fun e w' => e = .returned (.bool (deq l m)) ∧ Below w.heap.size w w' := (PimplEqualCore_all (SizeOf.sizeOf l + 1)).2.1 l m (Nat.lt_succ_self _)
theorem slicesEqualFuncCoreArm_c (l m : List TCoreArm) : ∀ (w : World) (K : Nat → Prop) (_ : ∀ b, K b → b < w.heap.size) (u v : Value) (_ : Rep w K (.sl (l.map TCoreArm.enc)) [u]) (_ : Rep w K (.sl (m.map TCoreArm.enc)) [v]),
    Calls Try.prog 188 #[u, v, .func (.func 189) #[] #[]] w fun e w' => e = .returned (.bool (deq l m)) ∧ Below w.heap.size w w' := (PimplEqualCore_all (SizeOf.sizeOf l + 1)).2.2.1 l m (Nat.lt_succ_self _)
theorem implEqualCoreF_c (x y : TCoreArm) : ∀ (w : World) (K : Nat → Prop) (_ : ∀ b, K b → b < w.heap.size) (cs ds : List Value) (_ : Rep w K x.enc cs) (_ : Rep w K y.enc ds),
    Calls Try.prog 189 #[.agg cs.toArray, .agg ds.toArray] w fun e w' => e = .returned (.bool (deq x y)) ∧ Below w.heap.size w w' := (PimplEqualCore_all (SizeOf.sizeOf x + 1)).2.2.2 x y (Nat.lt_succ_self _)
set_option maxRecDepth 100000 in
set_option maxHeartbeats 10000000 in
theorem implequalUnit_c (x y : TUnit) : ∀ (w : World) (K : Nat → Prop) (_ : ∀ b, K b → b < w.heap.size) (cs ds : List Value) (_ : Rep w K x.enc cs) (_ : Rep w K y.enc ds),
    Calls Try.prog 100 #[.agg cs.toArray, .agg ds.toArray] w fun e w' => e = .returned (.bool (deq x y)) ∧ Below w.heap.size w w' := by
  intro w K hK cs ds h k
  obtain ⟨c4, c5, c6, c7, c8, c9, c10, c11, c12, c13, c14, c15, c16, c17, c18, c19, c20, rfl, hKind, hPackage, hAt, hSub, hVars, hWhere, hParams, hResult, hBody⟩ := TUnit.opn h
  obtain ⟨d4, d5, d6, d7, d8, d9, d10, d11, d12, d13, d14, d15, d16, d17, d18, d19, d20, rfl, kKind, kPackage, kAt, kSub, kVars, kWhere, kParams, kResult, kBody⟩ := TUnit.opn k
  clear h k
  clear hKind kKind
  clear hPackage kPackage
  clear hAt kAt
  clear hSub kSub
  have hV : Below w.heap.size w ((w.alloc (.cells #[.int .i64 x.fKind, .int .i64 x.fPackage, .int .i64 x.fAt, .int .i64 x.fSub, c4, c5, c6, c7, c8, c9, c10, c11, c12, c13, c14, c15, c16, c17, c18, c19, c20] 176)).alloc (.cells #[.int .i64 y.fKind, .int .i64 y.fPackage, .int .i64 y.fAt, .int .i64 y.fSub, d4, d5, d6, d7, d8, d9, d10, d11, d12, d13, d14, d15, d16, d17, d18, d19, d20] 176)) := ((Below.refl _ _).alloc (Nat.le_refl _) _).alloc (by simp) _
  have hZ : w.heap.size + 1 < ((w.alloc (.cells #[.int .i64 x.fKind, .int .i64 x.fPackage, .int .i64 x.fAt, .int .i64 x.fSub, c4, c5, c6, c7, c8, c9, c10, c11, c12, c13, c14, c15, c16, c17, c18, c19, c20] 176)).alloc (.cells #[.int .i64 y.fKind, .int .i64 y.fPackage, .int .i64 y.fAt, .int .i64 y.fSub, d4, d5, d6, d7, d8, d9, d10, d11, d12, d13, d14, d15, d16, d17, d18, d19, d20] 176)).heap.size := by simp
  have HA := Lib.hid (show ((w.alloc (.cells #[.int .i64 x.fKind, .int .i64 x.fPackage, .int .i64 x.fAt, .int .i64 x.fSub, c4, c5, c6, c7, c8, c9, c10, c11, c12, c13, c14, c15, c16, c17, c18, c19, c20] 176)).alloc (.cells #[.int .i64 y.fKind, .int .i64 y.fPackage, .int .i64 y.fAt, .int .i64 y.fSub, d4, d5, d6, d7, d8, d9, d10, d11, d12, d13, d14, d15, d16, d17, d18, d19, d20] 176)).heap[w.heap.size]? = some (.cells #[.int .i64 x.fKind, .int .i64 x.fPackage, .int .i64 x.fAt, .int .i64 x.fSub, c4, c5, c6, c7, c8, c9, c10, c11, c12, c13, c14, c15, c16, c17, c18, c19, c20] 176 (0, 0)) from alloc_lt (by simp) (alloc_at rfl))
  have HB := Lib.hid (show ((w.alloc (.cells #[.int .i64 x.fKind, .int .i64 x.fPackage, .int .i64 x.fAt, .int .i64 x.fSub, c4, c5, c6, c7, c8, c9, c10, c11, c12, c13, c14, c15, c16, c17, c18, c19, c20] 176)).alloc (.cells #[.int .i64 y.fKind, .int .i64 y.fPackage, .int .i64 y.fAt, .int .i64 y.fSub, d4, d5, d6, d7, d8, d9, d10, d11, d12, d13, d14, d15, d16, d17, d18, d19, d20] 176)).heap[w.heap.size + 1]? = some (.cells #[.int .i64 y.fKind, .int .i64 y.fPackage, .int .i64 y.fAt, .int .i64 y.fSub, d4, d5, d6, d7, d8, d9, d10, d11, d12, d13, d14, d15, d16, d17, d18, d19, d20] 176 (0, 0)) from alloc_at (by simp))
  go_enter Try.func100, Try.ntmps100
  by_cases e1 : x.fKind = y.fKind
  · skip
    have be1 : (x.fKind != y.fKind) = false := by simp [e1]
    have bbe1 : (x.fKind == y.fKind) = true := by simp [e1]
    have Ee1 := Lib.hid e1
    clear e1
    by_cases e2 : x.fPackage = y.fPackage
    · skip
      have be2 : (x.fPackage != y.fPackage) = false := by simp [e2]
      have bbe2 : (x.fPackage == y.fPackage) = true := by simp [e2]
      have Ee2 := Lib.hid e2
      clear e2
      by_cases e3 : x.fAt = y.fAt
      · skip
        have be3 : (x.fAt != y.fAt) = false := by simp [e3]
        have bbe3 : (x.fAt == y.fAt) = true := by simp [e3]
        have Ee3 := Lib.hid e3
        clear e3
        by_cases e4 : x.fSub = y.fSub
        · skip
          have be4 : (x.fSub != y.fSub) = false := by simp [e4]
          have bbe4 : (x.fSub == y.fSub) = true := by simp [e4]
          have Ee4 := Lib.hid e4
          clear e4
          go_wp2_with fail
          refine (slicesEqualString_c x.fVars y.fVars _ K (fun b hb => Nat.lt_of_lt_of_le (hK b hb) hV.size) _ _ (Rep.ext hV hK hVars) (Rep.ext hV hK kVars)).mono ?_
          rintro e w1 ⟨rfl, hB1⟩
          replace HA := Lib.hid ((hB1.block (w.heap.size) (by have := hZ; omega)).trans HA.out)
          replace HB := Lib.hid ((hB1.block (w.heap.size + 1) (by have := hZ; omega)).trans HB.out)
          replace hZ := Nat.lt_of_lt_of_le hZ hB1.size
          replace hV := hV.trans (hB1.mono hV.size)
          have cA := row_cell HA.out
          have cB := row_cell HB.out
          by_cases e5 : x.fVars = y.fVars
          · skip
            rw [deq_eq e5]
            have Ee5 := Lib.hid e5
            clear e5
            go_wp2_with fail
            refine (slicesEqualFuncBound_c x.fWhere y.fWhere _ K (fun b hb => Nat.lt_of_lt_of_le (hK b hb) hV.size) _ _ (Rep.ext hV hK hWhere) (Rep.ext hV hK kWhere)).mono ?_
            rintro e w2 ⟨rfl, hB2⟩
            replace HA := Lib.hid ((hB2.block (w.heap.size) (by have := hZ; omega)).trans HA.out)
            replace HB := Lib.hid ((hB2.block (w.heap.size + 1) (by have := hZ; omega)).trans HB.out)
            replace hZ := Nat.lt_of_lt_of_le hZ hB2.size
            replace hV := hV.trans (hB2.mono hV.size)
            clear cA cB
            have cA := row_cell HA.out
            have cB := row_cell HB.out
            by_cases e6 : x.fWhere = y.fWhere
            · skip
              rw [deq_eq e6]
              have Ee6 := Lib.hid e6
              clear e6
              go_wp2_with fail
              refine (slicesEqualFuncParam_c x.fParams y.fParams _ K (fun b hb => Nat.lt_of_lt_of_le (hK b hb) hV.size) _ _ (Rep.ext hV hK hParams) (Rep.ext hV hK kParams)).mono ?_
              rintro e w3 ⟨rfl, hB3⟩
              replace HA := Lib.hid ((hB3.block (w.heap.size) (by have := hZ; omega)).trans HA.out)
              replace HB := Lib.hid ((hB3.block (w.heap.size + 1) (by have := hZ; omega)).trans HB.out)
              replace hZ := Nat.lt_of_lt_of_le hZ hB3.size
              replace hV := hV.trans (hB3.mono hV.size)
              clear cA cB
              have cA := row_cell HA.out
              have cB := row_cell HB.out
              by_cases e7 : x.fParams = y.fParams
              · skip
                rw [deq_eq e7]
                have Ee7 := Lib.hid e7
                clear e7
                go_wp2_with fail
                refine (implEqualType_c x.fResult y.fResult _ K (fun b hb => Nat.lt_of_lt_of_le (hK b hb) hV.size) _ _ (Rep.ext hV hK hResult) (Rep.ext hV hK kResult)).mono ?_
                rintro e w4 ⟨rfl, hB4⟩
                replace HA := Lib.hid ((hB4.block (w.heap.size) (by have := hZ; omega)).trans HA.out)
                replace HB := Lib.hid ((hB4.block (w.heap.size + 1) (by have := hZ; omega)).trans HB.out)
                replace hZ := Nat.lt_of_lt_of_le hZ hB4.size
                replace hV := hV.trans (hB4.mono hV.size)
                clear cA cB
                have cA := row_cell HA.out
                have cB := row_cell HB.out
                by_cases e8 : x.fResult = y.fResult
                · skip
                  rw [deq_eq e8]
                  have Ee8 := Lib.hid e8
                  clear e8
                  go_wp2_with fail
                  refine (implEqualCore_c x.fBody y.fBody _ K (fun b hb => Nat.lt_of_lt_of_le (hK b hb) hV.size) _ _ (Rep.ext hV hK hBody) (Rep.ext hV hK kBody)).mono ?_
                  rintro e w5 ⟨rfl, hB5⟩
                  replace HA := Lib.hid ((hB5.block (w.heap.size) (by have := hZ; omega)).trans HA.out)
                  replace HB := Lib.hid ((hB5.block (w.heap.size + 1) (by have := hZ; omega)).trans HB.out)
                  replace hZ := Nat.lt_of_lt_of_le hZ hB5.size
                  replace hV := hV.trans (hB5.mono hV.size)
                  clear cA cB
                  have cA := row_cell HA.out
                  have cB := row_cell HB.out
                  by_cases e9 : x.fBody = y.fBody
                  · skip
                    rw [deq_eq e9]
                    have Ee9 := Lib.hid e9
                    clear e9
                    go_wp2
                    go_ret
                    exact ⟨ret_bool (deq_eq (TUnit.ext Ee1.out Ee2.out Ee3.out Ee4.out Ee5.out Ee6.out Ee7.out Ee8.out Ee9.out)).symm, hV⟩
                  · skip
                    rw [deq_ne e9]
                    have Ee9 := Lib.hid e9
                    clear e9
                    go_wp2
                    go_ret
                    exact ⟨ret_bool (deq_ne (fun q => Ee9.out (congrArg (·.fBody) q))).symm, hV⟩
                · skip
                  rw [deq_ne e8]
                  have Ee8 := Lib.hid e8
                  clear e8
                  go_wp2
                  go_ret
                  exact ⟨ret_bool (deq_ne (fun q => Ee8.out (congrArg (·.fResult) q))).symm, hV⟩
              · skip
                rw [deq_ne e7]
                have Ee7 := Lib.hid e7
                clear e7
                go_wp2
                go_ret
                exact ⟨ret_bool (deq_ne (fun q => Ee7.out (congrArg (·.fParams) q))).symm, hV⟩
            · skip
              rw [deq_ne e6]
              have Ee6 := Lib.hid e6
              clear e6
              go_wp2
              go_ret
              exact ⟨ret_bool (deq_ne (fun q => Ee6.out (congrArg (·.fWhere) q))).symm, hV⟩
          · skip
            rw [deq_ne e5]
            have Ee5 := Lib.hid e5
            clear e5
            go_wp2
            go_ret
            exact ⟨ret_bool (deq_ne (fun q => Ee5.out (congrArg (·.fVars) q))).symm, hV⟩
        · skip
          have be4 : (x.fSub != y.fSub) = true := by simpa using e4
          have bbe4 : (x.fSub == y.fSub) = false := by simpa using e4
          have Ee4 := Lib.hid e4
          clear e4
          go_wp2
          go_ret
          exact ⟨ret_bool (deq_ne (fun q => Ee4.out (congrArg (·.fSub) q))).symm, hV⟩
      · skip
        have be3 : (x.fAt != y.fAt) = true := by simpa using e3
        have bbe3 : (x.fAt == y.fAt) = false := by simpa using e3
        have Ee3 := Lib.hid e3
        clear e3
        go_wp2
        go_ret
        exact ⟨ret_bool (deq_ne (fun q => Ee3.out (congrArg (·.fAt) q))).symm, hV⟩
    · skip
      have be2 : (x.fPackage != y.fPackage) = true := by simpa using e2
      have bbe2 : (x.fPackage == y.fPackage) = false := by simpa using e2
      have Ee2 := Lib.hid e2
      clear e2
      go_wp2
      go_ret
      exact ⟨ret_bool (deq_ne (fun q => Ee2.out (congrArg (·.fPackage) q))).symm, hV⟩
  · skip
    have be1 : (x.fKind != y.fKind) = true := by simpa using e1
    have bbe1 : (x.fKind == y.fKind) = false := by simpa using e1
    have Ee1 := Lib.hid e1
    clear e1
    go_wp2
    go_ret
    exact ⟨ret_bool (deq_ne (fun q => Ee1.out (congrArg (·.fKind) q))).symm, hV⟩
set_option maxRecDepth 100000 in
set_option maxHeartbeats 10000000 in
theorem slicesEqualFuncUnit_c (l m : List TUnit) : ∀ (w : World) (K : Nat → Prop) (_ : ∀ b, K b → b < w.heap.size) (u v : Value) (_ : Rep w K (.sl (l.map TUnit.enc)) [u]) (_ : Rep w K (.sl (m.map TUnit.enc)) [v]),
    Calls Try.prog 99 #[u, v, .func (.func 100) #[] #[]] w fun e w' => e = .returned (.bool (deq l m)) ∧ Below w.heap.size w w' := by
  intro w K hK u v h k
  obtain ⟨a, cap, rfl, hc, hm, -, hE⟩ := open_sl TUnit.width h
  obtain ⟨a', cap', rfl, hc', hm', -, hE'⟩ := open_sl TUnit.width k
  unfold maxLen at hm hm'
  clear h k
  by_cases hl : l.length = m.length
  · skip
    have bhl : (l.length != m.length) = false := by simp [hl]
    have bihl : ((l.length : Int) != (m.length : Int)) = false := by simp [hl]
    have hahl : l.length ≤ m.length := by omega
    have hbhl : m.length ≤ l.length := by omega
    have Hl0 := Lib.hid hl
    clear hl
    have Hg : Hid (deq (l.drop 0) (m.drop 0) = deq l m) := rfl
    go_enter Try.func99, Try.ntmps99
    go_wp2
    go_loopw [17] (fun i wr => ∃ (n : Nat), n ≤ l.length ∧ i = .int .i64 n ∧ Hid (deq (l.drop n) (m.drop n) = deq l m) ∧ Below w.heap.size w wr) (fun i _ => l.length - (intOf i).toNat)
    case atStart => exact ⟨0, Nat.zero_le _, rfl, Hg, Below.refl _ _⟩
    case round =>
      clear Hg
      obtain ⟨n, hn, rfl, Hs, hV⟩ := hrel
      by_cases hlt : n < l.length
      · skip
        have hlt' : n < m.length := by omega
        obtain ⟨b1, off1, rfl, hKb, cs, hcs, hr⟩ := hE n hlt
        obtain ⟨b2, off2, rfl, hKb', cs', hcs', hr'⟩ := hE' n hlt'
        have gcs := hcs.ext hV (hK b1 hKb)
        have gcs' := hcs'.ext hV (hK b2 hKb')
        have gr := Rep.ext hV hK hr
        have gr' := Rep.ext hV hK hr'
        have hK' : ∀ b, K b → b < wr.heap.size := fun b h => Nat.lt_of_lt_of_le (hK b h) hV.size
        have hmem : l[n] ∈ l := List.getElem_mem hlt
        have Hd : Hid (l.drop n = l[n] :: l.drop (n + 1)) := List.drop_eq_getElem_cons hlt
        have Hd' : Hid (m.drop n = m[n] :: m.drop (n + 1)) := List.drop_eq_getElem_cons hlt'
        clear hcs hcs' hr hr'
        generalize l[n] = u at *
        generalize m[n] = v at *
        have hl := (Rep.length _ _ gr).trans (TUnit.width _)
        have hl' := (Rep.length _ _ gr').trans (TUnit.width _)
        have hi : (Try.prog.info? 176).map (·.size) = some cs.length := by rw [hl]; exact infoQEqFI176
        have hi' : (Try.prog.info? 176).map (·.size) = some cs'.length := by rw [hl']; exact infoQEqFI176
        have ho := Rep.one _ _ gr
        have ho' := Rep.one _ _ gr'
        have Hl := Lib.hid hl; have Hl' := Lib.hid hl'
        clear hl hl'
        go_wp2_with (first | (with_reducible refine ld rfl 176 _ rfl b1 _ rfl cs gcs _ Try.underlying176 hi ?_) | (with_reducible refine stA rfl 176 _ _ rfl wr.heap.size 0 rfl cs rfl hi ho _ 176 (alloc_at rfl) (by rw [Hl.out]; decide) ?_))
        intro w1 hst1
        have hB1 := hst1.below ((Below.refl _ _).alloc (Nat.le_refl _) _) (Nat.le_refl _)
        have C1 := hst1.at_
        have l1 : wr.heap.size < w1.heap.size := by rw [hst1.size]; simp
        clear hst1
        have gcs2 := gcs'.ext hB1 (hK' b2 hKb')
        go_wp2_with (first | (with_reducible refine ld rfl 176 _ rfl b2 _ rfl cs' gcs2 _ Try.underlying176 hi' ?_) | (with_reducible refine stA rfl 176 _ _ rfl w1.heap.size 0 rfl cs' rfl hi' ho' _ 176 (alloc_at rfl) (by rw [Hl'.out]; decide) ?_))
        intro w2 hst2
        have hB2 := hst2.below ((Below.refl _ _).alloc (Nat.le_refl _) _) (Nat.le_refl _)
        have C2 := hst2.at_
        clear hst2
        have C1' := C1.ext hB2 l1
        have hI := hB1.trans (hB2.mono hB1.size)
        go_wp2_with (first | (with_reducible refine ld rfl 176 _ rfl wr.heap.size _ rfl cs C1' _ Try.underlying176 hi ?_) | (with_reducible refine ld rfl 176 _ rfl w1.heap.size _ rfl cs' C2 _ Try.underlying176 hi' ?_))
        refine (implequalUnit_c u v _ K (fun b hb => Nat.lt_of_lt_of_le (hK' b hb) hI.size) _ _ (Rep.ext hI hK' gr) (Rep.ext hI hK' gr')).mono ?_
        rintro e w3 ⟨rfl, hB3⟩
        replace hV := hV.trans ((hI.trans (hB3.mono hI.size)).mono hV.size)
        by_cases e1 : u = v
        · skip
          rw [deq_eq e1]
          have Hq := Lib.hid e1
          clear e1
          go_wp2
          go_roundw
          case rel =>
            refine ⟨n + 1, hlt, by go_num, ?_, hV⟩
            have e := Hs.out
            rw [Hd.out, Hd'.out, Hq.out, deq_cons] at e
            exact e
          case measure => simp [intOf]; omega
        · skip
          rw [deq_ne e1]
          have Hq := Lib.hid e1
          clear e1
          have e := Hs.out
          rw [Hd.out, Hd'.out, deq_ne (fun q => Hq.out (List.cons.inj q).1)] at e
          have Hf := Lib.hid e
          clear e
          go_wp2
          go_ret
          exact ⟨ret_bool Hf.out, hV⟩
      · skip
        obtain rfl : n = l.length := by omega
        go_wp2
        go_ret
        refine ⟨ret_bool ?_, hV⟩
        rw [← Hs.out, List.drop_length, List.drop_eq_nil_of_le (by omega)]
        exact (deq_eq rfl).symm
  · skip
    have bhl : (l.length != m.length) = true := by simpa using hl
    have bihl : ((l.length : Int) != (m.length : Int)) = true := by simp; omega
    have Hl0 := Lib.hid hl
    clear hl
    go_enter Try.func99, Try.ntmps99
    go_wp2
    go_ret
    exact ⟨ret_bool (deq_ne (fun q => Hl0.out (congrArg List.length q))).symm, Below.refl _ _⟩
set_option maxRecDepth 100000 in
set_option maxHeartbeats 10000000 in
theorem implEqualUnits_c (l m : List TUnit) : ∀ (w : World) (K : Nat → Prop) (_ : ∀ b, K b → b < w.heap.size) (u v : Value) (_ : Rep w K (.sl (l.map TUnit.enc)) [u]) (_ : Rep w K (.sl (m.map TUnit.enc)) [v]),
    Calls Try.prog 52 #[u, v] w fun e w' => e = .returned (.bool (deq l m)) ∧ Below w.heap.size w w' := by
  intro w K hK u v h k
  go_enter Try.func52, Try.ntmps52
  go_wp2_with fail
  refine (slicesEqualFuncUnit_c l m _ K hK _ _ h k).mono ?_
  rintro e w1 ⟨rfl, hB1⟩
  go_wp2
  go_ret
  exact ⟨rfl, hB1⟩
set_option maxRecDepth 100000 in
set_option maxHeartbeats 10000000 in
theorem slicesEqualUnitError_c (l m : List TUnitError) : ∀ (w : World) (K : Nat → Prop) (_ : ∀ b, K b → b < w.heap.size) (u v : Value) (_ : Rep w K (.sl (l.map TUnitError.enc)) [u]) (_ : Rep w K (.sl (m.map TUnitError.enc)) [v]),
    Calls Try.prog 53 #[u, v] w fun e w' => e = .returned (.bool (deq l m)) ∧ Below w.heap.size w w' := by
  intro w K hK u v h k
  obtain ⟨a, cap, rfl, hc, hm, -, hE⟩ := open_sl TUnitError.width h
  obtain ⟨a', cap', rfl, hc', hm', -, hE'⟩ := open_sl TUnitError.width k
  unfold maxLen at hm hm'
  clear h k
  by_cases hl : l.length = m.length
  · skip
    have bhl : (l.length != m.length) = false := by simp [hl]
    have bihl : ((l.length : Int) != (m.length : Int)) = false := by simp [hl]
    have hahl : l.length ≤ m.length := by omega
    have hbhl : m.length ≤ l.length := by omega
    have Hl0 := Lib.hid hl
    clear hl
    have Hg : Hid (deq (l.drop 0) (m.drop 0) = deq l m) := rfl
    go_enter Try.func53, Try.ntmps53
    go_wp2
    go_loopw [13] (fun i wr => ∃ (n : Nat), n ≤ l.length ∧ i = .int .i64 n ∧ Hid (deq (l.drop n) (m.drop n) = deq l m) ∧ Below w.heap.size w wr) (fun i _ => l.length - (intOf i).toNat)
    case atStart => exact ⟨0, Nat.zero_le _, rfl, Hg, Below.refl _ _⟩
    case round =>
      clear Hg
      obtain ⟨n, hn, rfl, Hs, hV⟩ := hrel
      by_cases hlt : n < l.length
      · skip
        have hlt' : n < m.length := by omega
        obtain ⟨b1, off1, rfl, hKb, cs, hcs, hr⟩ := hE n hlt
        obtain ⟨b2, off2, rfl, hKb', cs', hcs', hr'⟩ := hE' n hlt'
        have gcs := hcs.ext hV (hK b1 hKb)
        have gcs' := hcs'.ext hV (hK b2 hKb')
        have gr := Rep.ext hV hK hr
        have gr' := Rep.ext hV hK hr'
        have hK' : ∀ b, K b → b < wr.heap.size := fun b h => Nat.lt_of_lt_of_le (hK b h) hV.size
        have hmem : l[n] ∈ l := List.getElem_mem hlt
        have Hd : Hid (l.drop n = l[n] :: l.drop (n + 1)) := List.drop_eq_getElem_cons hlt
        have Hd' : Hid (m.drop n = m[n] :: m.drop (n + 1)) := List.drop_eq_getElem_cons hlt'
        clear hcs hcs' hr hr'
        generalize l[n] = u at *
        generalize m[n] = v at *
        obtain ⟨rfl, -, -, -, -, -, -⟩ := TUnitError.opn gr
        obtain ⟨rfl, -, -, -, -, -, -⟩ := TUnitError.opn gr'
        have hI0 : Below wr.heap.size wr wr.drew := (Below.refl _ _).drew
        have k0_ : ∀ w', Below wr.heap.size wr w' → Cells w' b1 (off1 + n * 6) [.int .i64 u.fKind, .int .i64 u.fPackage, .int .i64 u.fAt, .int .i64 u.fSub, .int .i64 u.fCode, .int .i64 u.fNode] := fun w' h => gcs.ext h (hK' b1 hKb)
        have k1_ : ∀ w', Below wr.heap.size wr w' → Cells w' b2 (off2 + n * 6) [.int .i64 v.fKind, .int .i64 v.fPackage, .int .i64 v.fAt, .int .i64 v.fSub, .int .i64 v.fCode, .int .i64 v.fNode] := fun w' h => gcs'.ext h (hK' b2 hKb')
        clear gcs gcs'
        by_cases e1 : u = v
        · skip
          have Hq := Lib.hid e1
          clear e1
          go_wp2_with fail
          refine rg 9 (Below wr.heap.size wr) (by kernel_rfl) rfl ?_
          refine rg_seg (fuel := 0) [0, 1, 2, 3, 4, 5, 6, 7, 8] hI0 (by kernel_rfl) rfl ?_
          simp only [pick, List.getElem?_cons_zero, List.getElem?_cons_succ]
          refine sg_fix _ rfl (fun w' hI => by go_simp; rfl) ?_; simp only [Act.put, List.setIfInBounds_toArray, List.set_cons_zero, List.set_cons_succ]
          refine sg_fix _ rfl (fun w' hI => by go_simp; rfl) ?_; simp only [Act.put, List.setIfInBounds_toArray, List.set_cons_zero, List.set_cons_succ]
          refine sg_fix _ rfl (fun w' hI => by go_simp; rfl) ?_; simp only [Act.put, List.setIfInBounds_toArray, List.set_cons_zero, List.set_cons_succ]
          refine sg_fix _ rfl (fun w' hI => run_ld 108 _ rfl b1 _ rfl [.int .i64 u.fKind, .int .i64 u.fPackage, .int .i64 u.fAt, .int .i64 u.fSub, .int .i64 u.fCode, .int .i64 u.fNode] (k0_ w' hI) _ Try.underlying108 infoQEqFI108) ?_
          simp only [Act.put, List.setIfInBounds_toArray, List.set_cons_zero, List.set_cons_succ]
          refine sg_fix _ rfl (fun w' hI => by go_simp; rfl) ?_; simp only [Act.put, List.setIfInBounds_toArray, List.set_cons_zero, List.set_cons_succ]
          refine sg_fix _ rfl (fun w' hI => by go_simp; rfl) ?_; simp only [Act.put, List.setIfInBounds_toArray, List.set_cons_zero, List.set_cons_succ]
          refine sg_fix _ rfl (fun w' hI => by go_simp; rfl) ?_; simp only [Act.put, List.setIfInBounds_toArray, List.set_cons_zero, List.set_cons_succ]
          refine sg_fix _ rfl (fun w' hI => run_ld 108 _ rfl b2 _ rfl [.int .i64 v.fKind, .int .i64 v.fPackage, .int .i64 v.fAt, .int .i64 v.fSub, .int .i64 v.fCode, .int .i64 v.fNode] (k1_ w' hI) _ Try.underlying108 infoQEqFI108) ?_
          simp only [Act.put, List.setIfInBounds_toArray, List.set_cons_zero, List.set_cons_succ]
          refine sg_fix (.bool (!(deq u v))) rfl (fun w' hI => by go_simp; exact neqEqFI_TUnitError u v w') ?_
          simp only [Act.put, List.setIfInBounds_toArray, List.set_cons_zero, List.set_cons_succ]
          refine sg_nil (rg_end (by kernel_rfl) ?_)
          rw [deq_eq Hq.out]; simp only [Bool.not_true]
          replace hV := hV.trans (hI0.mono hV.size)
          go_wp2
          go_roundw
          case rel =>
            refine ⟨n + 1, hlt, by go_num, ?_, hV⟩
            have e := Hs.out
            rw [Hd.out, Hd'.out, Hq.out, deq_cons] at e
            exact e
          case measure => simp [intOf]; omega
        · skip
          have Hq := Lib.hid e1
          clear e1
          go_wp2_with fail
          refine rg 9 (Below wr.heap.size wr) (by kernel_rfl) rfl ?_
          refine rg_seg (fuel := 0) [0, 1, 2, 3, 4, 5, 6, 7, 8] hI0 (by kernel_rfl) rfl ?_
          simp only [pick, List.getElem?_cons_zero, List.getElem?_cons_succ]
          refine sg_fix _ rfl (fun w' hI => by go_simp; rfl) ?_; simp only [Act.put, List.setIfInBounds_toArray, List.set_cons_zero, List.set_cons_succ]
          refine sg_fix _ rfl (fun w' hI => by go_simp; rfl) ?_; simp only [Act.put, List.setIfInBounds_toArray, List.set_cons_zero, List.set_cons_succ]
          refine sg_fix _ rfl (fun w' hI => by go_simp; rfl) ?_; simp only [Act.put, List.setIfInBounds_toArray, List.set_cons_zero, List.set_cons_succ]
          refine sg_fix _ rfl (fun w' hI => run_ld 108 _ rfl b1 _ rfl [.int .i64 u.fKind, .int .i64 u.fPackage, .int .i64 u.fAt, .int .i64 u.fSub, .int .i64 u.fCode, .int .i64 u.fNode] (k0_ w' hI) _ Try.underlying108 infoQEqFI108) ?_
          simp only [Act.put, List.setIfInBounds_toArray, List.set_cons_zero, List.set_cons_succ]
          refine sg_fix _ rfl (fun w' hI => by go_simp; rfl) ?_; simp only [Act.put, List.setIfInBounds_toArray, List.set_cons_zero, List.set_cons_succ]
          refine sg_fix _ rfl (fun w' hI => by go_simp; rfl) ?_; simp only [Act.put, List.setIfInBounds_toArray, List.set_cons_zero, List.set_cons_succ]
          refine sg_fix _ rfl (fun w' hI => by go_simp; rfl) ?_; simp only [Act.put, List.setIfInBounds_toArray, List.set_cons_zero, List.set_cons_succ]
          refine sg_fix _ rfl (fun w' hI => run_ld 108 _ rfl b2 _ rfl [.int .i64 v.fKind, .int .i64 v.fPackage, .int .i64 v.fAt, .int .i64 v.fSub, .int .i64 v.fCode, .int .i64 v.fNode] (k1_ w' hI) _ Try.underlying108 infoQEqFI108) ?_
          simp only [Act.put, List.setIfInBounds_toArray, List.set_cons_zero, List.set_cons_succ]
          refine sg_fix (.bool (!(deq u v))) rfl (fun w' hI => by go_simp; exact neqEqFI_TUnitError u v w') ?_
          simp only [Act.put, List.setIfInBounds_toArray, List.set_cons_zero, List.set_cons_succ]
          refine sg_nil (rg_end (by kernel_rfl) ?_)
          rw [deq_ne Hq.out]; simp only [Bool.not_false]
          replace hV := hV.trans (hI0.mono hV.size)
          have e := Hs.out
          rw [Hd.out, Hd'.out, deq_ne (fun q => Hq.out (List.cons.inj q).1)] at e
          have Hf := Lib.hid e
          clear e
          go_wp2
          go_ret
          exact ⟨ret_bool Hf.out, hV⟩
      · skip
        obtain rfl : n = l.length := by omega
        go_wp2
        go_ret
        refine ⟨ret_bool ?_, hV⟩
        rw [← Hs.out, List.drop_length, List.drop_eq_nil_of_le (by omega)]
        exact (deq_eq rfl).symm
  · skip
    have bhl : (l.length != m.length) = true := by simpa using hl
    have bihl : ((l.length : Int) != (m.length : Int)) = true := by simp; omega
    have Hl0 := Lib.hid hl
    clear hl
    go_enter Try.func53, Try.ntmps53
    go_wp2
    go_ret
    exact ⟨ret_bool (deq_ne (fun q => Hl0.out (congrArg List.length q))).symm, Below.refl _ _⟩
set_option maxRecDepth 100000 in
set_option maxHeartbeats 10000000 in
theorem implEqualBuildF_c (x y : TBuiltPackage) : ∀ (w : World) (K : Nat → Prop) (_ : ∀ b, K b → b < w.heap.size) (cs ds : List Value) (_ : Rep w K x.enc cs) (_ : Rep w K y.enc ds),
    Calls Try.prog 51 #[.agg cs.toArray, .agg ds.toArray] w fun e w' => e = .returned (.bool (deq x y)) ∧ Below w.heap.size w w' := by
  intro w K hK cs ds h k
  obtain ⟨c2, c3, rfl, hName, hKey, hUnits, hErrors⟩ := TBuiltPackage.opn h
  obtain ⟨d2, d3, rfl, kName, kKey, kUnits, kErrors⟩ := TBuiltPackage.opn k
  clear h k
  clear hName kName
  clear hKey kKey
  have hV : Below w.heap.size w ((w.alloc (.cells #[.string x.fName, .string x.fKey, c2, c3] 102)).alloc (.cells #[.string y.fName, .string y.fKey, d2, d3] 102)) := ((Below.refl _ _).alloc (Nat.le_refl _) _).alloc (by simp) _
  have hZ : w.heap.size + 1 < ((w.alloc (.cells #[.string x.fName, .string x.fKey, c2, c3] 102)).alloc (.cells #[.string y.fName, .string y.fKey, d2, d3] 102)).heap.size := by simp
  have HA := Lib.hid (show ((w.alloc (.cells #[.string x.fName, .string x.fKey, c2, c3] 102)).alloc (.cells #[.string y.fName, .string y.fKey, d2, d3] 102)).heap[w.heap.size]? = some (.cells #[.string x.fName, .string x.fKey, c2, c3] 102 (0, 0)) from alloc_lt (by simp) (alloc_at rfl))
  have HB := Lib.hid (show ((w.alloc (.cells #[.string x.fName, .string x.fKey, c2, c3] 102)).alloc (.cells #[.string y.fName, .string y.fKey, d2, d3] 102)).heap[w.heap.size + 1]? = some (.cells #[.string y.fName, .string y.fKey, d2, d3] 102 (0, 0)) from alloc_at (by simp))
  go_enter Try.func51, Try.ntmps51
  by_cases e1 : x.fName = y.fName
  · skip
    have be1 : (!x.fName.toList == y.fName.toList) = false := by simp [e1]
    have bbe1 : (x.fName.toList == y.fName.toList) = true := by simp [e1]
    have Ee1 := Lib.hid e1
    clear e1
    by_cases e2 : x.fKey = y.fKey
    · skip
      have be2 : (!x.fKey.toList == y.fKey.toList) = false := by simp [e2]
      have bbe2 : (x.fKey.toList == y.fKey.toList) = true := by simp [e2]
      have Ee2 := Lib.hid e2
      clear e2
      go_wp2_with fail
      refine (implEqualUnits_c x.fUnits y.fUnits _ K (fun b hb => Nat.lt_of_lt_of_le (hK b hb) hV.size) _ _ (Rep.ext hV hK hUnits) (Rep.ext hV hK kUnits)).mono ?_
      rintro e w1 ⟨rfl, hB1⟩
      replace HA := Lib.hid ((hB1.block (w.heap.size) (by have := hZ; omega)).trans HA.out)
      replace HB := Lib.hid ((hB1.block (w.heap.size + 1) (by have := hZ; omega)).trans HB.out)
      replace hZ := Nat.lt_of_lt_of_le hZ hB1.size
      replace hV := hV.trans (hB1.mono hV.size)
      have cA := row_cell HA.out
      have cB := row_cell HB.out
      by_cases e3 : x.fUnits = y.fUnits
      · skip
        rw [deq_eq e3]
        have Ee3 := Lib.hid e3
        clear e3
        go_wp2_with fail
        refine (slicesEqualUnitError_c x.fErrors y.fErrors _ K (fun b hb => Nat.lt_of_lt_of_le (hK b hb) hV.size) _ _ (Rep.ext hV hK hErrors) (Rep.ext hV hK kErrors)).mono ?_
        rintro e w2 ⟨rfl, hB2⟩
        replace HA := Lib.hid ((hB2.block (w.heap.size) (by have := hZ; omega)).trans HA.out)
        replace HB := Lib.hid ((hB2.block (w.heap.size + 1) (by have := hZ; omega)).trans HB.out)
        replace hZ := Nat.lt_of_lt_of_le hZ hB2.size
        replace hV := hV.trans (hB2.mono hV.size)
        clear cA cB
        have cA := row_cell HA.out
        have cB := row_cell HB.out
        by_cases e4 : x.fErrors = y.fErrors
        · skip
          rw [deq_eq e4]
          have Ee4 := Lib.hid e4
          clear e4
          go_wp2
          go_ret
          exact ⟨ret_bool (deq_eq (TBuiltPackage.ext Ee1.out Ee2.out Ee3.out Ee4.out)).symm, hV⟩
        · skip
          rw [deq_ne e4]
          have Ee4 := Lib.hid e4
          clear e4
          go_wp2
          go_ret
          exact ⟨ret_bool (deq_ne (fun q => Ee4.out (congrArg (·.fErrors) q))).symm, hV⟩
      · skip
        rw [deq_ne e3]
        have Ee3 := Lib.hid e3
        clear e3
        go_wp2
        go_ret
        exact ⟨ret_bool (deq_ne (fun q => Ee3.out (congrArg (·.fUnits) q))).symm, hV⟩
    · skip
      have be2 : (!x.fKey.toList == y.fKey.toList) = true := by simpa using fun q => e2 (ba_ext q)
      have bbe2 : (x.fKey.toList == y.fKey.toList) = false := by simpa using fun q => e2 (ba_ext q)
      have Ee2 := Lib.hid e2
      clear e2
      go_wp2
      go_ret
      exact ⟨ret_bool (deq_ne (fun q => Ee2.out (congrArg (·.fKey) q))).symm, hV⟩
  · skip
    have be1 : (!x.fName.toList == y.fName.toList) = true := by simpa using fun q => e1 (ba_ext q)
    have bbe1 : (x.fName.toList == y.fName.toList) = false := by simpa using fun q => e1 (ba_ext q)
    have Ee1 := Lib.hid e1
    clear e1
    go_wp2
    go_ret
    exact ⟨ret_bool (deq_ne (fun q => Ee1.out (congrArg (·.fName) q))).symm, hV⟩
set_option maxRecDepth 100000 in
set_option maxHeartbeats 10000000 in
theorem slicesEqualFuncBuiltPackage_c (l m : List TBuiltPackage) : ∀ (w : World) (K : Nat → Prop) (_ : ∀ b, K b → b < w.heap.size) (u v : Value) (_ : Rep w K (.sl (l.map TBuiltPackage.enc)) [u]) (_ : Rep w K (.sl (m.map TBuiltPackage.enc)) [v]),
    Calls Try.prog 50 #[u, v, .func (.func 51) #[] #[]] w fun e w' => e = .returned (.bool (deq l m)) ∧ Below w.heap.size w w' := by
  intro w K hK u v h k
  obtain ⟨a, cap, rfl, hc, hm, -, hE⟩ := open_sl TBuiltPackage.width h
  obtain ⟨a', cap', rfl, hc', hm', -, hE'⟩ := open_sl TBuiltPackage.width k
  unfold maxLen at hm hm'
  clear h k
  by_cases hl : l.length = m.length
  · skip
    have bhl : (l.length != m.length) = false := by simp [hl]
    have bihl : ((l.length : Int) != (m.length : Int)) = false := by simp [hl]
    have hahl : l.length ≤ m.length := by omega
    have hbhl : m.length ≤ l.length := by omega
    have Hl0 := Lib.hid hl
    clear hl
    have Hg : Hid (deq (l.drop 0) (m.drop 0) = deq l m) := rfl
    go_enter Try.func50, Try.ntmps50
    go_wp2
    go_loopw [17] (fun i wr => ∃ (n : Nat), n ≤ l.length ∧ i = .int .i64 n ∧ Hid (deq (l.drop n) (m.drop n) = deq l m) ∧ Below w.heap.size w wr) (fun i _ => l.length - (intOf i).toNat)
    case atStart => exact ⟨0, Nat.zero_le _, rfl, Hg, Below.refl _ _⟩
    case round =>
      clear Hg
      obtain ⟨n, hn, rfl, Hs, hV⟩ := hrel
      by_cases hlt : n < l.length
      · skip
        have hlt' : n < m.length := by omega
        obtain ⟨b1, off1, rfl, hKb, cs, hcs, hr⟩ := hE n hlt
        obtain ⟨b2, off2, rfl, hKb', cs', hcs', hr'⟩ := hE' n hlt'
        have gcs := hcs.ext hV (hK b1 hKb)
        have gcs' := hcs'.ext hV (hK b2 hKb')
        have gr := Rep.ext hV hK hr
        have gr' := Rep.ext hV hK hr'
        have hK' : ∀ b, K b → b < wr.heap.size := fun b h => Nat.lt_of_lt_of_le (hK b h) hV.size
        have hmem : l[n] ∈ l := List.getElem_mem hlt
        have Hd : Hid (l.drop n = l[n] :: l.drop (n + 1)) := List.drop_eq_getElem_cons hlt
        have Hd' : Hid (m.drop n = m[n] :: m.drop (n + 1)) := List.drop_eq_getElem_cons hlt'
        clear hcs hcs' hr hr'
        generalize l[n] = u at *
        generalize m[n] = v at *
        have hl := (Rep.length _ _ gr).trans (TBuiltPackage.width _)
        have hl' := (Rep.length _ _ gr').trans (TBuiltPackage.width _)
        have hi : (Try.prog.info? 102).map (·.size) = some cs.length := by rw [hl]; exact infoQEqFI102
        have hi' : (Try.prog.info? 102).map (·.size) = some cs'.length := by rw [hl']; exact infoQEqFI102
        have ho := Rep.one _ _ gr
        have ho' := Rep.one _ _ gr'
        have Hl := Lib.hid hl; have Hl' := Lib.hid hl'
        clear hl hl'
        go_wp2_with (first | (with_reducible refine ld rfl 102 _ rfl b1 _ rfl cs gcs _ Try.underlying102 hi ?_) | (with_reducible refine stA rfl 102 _ _ rfl wr.heap.size 0 rfl cs rfl hi ho _ 102 (alloc_at rfl) (by rw [Hl.out]; decide) ?_))
        intro w1 hst1
        have hB1 := hst1.below ((Below.refl _ _).alloc (Nat.le_refl _) _) (Nat.le_refl _)
        have C1 := hst1.at_
        have l1 : wr.heap.size < w1.heap.size := by rw [hst1.size]; simp
        clear hst1
        have gcs2 := gcs'.ext hB1 (hK' b2 hKb')
        go_wp2_with (first | (with_reducible refine ld rfl 102 _ rfl b2 _ rfl cs' gcs2 _ Try.underlying102 hi' ?_) | (with_reducible refine stA rfl 102 _ _ rfl w1.heap.size 0 rfl cs' rfl hi' ho' _ 102 (alloc_at rfl) (by rw [Hl'.out]; decide) ?_))
        intro w2 hst2
        have hB2 := hst2.below ((Below.refl _ _).alloc (Nat.le_refl _) _) (Nat.le_refl _)
        have C2 := hst2.at_
        clear hst2
        have C1' := C1.ext hB2 l1
        have hI := hB1.trans (hB2.mono hB1.size)
        go_wp2_with (first | (with_reducible refine ld rfl 102 _ rfl wr.heap.size _ rfl cs C1' _ Try.underlying102 hi ?_) | (with_reducible refine ld rfl 102 _ rfl w1.heap.size _ rfl cs' C2 _ Try.underlying102 hi' ?_))
        refine (implEqualBuildF_c u v _ K (fun b hb => Nat.lt_of_lt_of_le (hK' b hb) hI.size) _ _ (Rep.ext hI hK' gr) (Rep.ext hI hK' gr')).mono ?_
        rintro e w3 ⟨rfl, hB3⟩
        replace hV := hV.trans ((hI.trans (hB3.mono hI.size)).mono hV.size)
        by_cases e1 : u = v
        · skip
          rw [deq_eq e1]
          have Hq := Lib.hid e1
          clear e1
          go_wp2
          go_roundw
          case rel =>
            refine ⟨n + 1, hlt, by go_num, ?_, hV⟩
            have e := Hs.out
            rw [Hd.out, Hd'.out, Hq.out, deq_cons] at e
            exact e
          case measure => simp [intOf]; omega
        · skip
          rw [deq_ne e1]
          have Hq := Lib.hid e1
          clear e1
          have e := Hs.out
          rw [Hd.out, Hd'.out, deq_ne (fun q => Hq.out (List.cons.inj q).1)] at e
          have Hf := Lib.hid e
          clear e
          go_wp2
          go_ret
          exact ⟨ret_bool Hf.out, hV⟩
      · skip
        obtain rfl : n = l.length := by omega
        go_wp2
        go_ret
        refine ⟨ret_bool ?_, hV⟩
        rw [← Hs.out, List.drop_length, List.drop_eq_nil_of_le (by omega)]
        exact (deq_eq rfl).symm
  · skip
    have bhl : (l.length != m.length) = true := by simpa using hl
    have bihl : ((l.length : Int) != (m.length : Int)) = true := by simp; omega
    have Hl0 := Lib.hid hl
    clear hl
    go_enter Try.func50, Try.ntmps50
    go_wp2
    go_ret
    exact ⟨ret_bool (deq_ne (fun q => Hl0.out (congrArg List.length q))).symm, Below.refl _ _⟩
set_option maxRecDepth 100000 in
set_option maxHeartbeats 10000000 in
theorem implEqualBuild_c (x y : TBuild) : ∀ (w : World) (K : Nat → Prop) (_ : ∀ b, K b → b < w.heap.size) (cs ds : List Value) (_ : Rep w K x.enc cs) (_ : Rep w K y.enc ds),
    Calls Try.prog 15 #[.agg cs.toArray, .agg ds.toArray] w fun e w' => e = .returned (.bool (deq x y)) ∧ Below w.heap.size w w' := by
  intro w K hK cs ds h k
  obtain ⟨c0, rfl, hPackages⟩ := TBuild.opn h
  obtain ⟨d0, rfl, kPackages⟩ := TBuild.opn k
  clear h k
  have hV : Below w.heap.size w ((w.alloc (.cells #[c0] 41)).alloc (.cells #[d0] 41)) := ((Below.refl _ _).alloc (Nat.le_refl _) _).alloc (by simp) _
  have hZ : w.heap.size + 1 < ((w.alloc (.cells #[c0] 41)).alloc (.cells #[d0] 41)).heap.size := by simp
  have HA := Lib.hid (show ((w.alloc (.cells #[c0] 41)).alloc (.cells #[d0] 41)).heap[w.heap.size]? = some (.cells #[c0] 41 (0, 0)) from alloc_lt (by simp) (alloc_at rfl))
  have HB := Lib.hid (show ((w.alloc (.cells #[c0] 41)).alloc (.cells #[d0] 41)).heap[w.heap.size + 1]? = some (.cells #[d0] 41 (0, 0)) from alloc_at (by simp))
  go_enter Try.func15, Try.ntmps15
  go_wp2_with fail
  refine (slicesEqualFuncBuiltPackage_c x.fPackages y.fPackages _ K (fun b hb => Nat.lt_of_lt_of_le (hK b hb) hV.size) _ _ (Rep.ext hV hK hPackages) (Rep.ext hV hK kPackages)).mono ?_
  rintro e w1 ⟨rfl, hB1⟩
  replace HA := Lib.hid ((hB1.block (w.heap.size) (by have := hZ; omega)).trans HA.out)
  replace HB := Lib.hid ((hB1.block (w.heap.size + 1) (by have := hZ; omega)).trans HB.out)
  replace hZ := Nat.lt_of_lt_of_le hZ hB1.size
  replace hV := hV.trans (hB1.mono hV.size)
  have cA := row_cell HA.out
  have cB := row_cell HB.out
  by_cases e1 : x.fPackages = y.fPackages
  · skip
    rw [deq_eq e1]
    have Ee1 := Lib.hid e1
    clear e1
    go_wp2
    go_ret
    exact ⟨ret_bool (deq_eq (TBuild.ext Ee1.out)).symm, hV⟩
  · skip
    rw [deq_ne e1]
    have Ee1 := Lib.hid e1
    clear e1
    go_wp2
    go_ret
    exact ⟨ret_bool (deq_ne (fun q => Ee1.out (congrArg (·.fPackages) q))).symm, hV⟩
end Go.Proofs.Ytnlmldgbhdcpbaa
