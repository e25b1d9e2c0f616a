/- The functions of spec, impl and slices that say whether two values are equal, each walked once. No condition. -/
import Derived.Test.YtnlmldgbhdcpbaaTypes
import Derived.Test.YtnlmldgbhdcpbaaReg
import Derived.Test.YtnlmldgbhdcpbaaEq
import Derived.Test.YtnlmldgbhdcpbaaEqK
namespace Go.Proofs.Ytnlmldgbhdcpbaa
open Go.RowKit
theorem infoQEqFS138 : (Try.prog.info? 138).map (·.size) = some 3 := by kernel_rfl
theorem infoQEqFS267 : (Try.prog.info? 267).map (·.size) = some 5 := by kernel_rfl
theorem infoQEqFS143 : (Try.prog.info? 143).map (·.size) = some 11 := by kernel_rfl
theorem infoQEqFS176 : (Try.prog.info? 176).map (·.size) = some 21 := by kernel_rfl
theorem infoQEqFS108 : (Try.prog.info? 108).map (·.size) = some 6 := by kernel_rfl
theorem infoQEqFS102 : (Try.prog.info? 102).map (·.size) = some 4 := by kernel_rfl
theorem neqEqFS_TUnitError (u v : TUnitError) (w : World) : (if u.fKind = v.fKind then (if u.fPackage = v.fPackage then (if u.fAt = v.fAt then (if u.fSub = v.fSub then (if u.fCode = v.fCode then (if u.fNode = v.fNode then Result.ok (Next.value (Value.bool false)) w else Result.ok (Next.value (Value.bool true)) w) else Result.ok (Next.value (Value.bool true)) w) else Result.ok (Next.value (Value.bool true)) w) else Result.ok (Next.value (Value.bool true)) w) else Result.ok (Next.value (Value.bool true)) w) else Result.ok (Next.value (Value.bool true)) w) = Result.ok (Next.value (Value.bool (!(deq u v)))) w := by
  by_cases h : u = v
  · subst h; simp [deq_eq rfl]
  · rw [deq_ne h]
    have : ¬ (u.fKind = v.fKind ∧ u.fPackage = v.fPackage ∧ u.fAt = v.fAt ∧ u.fSub = v.fSub ∧ u.fCode = v.fCode ∧ u.fNode = v.fNode) := fun ⟨z0, z1, z2, z3, z4, z5⟩ => h (TUnitError.ext z0 z1 z2 z3 z4 z5)
    split <;> try rfl
    split <;> try rfl
    split <;> try rfl
    split <;> try rfl
    split <;> try rfl
    split <;> try rfl
    exact absurd (by simp_all) this
set_option maxRecDepth 100000 in
set_option maxHeartbeats 10000000 in
theorem specl11Texts_c (l m : List ByteArray) : ∀ (w : World) (K : Nat → Prop) (_ : ∀ b, K b → b < w.heap.size) (u v : Value) (_ : Rep w K (.sl (l.map encS)) [u]) (_ : Rep w K (.sl (m.map encS)) [v]),
    Calls Try.prog 93 #[u, v] w fun e w' => e = .returned (.bool (deq l m)) ∧ Below w.heap.size w w' := by
  intro w K hK u v h k
  obtain ⟨a, cap, rfl, hc, hm, -, hE⟩ := open_sl encS_w h
  obtain ⟨a', cap', rfl, hc', hm', -, hE'⟩ := open_sl encS_w k
  unfold maxLen at hm hm'
  clear h k
  by_cases hl : l.length = m.length
  · skip
    have bhl : (l.length != m.length) = false := by simp [hl]
    have bihl : ((l.length : Int) != (m.length : Int)) = false := by simp [hl]
    have hahl : l.length ≤ m.length := by omega
    have hbhl : m.length ≤ l.length := by omega
    have Hl0 := Lib.hid hl
    clear hl
    have Hg : Hid (deq (l.drop 0) (m.drop 0) = deq l m) := rfl
    go_enter Try.func93, Try.ntmps93
    go_wp2
    go_loopw [5] (fun i wr => ∃ (n : Nat), n ≤ l.length ∧ i = .int .i64 n ∧ Hid (deq (l.drop n) (m.drop n) = deq l m) ∧ Below w.heap.size w wr) (fun i _ => l.length - (intOf i).toNat)
    case atStart => exact ⟨0, Nat.zero_le _, rfl, Hg, Below.refl _ _⟩
    case round =>
      clear Hg
      obtain ⟨n, hn, rfl, Hs, hV⟩ := hrel
      by_cases hlt : n < l.length
      · skip
        have hlt' : n < m.length := by omega
        obtain ⟨b1, off1, rfl, hKb, cs, hcs, hr⟩ := hE n hlt
        obtain ⟨b2, off2, rfl, hKb', cs', hcs', hr'⟩ := hE' n hlt'
        have gcs := hcs.ext hV (hK b1 hKb)
        have gcs' := hcs'.ext hV (hK b2 hKb')
        have gr := Rep.ext hV hK hr
        have gr' := Rep.ext hV hK hr'
        have hK' : ∀ b, K b → b < wr.heap.size := fun b h => Nat.lt_of_lt_of_le (hK b h) hV.size
        have hmem : l[n] ∈ l := List.getElem_mem hlt
        have Hd : Hid (l.drop n = l[n] :: l.drop (n + 1)) := List.drop_eq_getElem_cons hlt
        have Hd' : Hid (m.drop n = m[n] :: m.drop (n + 1)) := List.drop_eq_getElem_cons hlt'
        clear hcs hcs' hr hr'
        generalize l[n] = u at *
        generalize m[n] = v at *
        simp only [encS, Rep] at gr gr'
        obtain ⟨rfl, -⟩ := gr
        obtain ⟨rfl, -⟩ := gr'
        have hI0 : Below wr.heap.size wr wr.drew := (Below.refl _ _).drew
        have k0_ : ∀ w', Below wr.heap.size wr w' → w'.cell? ⟨b1, off1 + n, none⟩ = some (.string u) := fun w' h => by simpa using (gcs.ext h (hK' b1 hKb)) 0 _ rfl
        have k1_ : ∀ w', Below wr.heap.size wr w' → w'.cell? ⟨b2, off2 + n, none⟩ = some (.string v) := fun w' h => by simpa using (gcs'.ext h (hK' b2 hKb')) 0 _ rfl
        clear gcs gcs'
        by_cases e1 : u = v
        · skip
          have be1 : (!u.toList == v.toList) = false := by simp [e1]
          have bbe1 : (u.toList == v.toList) = true := by simp [e1]
          have Hq := Lib.hid e1
          clear e1
          go_wp2_with fail
          refine rg 9 (Below wr.heap.size wr) (by kernel_rfl) rfl ?_
          refine rg_seg (fuel := 0) [0, 1, 2, 3, 4, 5, 6, 7, 8] hI0 (by kernel_rfl) rfl ?_
          simp only [pick, List.getElem?_cons_zero, List.getElem?_cons_succ]
          refine sg_fix _ rfl (fun w' hI => by have := k0_ w' hI; have := k1_ w' hI; go_simp; rfl) ?_; simp only [Act.put, List.setIfInBounds_toArray, List.set_cons_zero, List.set_cons_succ]
          refine sg_fix _ rfl (fun w' hI => by have := k0_ w' hI; have := k1_ w' hI; go_simp; rfl) ?_; simp only [Act.put, List.setIfInBounds_toArray, List.set_cons_zero, List.set_cons_succ]
          refine sg_fix _ rfl (fun w' hI => by have := k0_ w' hI; have := k1_ w' hI; go_simp; rfl) ?_; simp only [Act.put, List.setIfInBounds_toArray, List.set_cons_zero, List.set_cons_succ]
          refine sg_fix _ rfl (fun w' hI => by have := k0_ w' hI; have := k1_ w' hI; go_simp; rfl) ?_; simp only [Act.put, List.setIfInBounds_toArray, List.set_cons_zero, List.set_cons_succ]
          refine sg_fix _ rfl (fun w' hI => by have := k0_ w' hI; have := k1_ w' hI; go_simp; rfl) ?_; simp only [Act.put, List.setIfInBounds_toArray, List.set_cons_zero, List.set_cons_succ]
          refine sg_fix _ rfl (fun w' hI => by have := k0_ w' hI; have := k1_ w' hI; go_simp; rfl) ?_; simp only [Act.put, List.setIfInBounds_toArray, List.set_cons_zero, List.set_cons_succ]
          refine sg_fix _ rfl (fun w' hI => by have := k0_ w' hI; have := k1_ w' hI; go_simp; rfl) ?_; simp only [Act.put, List.setIfInBounds_toArray, List.set_cons_zero, List.set_cons_succ]
          refine sg_fix _ rfl (fun w' hI => by have := k0_ w' hI; have := k1_ w' hI; go_simp; rfl) ?_; simp only [Act.put, List.setIfInBounds_toArray, List.set_cons_zero, List.set_cons_succ]
          refine sg_fix _ rfl (fun w' hI => by have := k0_ w' hI; have := k1_ w' hI; go_simp; rfl) ?_; simp only [Act.put, List.setIfInBounds_toArray, List.set_cons_zero, List.set_cons_succ]
          refine sg_nil (rg_end (by kernel_rfl) ?_)
          replace hV := hV.trans (hI0.mono hV.size)
          go_wp2
          go_roundw
          case rel =>
            refine ⟨n + 1, hlt, by go_num, ?_, hV⟩
            have e := Hs.out
            rw [Hd.out, Hd'.out, Hq.out, deq_cons] at e
            exact e
          case measure => simp [intOf]; omega
        · skip
          have be1 : (!u.toList == v.toList) = true := by simpa using fun q => e1 (ba_ext q)
          have bbe1 : (u.toList == v.toList) = false := by simpa using fun q => e1 (ba_ext q)
          have Hq := Lib.hid e1
          clear e1
          go_wp2_with fail
          refine rg 9 (Below wr.heap.size wr) (by kernel_rfl) rfl ?_
          refine rg_seg (fuel := 0) [0, 1, 2, 3, 4, 5, 6, 7, 8] hI0 (by kernel_rfl) rfl ?_
          simp only [pick, List.getElem?_cons_zero, List.getElem?_cons_succ]
          refine sg_fix _ rfl (fun w' hI => by have := k0_ w' hI; have := k1_ w' hI; go_simp; rfl) ?_; simp only [Act.put, List.setIfInBounds_toArray, List.set_cons_zero, List.set_cons_succ]
          refine sg_fix _ rfl (fun w' hI => by have := k0_ w' hI; have := k1_ w' hI; go_simp; rfl) ?_; simp only [Act.put, List.setIfInBounds_toArray, List.set_cons_zero, List.set_cons_succ]
          refine sg_fix _ rfl (fun w' hI => by have := k0_ w' hI; have := k1_ w' hI; go_simp; rfl) ?_; simp only [Act.put, List.setIfInBounds_toArray, List.set_cons_zero, List.set_cons_succ]
          refine sg_fix _ rfl (fun w' hI => by have := k0_ w' hI; have := k1_ w' hI; go_simp; rfl) ?_; simp only [Act.put, List.setIfInBounds_toArray, List.set_cons_zero, List.set_cons_succ]
          refine sg_fix _ rfl (fun w' hI => by have := k0_ w' hI; have := k1_ w' hI; go_simp; rfl) ?_; simp only [Act.put, List.setIfInBounds_toArray, List.set_cons_zero, List.set_cons_succ]
          refine sg_fix _ rfl (fun w' hI => by have := k0_ w' hI; have := k1_ w' hI; go_simp; rfl) ?_; simp only [Act.put, List.setIfInBounds_toArray, List.set_cons_zero, List.set_cons_succ]
          refine sg_fix _ rfl (fun w' hI => by have := k0_ w' hI; have := k1_ w' hI; go_simp; rfl) ?_; simp only [Act.put, List.setIfInBounds_toArray, List.set_cons_zero, List.set_cons_succ]
          refine sg_fix _ rfl (fun w' hI => by have := k0_ w' hI; have := k1_ w' hI; go_simp; rfl) ?_; simp only [Act.put, List.setIfInBounds_toArray, List.set_cons_zero, List.set_cons_succ]
          refine sg_fix _ rfl (fun w' hI => by have := k0_ w' hI; have := k1_ w' hI; go_simp; rfl) ?_; simp only [Act.put, List.setIfInBounds_toArray, List.set_cons_zero, List.set_cons_succ]
          refine sg_nil (rg_end (by kernel_rfl) ?_)
          replace hV := hV.trans (hI0.mono hV.size)
          have e := Hs.out
          rw [Hd.out, Hd'.out, deq_ne (fun q => Hq.out (List.cons.inj q).1)] at e
          have Hf := Lib.hid e
          clear e
          go_wp2
          go_ret
          exact ⟨ret_bool Hf.out, hV⟩
      · skip
        obtain rfl : n = l.length := by omega
        go_wp2
        go_ret
        refine ⟨ret_bool ?_, hV⟩
        rw [← Hs.out, List.drop_length, List.drop_eq_nil_of_le (by omega)]
        exact (deq_eq rfl).symm
  · skip
    have bhl : (l.length != m.length) = true := by simpa using hl
    have bihl : ((l.length : Int) != (m.length : Int)) = true := by simp; omega
    have Hl0 := Lib.hid hl
    clear hl
    go_enter Try.func93, Try.ntmps93
    go_wp2
    go_ret
    exact ⟨ret_bool (deq_ne (fun q => Hl0.out (congrArg List.length q))).symm, Below.refl _ _⟩
def PspecEqualType (N : Nat) : Prop := ∀ (x y : TType), SizeOf.sizeOf x < N → ∀ (w : World) (K : Nat → Prop) (_ : ∀ b, K b → b < w.heap.size) (cs ds : List Value) (_ : Rep w K x.enc cs) (_ : Rep w K y.enc ds),
    Calls Try.prog 96 #[.agg cs.toArray, .agg ds.toArray] w fun e w' => e = .returned (.bool (deq x y)) ∧ Below w.heap.size w w'
def Pspecl4Same (N : Nat) : Prop := ∀ (l m : List TType), SizeOf.sizeOf l < N → ∀ (w : World) (K : Nat → Prop) (_ : ∀ b, K b → b < w.heap.size) (u v : Value) (_ : Rep w K (.sl (l.map TType.enc)) [u]) (_ : Rep w K (.sl (m.map TType.enc)) [v]),
    Calls Try.prog 139 #[u, v] w fun e w' => e = .returned (.bool (deq l m)) ∧ Below w.heap.size w w'
set_option maxRecDepth 100000 in
set_option maxHeartbeats 10000000 in
theorem stepPspecEqualType (N : Nat) (_iPspecEqualType : PspecEqualType N) (iPspecl4Same : Pspecl4Same N)  : PspecEqualType (N + 1) := by
  intro x y hN
  intro w K hK cs ds h k
  obtain ⟨c2, rfl, hKind, hName, hArgs⟩ := TType.opn h
  obtain ⟨d2, rfl, kKind, kName, kArgs⟩ := TType.opn k
  clear h k
  clear hKind kKind
  clear hName kName
  have hV : Below w.heap.size w ((w.alloc (.cells #[.int .i64 x.fKind, .string x.fName, c2] 138)).alloc (.cells #[.int .i64 y.fKind, .string y.fName, d2] 138)) := ((Below.refl _ _).alloc (Nat.le_refl _) _).alloc (by simp) _
  have hZ : w.heap.size + 1 < ((w.alloc (.cells #[.int .i64 x.fKind, .string x.fName, c2] 138)).alloc (.cells #[.int .i64 y.fKind, .string y.fName, d2] 138)).heap.size := by simp
  have HA := Lib.hid (show ((w.alloc (.cells #[.int .i64 x.fKind, .string x.fName, c2] 138)).alloc (.cells #[.int .i64 y.fKind, .string y.fName, d2] 138)).heap[w.heap.size]? = some (.cells #[.int .i64 x.fKind, .string x.fName, c2] 138 (0, 0)) from alloc_lt (by simp) (alloc_at rfl))
  have HB := Lib.hid (show ((w.alloc (.cells #[.int .i64 x.fKind, .string x.fName, c2] 138)).alloc (.cells #[.int .i64 y.fKind, .string y.fName, d2] 138)).heap[w.heap.size + 1]? = some (.cells #[.int .i64 y.fKind, .string y.fName, d2] 138 (0, 0)) from alloc_at (by simp))
  go_enter Try.func96, Try.ntmps96
  by_cases e1 : x.fKind = y.fKind
  · skip
    have be1 : (x.fKind != y.fKind) = false := by simp [e1]
    have bbe1 : (x.fKind == y.fKind) = true := by simp [e1]
    have Ee1 := Lib.hid e1
    clear e1
    by_cases e2 : x.fName = y.fName
    · skip
      have be2 : (!x.fName.toList == y.fName.toList) = false := by simp [e2]
      have bbe2 : (x.fName.toList == y.fName.toList) = true := by simp [e2]
      have Ee2 := Lib.hid e2
      clear e2
      go_wp2_with fail
      refine (iPspecl4Same x.fArgs y.fArgs (by have := TType.lt_fArgs x; omega) _ K (fun b hb => Nat.lt_of_lt_of_le (hK b hb) hV.size) _ _ (Rep.ext hV hK hArgs) (Rep.ext hV hK kArgs)).mono ?_
      rintro e w1 ⟨rfl, hB1⟩
      replace HA := Lib.hid ((hB1.block (w.heap.size) (by have := hZ; omega)).trans HA.out)
      replace HB := Lib.hid ((hB1.block (w.heap.size + 1) (by have := hZ; omega)).trans HB.out)
      replace hZ := Nat.lt_of_lt_of_le hZ hB1.size
      replace hV := hV.trans (hB1.mono hV.size)
      have cA := row_cell HA.out
      have cB := row_cell HB.out
      by_cases e3 : x.fArgs = y.fArgs
      · skip
        rw [deq_eq e3]
        have Ee3 := Lib.hid e3
        clear e3
        go_wp2
        go_ret
        exact ⟨ret_bool (deq_eq (TType.ext Ee1.out Ee2.out Ee3.out)).symm, hV⟩
      · skip
        rw [deq_ne e3]
        have Ee3 := Lib.hid e3
        clear e3
        go_wp2
        go_ret
        exact ⟨ret_bool (deq_ne (fun q => Ee3.out (congrArg (·.fArgs) q))).symm, hV⟩
    · skip
      have be2 : (!x.fName.toList == y.fName.toList) = true := by simpa using fun q => e2 (ba_ext q)
      have bbe2 : (x.fName.toList == y.fName.toList) = false := by simpa using fun q => e2 (ba_ext q)
      have Ee2 := Lib.hid e2
      clear e2
      go_wp2
      go_ret
      exact ⟨ret_bool (deq_ne (fun q => Ee2.out (congrArg (·.fName) q))).symm, hV⟩
  · skip
    have be1 : (x.fKind != y.fKind) = true := by simpa using e1
    have bbe1 : (x.fKind == y.fKind) = false := by simpa using e1
    have Ee1 := Lib.hid e1
    clear e1
    go_wp2
    go_ret
    exact ⟨ret_bool (deq_ne (fun q => Ee1.out (congrArg (·.fKind) q))).symm, hV⟩
set_option maxRecDepth 100000 in
set_option maxHeartbeats 10000000 in
theorem stepPspecl4Same (N : Nat) (iPspecEqualType : PspecEqualType N) (_iPspecl4Same : Pspecl4Same N)  : Pspecl4Same (N + 1) := by
  intro l m hN
  intro w K hK u v h k
  obtain ⟨a, cap, rfl, hc, hm, -, hE⟩ := open_sl TType.width h
  obtain ⟨a', cap', rfl, hc', hm', -, hE'⟩ := open_sl TType.width k
  unfold maxLen at hm hm'
  clear h k
  by_cases hl : l.length = m.length
  · skip
    have bhl : (l.length != m.length) = false := by simp [hl]
    have bihl : ((l.length : Int) != (m.length : Int)) = false := by simp [hl]
    have hahl : l.length ≤ m.length := by omega
    have hbhl : m.length ≤ l.length := by omega
    have Hl0 := Lib.hid hl
    clear hl
    have Hg : Hid (deq (l.drop 0) (m.drop 0) = deq l m) := rfl
    go_enter Try.func139, Try.ntmps139
    go_wp2
    go_loopw [5] (fun i wr => ∃ (n : Nat), n ≤ l.length ∧ i = .int .i64 n ∧ Hid (deq (l.drop n) (m.drop n) = deq l m) ∧ Below w.heap.size w wr) (fun i _ => l.length - (intOf i).toNat)
    case atStart => exact ⟨0, Nat.zero_le _, rfl, Hg, Below.refl _ _⟩
    case round =>
      clear Hg
      obtain ⟨n, hn, rfl, Hs, hV⟩ := hrel
      by_cases hlt : n < l.length
      · skip
        have hlt' : n < m.length := by omega
        obtain ⟨b1, off1, rfl, hKb, cs, hcs, hr⟩ := hE n hlt
        obtain ⟨b2, off2, rfl, hKb', cs', hcs', hr'⟩ := hE' n hlt'
        have gcs := hcs.ext hV (hK b1 hKb)
        have gcs' := hcs'.ext hV (hK b2 hKb')
        have gr := Rep.ext hV hK hr
        have gr' := Rep.ext hV hK hr'
        have hK' : ∀ b, K b → b < wr.heap.size := fun b h => Nat.lt_of_lt_of_le (hK b h) hV.size
        have hmem : l[n] ∈ l := List.getElem_mem hlt
        have Hd : Hid (l.drop n = l[n] :: l.drop (n + 1)) := List.drop_eq_getElem_cons hlt
        have Hd' : Hid (m.drop n = m[n] :: m.drop (n + 1)) := List.drop_eq_getElem_cons hlt'
        clear hcs hcs' hr hr'
        generalize l[n] = u at *
        generalize m[n] = v at *
        have hI0 : Below wr.heap.size wr wr.drew := (Below.refl _ _).drew
        have k0_ : ∀ w', Below wr.heap.size wr w' → Cells w' b1 (off1 + n * 3) cs := fun w' h => gcs.ext h (hK' b1 hKb)
        have k1_ : ∀ w', Below wr.heap.size wr w' → Cells w' b2 (off2 + n * 3) cs' := fun w' h => gcs'.ext h (hK' b2 hKb')
        clear gcs gcs'
        go_wp2_with fail
        refine rg 10 (Below wr.heap.size wr) (by kernel_rfl) rfl ?_
        refine rg_seg (fuel := 2) [0, 1, 2, 3, 4, 5, 6, 7] hI0 (by kernel_rfl) rfl ?_
        simp only [pick, List.getElem?_cons_zero, List.getElem?_cons_succ]
        refine sg_fix _ rfl (fun w' hI => by go_simp; rfl) ?_; simp only [Act.put, List.setIfInBounds_toArray, List.set_cons_zero, List.set_cons_succ]
        refine sg_fix _ rfl (fun w' hI => by go_simp; rfl) ?_; simp only [Act.put, List.setIfInBounds_toArray, List.set_cons_zero, List.set_cons_succ]
        refine sg_fix _ rfl (fun w' hI => by go_simp; rfl) ?_; simp only [Act.put, List.setIfInBounds_toArray, List.set_cons_zero, List.set_cons_succ]
        refine sg_fix _ rfl (fun w' hI => run_ld 138 _ rfl b1 _ rfl cs (k0_ w' hI) _ Try.underlying138 (by rw [Rep.length _ _ gr, TType.width]; exact infoQEqFS138)) ?_
        simp only [Act.put, List.setIfInBounds_toArray, List.set_cons_zero, List.set_cons_succ]
        refine sg_fix _ rfl (fun w' hI => by go_simp; rfl) ?_; simp only [Act.put, List.setIfInBounds_toArray, List.set_cons_zero, List.set_cons_succ]
        refine sg_fix _ rfl (fun w' hI => by go_simp; rfl) ?_; simp only [Act.put, List.setIfInBounds_toArray, List.set_cons_zero, List.set_cons_succ]
        refine sg_fix _ rfl (fun w' hI => by go_simp; rfl) ?_; simp only [Act.put, List.setIfInBounds_toArray, List.set_cons_zero, List.set_cons_succ]
        refine sg_fix _ rfl (fun w' hI => run_ld 138 _ rfl b2 _ rfl cs' (k1_ w' hI) _ Try.underlying138 (by rw [Rep.length _ _ gr', TType.width]; exact infoQEqFS138)) ?_
        simp only [Act.put, List.setIfInBounds_toArray, List.set_cons_zero, List.set_cons_succ]
        refine sg_nil ?_
        refine rg_one (fuel := 1) 8 (by kernel_rfl) rfl (fun Kq1 hq1 => ?_)
        simp only [pick, List.getElem?_cons_zero, List.getElem?_cons_succ]
        refine rg_call rfl _ _ (by go_simp; exact ⟨rfl, rfl⟩) ?_
        refine (iPspecEqualType u v (by have hsz := List.sizeOf_lt_of_mem hmem; omega) _ K (fun b hb => Nat.lt_of_lt_of_le (hK' b hb) hI0.size) _ _ (Rep.ext hI0 hK' gr) (Rep.ext hI0 hK' gr')).mono ?_
        rintro e w1 ⟨rfl, hB1⟩
        have hI2 := hI0.trans (hB1.mono hI0.size)
        refine ⟨_, rfl, hq1 _ _ hI2 ?_⟩
        simp only [Act.put, List.setIfInBounds_toArray, List.set_cons_zero, List.set_cons_succ]
        by_cases e3 : u = v
        · skip
          rw [deq_eq e3]
          have Hq := Lib.hid e3
          clear e3
          refine rg_seg (fuel := 0) [9] hI2 (by kernel_rfl) rfl ?_
          simp only [pick, List.getElem?_cons_zero, List.getElem?_cons_succ]
          refine sg_fix _ rfl (fun w' hI => by go_simp; rfl) ?_; simp only [Act.put, List.setIfInBounds_toArray, List.set_cons_zero, List.set_cons_succ]
          refine sg_nil (rg_end (by kernel_rfl) ?_)
          replace hV := hV.trans (hI2.mono hV.size)
          go_wp2
          go_roundw
          case rel =>
            refine ⟨n + 1, hlt, by go_num, ?_, hV⟩
            have e := Hs.out
            rw [Hd.out, Hd'.out, Hq.out, deq_cons] at e
            exact e
          case measure => simp [intOf]; omega
        · skip
          rw [deq_ne e3]
          have Hq := Lib.hid e3
          clear e3
          refine rg_seg (fuel := 0) [9] hI2 (by kernel_rfl) rfl ?_
          simp only [pick, List.getElem?_cons_zero, List.getElem?_cons_succ]
          refine sg_fix _ rfl (fun w' hI => by go_simp; rfl) ?_; simp only [Act.put, List.setIfInBounds_toArray, List.set_cons_zero, List.set_cons_succ]
          refine sg_nil (rg_end (by kernel_rfl) ?_)
          replace hV := hV.trans (hI2.mono hV.size)
          have e := Hs.out
          rw [Hd.out, Hd'.out, deq_ne (fun q => Hq.out (List.cons.inj q).1)] at e
          have Hf := Lib.hid e
          clear e
          go_wp2
          go_ret
          exact ⟨ret_bool Hf.out, hV⟩
      · skip
        obtain rfl : n = l.length := by omega
        go_wp2
        go_ret
        refine ⟨ret_bool ?_, hV⟩
        rw [← Hs.out, List.drop_length, List.drop_eq_nil_of_le (by omega)]
        exact (deq_eq rfl).symm
  · skip
    have bhl : (l.length != m.length) = true := by simpa using hl
    have bihl : ((l.length : Int) != (m.length : Int)) = true := by simp; omega
    have Hl0 := Lib.hid hl
    clear hl
    go_enter Try.func139, Try.ntmps139
    go_wp2
    go_ret
    exact ⟨ret_bool (deq_ne (fun q => Hl0.out (congrArg List.length q))).symm, Below.refl _ _⟩
theorem PspecEqualType_all : ∀ N : Nat, PspecEqualType N ∧ Pspecl4Same N
  | 0 => ⟨fun _ _ h => absurd h (Nat.not_lt_zero _), fun _ _ h => absurd h (Nat.not_lt_zero _)⟩
  | N + 1 => by
    obtain ⟨i0, i1⟩ := PspecEqualType_all N
    have j0 := stepPspecEqualType N i0 i1
    have j1 := stepPspecl4Same N i0 i1
    exact ⟨j0, j1⟩
theorem specEqualType_c (x y : TType) : ∀ (w : World) (K : Nat → Prop) (_ : ∀ b, K b → b < w.heap.size) (cs ds : List Value) (_ : Rep w K x.enc cs) (_ : Rep w K y.enc ds),
    Calls Try.prog 96 #[.agg cs.toArray, .agg ds.toArray] w fun e w' => e = .returned (.bool (deq x y)) ∧ Below w.heap.size w w' := (PspecEqualType_all (SizeOf.sizeOf x + 1)).1 x y (Nat.lt_succ_self _)
theorem specl4Same_c (l m : List TType) : ∀ (w : World) (K : Nat → Prop) (_ : ∀ b, K b → b < w.heap.size) (u v : Value) (_ : Rep w K (.sl (l.map TType.enc)) [u]) (_ : Rep w K (.sl (m.map TType.enc)) [v]),
    Calls Try.prog 139 #[u, v] w fun e w' => e = .returned (.bool (deq l m)) ∧ Below w.heap.size w w' := (PspecEqualType_all (SizeOf.sizeOf l + 1)).2 l m (Nat.lt_succ_self _)
set_option maxRecDepth 100000 in
set_option maxHeartbeats 10000000 in
theorem specl13SameBounds_c (l m : List TBound) : ∀ (w : World) (K : Nat → Prop) (_ : ∀ b, K b → b < w.heap.size) (u v : Value) (_ : Rep w K (.sl (l.map TBound.enc)) [u]) (_ : Rep w K (.sl (m.map TBound.enc)) [v]),
    Calls Try.prog 94 #[u, v] w fun e w' => e = .returned (.bool (deq l m)) ∧ Below w.heap.size w w' := by
  intro w K hK u v h k
  obtain ⟨a, cap, rfl, hc, hm, -, hE⟩ := open_sl TBound.width h
  obtain ⟨a', cap', rfl, hc', hm', -, hE'⟩ := open_sl TBound.width k
  unfold maxLen at hm hm'
  clear h k
  by_cases hl : l.length = m.length
  · skip
    have bhl : (l.length != m.length) = false := by simp [hl]
    have bihl : ((l.length : Int) != (m.length : Int)) = false := by simp [hl]
    have hahl : l.length ≤ m.length := by omega
    have hbhl : m.length ≤ l.length := by omega
    have Hl0 := Lib.hid hl
    clear hl
    have Hg : Hid (deq (l.drop 0) (m.drop 0) = deq l m) := rfl
    go_enter Try.func94, Try.ntmps94
    go_wp2
    go_loopw [5] (fun i wr => ∃ (n : Nat), n ≤ l.length ∧ i = .int .i64 n ∧ Hid (deq (l.drop n) (m.drop n) = deq l m) ∧ Below w.heap.size w wr) (fun i _ => l.length - (intOf i).toNat)
    case atStart => exact ⟨0, Nat.zero_le _, rfl, Hg, Below.refl _ _⟩
    case round =>
      clear Hg
      obtain ⟨n, hn, rfl, Hs, hV⟩ := hrel
      by_cases hlt : n < l.length
      · skip
        have hlt' : n < m.length := by omega
        obtain ⟨b1, off1, rfl, hKb, cs, hcs, hr⟩ := hE n hlt
        obtain ⟨b2, off2, rfl, hKb', cs', hcs', hr'⟩ := hE' n hlt'
        have gcs := hcs.ext hV (hK b1 hKb)
        have gcs' := hcs'.ext hV (hK b2 hKb')
        have gr := Rep.ext hV hK hr
        have gr' := Rep.ext hV hK hr'
        have hK' : ∀ b, K b → b < wr.heap.size := fun b h => Nat.lt_of_lt_of_le (hK b h) hV.size
        have hmem : l[n] ∈ l := List.getElem_mem hlt
        have Hd : Hid (l.drop n = l[n] :: l.drop (n + 1)) := List.drop_eq_getElem_cons hlt
        have Hd' : Hid (m.drop n = m[n] :: m.drop (n + 1)) := List.drop_eq_getElem_cons hlt'
        clear hcs hcs' hr hr'
        generalize l[n] = u at *
        generalize m[n] = v at *
        obtain ⟨p1, p2, p3, rfl, -, rhType⟩ := TBound.opn gr
        obtain ⟨q1, q2, q3, rfl, -, skType⟩ := TBound.opn gr'
        have hI0 : Below wr.heap.size wr wr.drew := (Below.refl _ _).drew
        have k0_Trait : ∀ w', Below wr.heap.size wr w' → w'.cell? ⟨b1, off1 + n * 4, none⟩ = some (.string u.fTrait) := fun w' h => by simpa using (gcs.ext h (hK' b1 hKb)) 0 _ rfl
        have k0_Type : ∀ w', Below wr.heap.size wr w' → Cells w' b1 (off1 + n * 4 + 1) [p1, p2, p3] := fun w' h => Cells.part (gcs.ext h (hK' b1 hKb)) 1 3 rfl
        have k1_Trait : ∀ w', Below wr.heap.size wr w' → w'.cell? ⟨b2, off2 + n * 4, none⟩ = some (.string v.fTrait) := fun w' h => by simpa using (gcs'.ext h (hK' b2 hKb')) 0 _ rfl
        have k1_Type : ∀ w', Below wr.heap.size wr w' → Cells w' b2 (off2 + n * 4 + 1) [q1, q2, q3] := fun w' h => Cells.part (gcs'.ext h (hK' b2 hKb')) 1 3 rfl
        clear gcs gcs'
        by_cases e1 : u.fTrait = v.fTrait
        · skip
          have be1 : (!u.fTrait.toList == v.fTrait.toList) = false := by simp [e1]
          have bbe1 : (u.fTrait.toList == v.fTrait.toList) = true := by simp [e1]
          have Ee1 := Lib.hid e1
          clear e1
          go_wp2_with fail
          refine rg 25 (Below wr.heap.size wr) (by kernel_rfl) rfl ?_
          refine rg_seg (fuel := 3) [0, 1, 2, 3, 4, 5, 6, 7, 8, 9, 10, 11, 12, 13, 14, 15, 16, 17, 18, 19, 20, 21] hI0 (by kernel_rfl) rfl ?_
          simp only [pick, List.getElem?_cons_zero, List.getElem?_cons_succ]
          refine sg_fix _ rfl (fun w' hI => by have := k0_Trait w' hI; have := k1_Trait w' hI; go_simp; rfl) ?_; simp only [Act.put, List.setIfInBounds_toArray, List.set_cons_zero, List.set_cons_succ]
          refine sg_fix _ rfl (fun w' hI => by have := k0_Trait w' hI; have := k1_Trait w' hI; go_simp; rfl) ?_; simp only [Act.put, List.setIfInBounds_toArray, List.set_cons_zero, List.set_cons_succ]
          refine sg_fix _ rfl (fun w' hI => by have := k0_Trait w' hI; have := k1_Trait w' hI; go_simp; rfl) ?_; simp only [Act.put, List.setIfInBounds_toArray, List.set_cons_zero, List.set_cons_succ]
          refine sg_fix _ rfl (fun w' hI => by have := k0_Trait w' hI; have := k1_Trait w' hI; go_simp; rfl) ?_; simp only [Act.put, List.setIfInBounds_toArray, List.set_cons_zero, List.set_cons_succ]
          refine sg_fix _ rfl (fun w' hI => by have := k0_Trait w' hI; have := k1_Trait w' hI; go_simp; rfl) ?_; simp only [Act.put, List.setIfInBounds_toArray, List.set_cons_zero, List.set_cons_succ]
          refine sg_fix _ rfl (fun w' hI => by have := k0_Trait w' hI; have := k1_Trait w' hI; go_simp; rfl) ?_; simp only [Act.put, List.setIfInBounds_toArray, List.set_cons_zero, List.set_cons_succ]
          refine sg_fix _ rfl (fun w' hI => by have := k0_Trait w' hI; have := k1_Trait w' hI; go_simp; rfl) ?_; simp only [Act.put, List.setIfInBounds_toArray, List.set_cons_zero, List.set_cons_succ]
          refine sg_fix _ rfl (fun w' hI => by have := k0_Trait w' hI; have := k1_Trait w' hI; go_simp; rfl) ?_; simp only [Act.put, List.setIfInBounds_toArray, List.set_cons_zero, List.set_cons_succ]
          refine sg_fix _ rfl (fun w' hI => by have := k0_Trait w' hI; have := k1_Trait w' hI; go_simp; rfl) ?_; simp only [Act.put, List.setIfInBounds_toArray, List.set_cons_zero, List.set_cons_succ]
          refine sg_fix _ rfl (fun w' hI => by have := k0_Trait w' hI; have := k1_Trait w' hI; go_simp; rfl) ?_; simp only [Act.put, List.setIfInBounds_toArray, List.set_cons_zero, List.set_cons_succ]
          refine sg_fix _ rfl (fun w' hI => by have := k0_Trait w' hI; have := k1_Trait w' hI; go_simp; rfl) ?_; simp only [Act.put, List.setIfInBounds_toArray, List.set_cons_zero, List.set_cons_succ]
          refine sg_fix _ rfl (fun w' hI => by have := k0_Trait w' hI; have := k1_Trait w' hI; go_simp; rfl) ?_; simp only [Act.put, List.setIfInBounds_toArray, List.set_cons_zero, List.set_cons_succ]
          refine sg_fix _ rfl (fun w' hI => by have := k0_Trait w' hI; have := k1_Trait w' hI; go_simp; rfl) ?_; simp only [Act.put, List.setIfInBounds_toArray, List.set_cons_zero, List.set_cons_succ]
          refine sg_fix _ rfl (fun w' hI => by have := k0_Trait w' hI; have := k1_Trait w' hI; go_simp; rfl) ?_; simp only [Act.put, List.setIfInBounds_toArray, List.set_cons_zero, List.set_cons_succ]
          refine sg_fix _ rfl (fun w' hI => by have := k0_Trait w' hI; have := k1_Trait w' hI; go_simp; rfl) ?_; simp only [Act.put, List.setIfInBounds_toArray, List.set_cons_zero, List.set_cons_succ]
          refine sg_fix _ rfl (fun w' hI => by have := k0_Trait w' hI; have := k1_Trait w' hI; go_simp; rfl) ?_; simp only [Act.put, List.setIfInBounds_toArray, List.set_cons_zero, List.set_cons_succ]
          refine sg_fix _ rfl (fun w' hI => run_ld 138 _ rfl b1 _ rfl [p1, p2, p3] (k0_Type w' hI) _ Try.underlying138 infoQEqFS138) ?_
          simp only [Act.put, List.setIfInBounds_toArray, List.set_cons_zero, List.set_cons_succ]
          refine sg_fix _ rfl (fun w' hI => by have := k0_Trait w' hI; have := k1_Trait w' hI; go_simp; rfl) ?_; simp only [Act.put, List.setIfInBounds_toArray, List.set_cons_zero, List.set_cons_succ]
          refine sg_fix _ rfl (fun w' hI => by have := k0_Trait w' hI; have := k1_Trait w' hI; go_simp; rfl) ?_; simp only [Act.put, List.setIfInBounds_toArray, List.set_cons_zero, List.set_cons_succ]
          refine sg_fix _ rfl (fun w' hI => by have := k0_Trait w' hI; have := k1_Trait w' hI; go_simp; rfl) ?_; simp only [Act.put, List.setIfInBounds_toArray, List.set_cons_zero, List.set_cons_succ]
          refine sg_fix _ rfl (fun w' hI => by have := k0_Trait w' hI; have := k1_Trait w' hI; go_simp; rfl) ?_; simp only [Act.put, List.setIfInBounds_toArray, List.set_cons_zero, List.set_cons_succ]
          refine sg_fix _ rfl (fun w' hI => run_ld 138 _ rfl b2 _ rfl [q1, q2, q3] (k1_Type w' hI) _ Try.underlying138 infoQEqFS138) ?_
          simp only [Act.put, List.setIfInBounds_toArray, List.set_cons_zero, List.set_cons_succ]
          refine sg_nil ?_
          refine rg_one (fuel := 2) 22 (by kernel_rfl) rfl (fun Kq2 hq2 => ?_)
          simp only [pick, List.getElem?_cons_zero, List.getElem?_cons_succ]
          refine rg_call rfl _ _ (by go_simp; exact ⟨rfl, rfl⟩) ?_
          refine (specEqualType_c u.fType v.fType _ K (fun b hb => Nat.lt_of_lt_of_le (hK' b hb) hI0.size) _ _ (Rep.ext hI0 hK' rhType) (Rep.ext hI0 hK' skType)).mono ?_
          rintro e w1 ⟨rfl, hB1⟩
          have hI3 := hI0.trans (hB1.mono hI0.size)
          refine ⟨_, rfl, hq2 _ _ hI3 ?_⟩
          simp only [Act.put, List.setIfInBounds_toArray, List.set_cons_zero, List.set_cons_succ]
          by_cases e4 : u.fType = v.fType
          · skip
            rw [deq_eq e4]
            have Ee4 := Lib.hid e4
            clear e4
            have Hq : Hid (u = v) := (TBound.ext Ee1.out Ee4.out)
            refine rg_seg (fuel := 0) [23, 24] hI3 (by kernel_rfl) rfl ?_
            simp only [pick, List.getElem?_cons_zero, List.getElem?_cons_succ]
            refine sg_fix _ rfl (fun w' hI => by have := k0_Trait w' hI; have := k1_Trait w' hI; go_simp; rfl) ?_; simp only [Act.put, List.setIfInBounds_toArray, List.set_cons_zero, List.set_cons_succ]
            refine sg_fix _ rfl (fun w' hI => by have := k0_Trait w' hI; have := k1_Trait w' hI; go_simp; rfl) ?_; simp only [Act.put, List.setIfInBounds_toArray, List.set_cons_zero, List.set_cons_succ]
            refine sg_nil (rg_end (by kernel_rfl) ?_)
            replace hV := hV.trans (hI3.mono hV.size)
            go_wp2
            go_roundw
            case rel =>
              refine ⟨n + 1, hlt, by go_num, ?_, hV⟩
              have e := Hs.out
              rw [Hd.out, Hd'.out, Hq.out, deq_cons] at e
              exact e
            case measure => simp [intOf]; omega
          · skip
            rw [deq_ne e4]
            have Hq : Hid (¬ u = v) := fun q => e4 (congrArg (·.fType) q)
            clear e4
            refine rg_seg (fuel := 0) [23, 24] hI3 (by kernel_rfl) rfl ?_
            simp only [pick, List.getElem?_cons_zero, List.getElem?_cons_succ]
            refine sg_fix _ rfl (fun w' hI => by have := k0_Trait w' hI; have := k1_Trait w' hI; go_simp; rfl) ?_; simp only [Act.put, List.setIfInBounds_toArray, List.set_cons_zero, List.set_cons_succ]
            refine sg_fix _ rfl (fun w' hI => by have := k0_Trait w' hI; have := k1_Trait w' hI; go_simp; rfl) ?_; simp only [Act.put, List.setIfInBounds_toArray, List.set_cons_zero, List.set_cons_succ]
            refine sg_nil (rg_end (by kernel_rfl) ?_)
            replace hV := hV.trans (hI3.mono hV.size)
            have e := Hs.out
            rw [Hd.out, Hd'.out, deq_ne (fun q => Hq.out (List.cons.inj q).1)] at e
            have Hf := Lib.hid e
            clear e
            go_wp2
            go_ret
            exact ⟨ret_bool Hf.out, hV⟩
        · skip
          have be1 : (!u.fTrait.toList == v.fTrait.toList) = true := by simpa using fun q => e1 (ba_ext q)
          have bbe1 : (u.fTrait.toList == v.fTrait.toList) = false := by simpa using fun q => e1 (ba_ext q)
          have Hq : Hid (¬ u = v) := fun q => e1 (congrArg (·.fTrait) q)
          clear e1
          go_wp2_with fail
          refine rg 25 (Below wr.heap.size wr) (by kernel_rfl) rfl ?_
          refine rg_seg (fuel := 0) [0, 1, 2, 3, 4, 5, 6, 7, 8, 9, 10, 11, 12, 13, 14, 15, 16, 17, 18, 19, 20, 21, 22, 23, 24] hI0 (by kernel_rfl) rfl ?_
          simp only [pick, List.getElem?_cons_zero, List.getElem?_cons_succ]
          refine sg_fix _ rfl (fun w' hI => by have := k0_Trait w' hI; have := k1_Trait w' hI; go_simp; rfl) ?_; simp only [Act.put, List.setIfInBounds_toArray, List.set_cons_zero, List.set_cons_succ]
          refine sg_fix _ rfl (fun w' hI => by have := k0_Trait w' hI; have := k1_Trait w' hI; go_simp; rfl) ?_; simp only [Act.put, List.setIfInBounds_toArray, List.set_cons_zero, List.set_cons_succ]
          refine sg_fix _ rfl (fun w' hI => by have := k0_Trait w' hI; have := k1_Trait w' hI; go_simp; rfl) ?_; simp only [Act.put, List.setIfInBounds_toArray, List.set_cons_zero, List.set_cons_succ]
          refine sg_fix _ rfl (fun w' hI => by have := k0_Trait w' hI; have := k1_Trait w' hI; go_simp; rfl) ?_; simp only [Act.put, List.setIfInBounds_toArray, List.set_cons_zero, List.set_cons_succ]
          refine sg_fix _ rfl (fun w' hI => by have := k0_Trait w' hI; have := k1_Trait w' hI; go_simp; rfl) ?_; simp only [Act.put, List.setIfInBounds_toArray, List.set_cons_zero, List.set_cons_succ]
          refine sg_fix _ rfl (fun w' hI => by have := k0_Trait w' hI; have := k1_Trait w' hI; go_simp; rfl) ?_; simp only [Act.put, List.setIfInBounds_toArray, List.set_cons_zero, List.set_cons_succ]
          refine sg_fix _ rfl (fun w' hI => by have := k0_Trait w' hI; have := k1_Trait w' hI; go_simp; rfl) ?_; simp only [Act.put, List.setIfInBounds_toArray, List.set_cons_zero, List.set_cons_succ]
          refine sg_fix _ rfl (fun w' hI => by have := k0_Trait w' hI; have := k1_Trait w' hI; go_simp; rfl) ?_; simp only [Act.put, List.setIfInBounds_toArray, List.set_cons_zero, List.set_cons_succ]
          refine sg_fix _ rfl (fun w' hI => by have := k0_Trait w' hI; have := k1_Trait w' hI; go_simp; rfl) ?_; simp only [Act.put, List.setIfInBounds_toArray, List.set_cons_zero, List.set_cons_succ]
          refine sg_fix _ rfl (fun w' hI => by have := k0_Trait w' hI; have := k1_Trait w' hI; go_simp; rfl) ?_; simp only [Act.put, List.setIfInBounds_toArray, List.set_cons_zero, List.set_cons_succ]
          refine sg_fix _ rfl (fun w' hI => by have := k0_Trait w' hI; have := k1_Trait w' hI; go_simp; rfl) ?_; simp only [Act.put, List.setIfInBounds_toArray, List.set_cons_zero, List.set_cons_succ]
          refine sg_fix _ rfl (fun w' hI => by have := k0_Trait w' hI; have := k1_Trait w' hI; go_simp; rfl) ?_; simp only [Act.put, List.setIfInBounds_toArray, List.set_cons_zero, List.set_cons_succ]
          refine sg_skip rfl ?_; simp only [Act.put, List.setIfInBounds_toArray, List.set_cons_zero, List.set_cons_succ]
          refine sg_skip rfl ?_; simp only [Act.put, List.setIfInBounds_toArray, List.set_cons_zero, List.set_cons_succ]
          refine sg_skip rfl ?_; simp only [Act.put, List.setIfInBounds_toArray, List.set_cons_zero, List.set_cons_succ]
          refine sg_skip rfl ?_; simp only [Act.put, List.setIfInBounds_toArray, List.set_cons_zero, List.set_cons_succ]
          refine sg_skip rfl ?_; simp only [Act.put, List.setIfInBounds_toArray, List.set_cons_zero, List.set_cons_succ]
          refine sg_skip rfl ?_; simp only [Act.put, List.setIfInBounds_toArray, List.set_cons_zero, List.set_cons_succ]
          refine sg_skip rfl ?_; simp only [Act.put, List.setIfInBounds_toArray, List.set_cons_zero, List.set_cons_succ]
          refine sg_skip rfl ?_; simp only [Act.put, List.setIfInBounds_toArray, List.set_cons_zero, List.set_cons_succ]
          refine sg_skip rfl ?_; simp only [Act.put, List.setIfInBounds_toArray, List.set_cons_zero, List.set_cons_succ]
          refine sg_skip rfl ?_; simp only [Act.put, List.setIfInBounds_toArray, List.set_cons_zero, List.set_cons_succ]
          refine sg_skip rfl ?_; simp only [Act.put, List.setIfInBounds_toArray, List.set_cons_zero, List.set_cons_succ]
          refine sg_skip rfl ?_; simp only [Act.put, List.setIfInBounds_toArray, List.set_cons_zero, List.set_cons_succ]
          refine sg_fix _ rfl (fun w' hI => by have := k0_Trait w' hI; have := k1_Trait w' hI; go_simp; rfl) ?_; simp only [Act.put, List.setIfInBounds_toArray, List.set_cons_zero, List.set_cons_succ]
          refine sg_nil (rg_end (by kernel_rfl) ?_)
          replace hV := hV.trans (hI0.mono hV.size)
          have e := Hs.out
          rw [Hd.out, Hd'.out, deq_ne (fun q => Hq.out (List.cons.inj q).1)] at e
          have Hf := Lib.hid e
          clear e
          go_wp2
          go_ret
          exact ⟨ret_bool Hf.out, hV⟩
      · skip
        obtain rfl : n = l.length := by omega
        go_wp2
        go_ret
        refine ⟨ret_bool ?_, hV⟩
        rw [← Hs.out, List.drop_length, List.drop_eq_nil_of_le (by omega)]
        exact (deq_eq rfl).symm
  · skip
    have bhl : (l.length != m.length) = true := by simpa using hl
    have bihl : ((l.length : Int) != (m.length : Int)) = true := by simp; omega
    have Hl0 := Lib.hid hl
    clear hl
    go_enter Try.func94, Try.ntmps94
    go_wp2
    go_ret
    exact ⟨ret_bool (deq_ne (fun q => Hl0.out (congrArg List.length q))).symm, Below.refl _ _⟩
set_option maxRecDepth 100000 in
set_option maxHeartbeats 10000000 in
theorem specl36Params2_c (l m : List TParam) : ∀ (w : World) (K : Nat → Prop) (_ : ∀ b, K b → b < w.heap.size) (u v : Value) (_ : Rep w K (.sl (l.map TParam.enc)) [u]) (_ : Rep w K (.sl (m.map TParam.enc)) [v]),
    Calls Try.prog 95 #[u, v] w fun e w' => e = .returned (.bool (deq l m)) ∧ Below w.heap.size w w' := by
  intro w K hK u v h k
  obtain ⟨a, cap, rfl, hc, hm, -, hE⟩ := open_sl TParam.width h
  obtain ⟨a', cap', rfl, hc', hm', -, hE'⟩ := open_sl TParam.width k
  unfold maxLen at hm hm'
  clear h k
  by_cases hl : l.length = m.length
  · skip
    have bhl : (l.length != m.length) = false := by simp [hl]
    have bihl : ((l.length : Int) != (m.length : Int)) = false := by simp [hl]
    have hahl : l.length ≤ m.length := by omega
    have hbhl : m.length ≤ l.length := by omega
    have Hl0 := Lib.hid hl
    clear hl
    have Hg : Hid (deq (l.drop 0) (m.drop 0) = deq l m) := rfl
    go_enter Try.func95, Try.ntmps95
    go_wp2
    go_loopw [5] (fun i wr => ∃ (n : Nat), n ≤ l.length ∧ i = .int .i64 n ∧ Hid (deq (l.drop n) (m.drop n) = deq l m) ∧ Below w.heap.size w wr) (fun i _ => l.length - (intOf i).toNat)
    case atStart => exact ⟨0, Nat.zero_le _, rfl, Hg, Below.refl _ _⟩
    case round =>
      clear Hg
      obtain ⟨n, hn, rfl, Hs, hV⟩ := hrel
      by_cases hlt : n < l.length
      · skip
        have hlt' : n < m.length := by omega
        obtain ⟨b1, off1, rfl, hKb, cs, hcs, hr⟩ := hE n hlt
        obtain ⟨b2, off2, rfl, hKb', cs', hcs', hr'⟩ := hE' n hlt'
        have gcs := hcs.ext hV (hK b1 hKb)
        have gcs' := hcs'.ext hV (hK b2 hKb')
        have gr := Rep.ext hV hK hr
        have gr' := Rep.ext hV hK hr'
        have hK' : ∀ b, K b → b < wr.heap.size := fun b h => Nat.lt_of_lt_of_le (hK b h) hV.size
        have hmem : l[n] ∈ l := List.getElem_mem hlt
        have Hd : Hid (l.drop n = l[n] :: l.drop (n + 1)) := List.drop_eq_getElem_cons hlt
        have Hd' : Hid (m.drop n = m[n] :: m.drop (n + 1)) := List.drop_eq_getElem_cons hlt'
        clear hcs hcs' hr hr'
        generalize l[n] = u at *
        generalize m[n] = v at *
        obtain ⟨p1, p2, p3, rfl, -, rhType⟩ := TParam.opn gr
        obtain ⟨q1, q2, q3, rfl, -, skType⟩ := TParam.opn gr'
        have hI0 : Below wr.heap.size wr wr.drew := (Below.refl _ _).drew
        have k0_Name : ∀ w', Below wr.heap.size wr w' → w'.cell? ⟨b1, off1 + n * 4, none⟩ = some (.string u.fName) := fun w' h => by simpa using (gcs.ext h (hK' b1 hKb)) 0 _ rfl
        have k0_Type : ∀ w', Below wr.heap.size wr w' → Cells w' b1 (off1 + n * 4 + 1) [p1, p2, p3] := fun w' h => Cells.part (gcs.ext h (hK' b1 hKb)) 1 3 rfl
        have k1_Name : ∀ w', Below wr.heap.size wr w' → w'.cell? ⟨b2, off2 + n * 4, none⟩ = some (.string v.fName) := fun w' h => by simpa using (gcs'.ext h (hK' b2 hKb')) 0 _ rfl
        have k1_Type : ∀ w', Below wr.heap.size wr w' → Cells w' b2 (off2 + n * 4 + 1) [q1, q2, q3] := fun w' h => Cells.part (gcs'.ext h (hK' b2 hKb')) 1 3 rfl
        clear gcs gcs'
        by_cases e1 : u.fName = v.fName
        · skip
          have be1 : (!u.fName.toList == v.fName.toList) = false := by simp [e1]
          have bbe1 : (u.fName.toList == v.fName.toList) = true := by simp [e1]
          have Ee1 := Lib.hid e1
          clear e1
          go_wp2_with fail
          refine rg 25 (Below wr.heap.size wr) (by kernel_rfl) rfl ?_
          refine rg_seg (fuel := 3) [0, 1, 2, 3, 4, 5, 6, 7, 8, 9, 10, 11, 12, 13, 14, 15, 16, 17, 18, 19, 20, 21] hI0 (by kernel_rfl) rfl ?_
          simp only [pick, List.getElem?_cons_zero, List.getElem?_cons_succ]
          refine sg_fix _ rfl (fun w' hI => by have := k0_Name w' hI; have := k1_Name w' hI; go_simp; rfl) ?_; simp only [Act.put, List.setIfInBounds_toArray, List.set_cons_zero, List.set_cons_succ]
          refine sg_fix _ rfl (fun w' hI => by have := k0_Name w' hI; have := k1_Name w' hI; go_simp; rfl) ?_; simp only [Act.put, List.setIfInBounds_toArray, List.set_cons_zero, List.set_cons_succ]
          refine sg_fix _ rfl (fun w' hI => by have := k0_Name w' hI; have := k1_Name w' hI; go_simp; rfl) ?_; simp only [Act.put, List.setIfInBounds_toArray, List.set_cons_zero, List.set_cons_succ]
          refine sg_fix _ rfl (fun w' hI => by have := k0_Name w' hI; have := k1_Name w' hI; go_simp; rfl) ?_; simp only [Act.put, List.setIfInBounds_toArray, List.set_cons_zero, List.set_cons_succ]
          refine sg_fix _ rfl (fun w' hI => by have := k0_Name w' hI; have := k1_Name w' hI; go_simp; rfl) ?_; simp only [Act.put, List.setIfInBounds_toArray, List.set_cons_zero, List.set_cons_succ]
          refine sg_fix _ rfl (fun w' hI => by have := k0_Name w' hI; have := k1_Name w' hI; go_simp; rfl) ?_; simp only [Act.put, List.setIfInBounds_toArray, List.set_cons_zero, List.set_cons_succ]
          refine sg_fix _ rfl (fun w' hI => by have := k0_Name w' hI; have := k1_Name w' hI; go_simp; rfl) ?_; simp only [Act.put, List.setIfInBounds_toArray, List.set_cons_zero, List.set_cons_succ]
          refine sg_fix _ rfl (fun w' hI => by have := k0_Name w' hI; have := k1_Name w' hI; go_simp; rfl) ?_; simp only [Act.put, List.setIfInBounds_toArray, List.set_cons_zero, List.set_cons_succ]
          refine sg_fix _ rfl (fun w' hI => by have := k0_Name w' hI; have := k1_Name w' hI; go_simp; rfl) ?_; simp only [Act.put, List.setIfInBounds_toArray, List.set_cons_zero, List.set_cons_succ]
          refine sg_fix _ rfl (fun w' hI => by have := k0_Name w' hI; have := k1_Name w' hI; go_simp; rfl) ?_; simp only [Act.put, List.setIfInBounds_toArray, List.set_cons_zero, List.set_cons_succ]
          refine sg_fix _ rfl (fun w' hI => by have := k0_Name w' hI; have := k1_Name w' hI; go_simp; rfl) ?_; simp only [Act.put, List.setIfInBounds_toArray, List.set_cons_zero, List.set_cons_succ]
          refine sg_fix _ rfl (fun w' hI => by have := k0_Name w' hI; have := k1_Name w' hI; go_simp; rfl) ?_; simp only [Act.put, List.setIfInBounds_toArray, List.set_cons_zero, List.set_cons_succ]
          refine sg_fix _ rfl (fun w' hI => by have := k0_Name w' hI; have := k1_Name w' hI; go_simp; rfl) ?_; simp only [Act.put, List.setIfInBounds_toArray, List.set_cons_zero, List.set_cons_succ]
          refine sg_fix _ rfl (fun w' hI => by have := k0_Name w' hI; have := k1_Name w' hI; go_simp; rfl) ?_; simp only [Act.put, List.setIfInBounds_toArray, List.set_cons_zero, List.set_cons_succ]
          refine sg_fix _ rfl (fun w' hI => by have := k0_Name w' hI; have := k1_Name w' hI; go_simp; rfl) ?_; simp only [Act.put, List.setIfInBounds_toArray, List.set_cons_zero, List.set_cons_succ]
          refine sg_fix _ rfl (fun w' hI => by have := k0_Name w' hI; have := k1_Name w' hI; go_simp; rfl) ?_; simp only [Act.put, List.setIfInBounds_toArray, List.set_cons_zero, List.set_cons_succ]
          refine sg_fix _ rfl (fun w' hI => run_ld 138 _ rfl b1 _ rfl [p1, p2, p3] (k0_Type w' hI) _ Try.underlying138 infoQEqFS138) ?_
          simp only [Act.put, List.setIfInBounds_toArray, List.set_cons_zero, List.set_cons_succ]
          refine sg_fix _ rfl (fun w' hI => by have := k0_Name w' hI; have := k1_Name w' hI; go_simp; rfl) ?_; simp only [Act.put, List.setIfInBounds_toArray, List.set_cons_zero, List.set_cons_succ]
          refine sg_fix _ rfl (fun w' hI => by have := k0_Name w' hI; have := k1_Name w' hI; go_simp; rfl) ?_; simp only [Act.put, List.setIfInBounds_toArray, List.set_cons_zero, List.set_cons_succ]
          refine sg_fix _ rfl (fun w' hI => by have := k0_Name w' hI; have := k1_Name w' hI; go_simp; rfl) ?_; simp only [Act.put, List.setIfInBounds_toArray, List.set_cons_zero, List.set_cons_succ]
          refine sg_fix _ rfl (fun w' hI => by have := k0_Name w' hI; have := k1_Name w' hI; go_simp; rfl) ?_; simp only [Act.put, List.setIfInBounds_toArray, List.set_cons_zero, List.set_cons_succ]
          refine sg_fix _ rfl (fun w' hI => run_ld 138 _ rfl b2 _ rfl [q1, q2, q3] (k1_Type w' hI) _ Try.underlying138 infoQEqFS138) ?_
          simp only [Act.put, List.setIfInBounds_toArray, List.set_cons_zero, List.set_cons_succ]
          refine sg_nil ?_
          refine rg_one (fuel := 2) 22 (by kernel_rfl) rfl (fun Kq2 hq2 => ?_)
          simp only [pick, List.getElem?_cons_zero, List.getElem?_cons_succ]
          refine rg_call rfl _ _ (by go_simp; exact ⟨rfl, rfl⟩) ?_
          refine (specEqualType_c u.fType v.fType _ K (fun b hb => Nat.lt_of_lt_of_le (hK' b hb) hI0.size) _ _ (Rep.ext hI0 hK' rhType) (Rep.ext hI0 hK' skType)).mono ?_
          rintro e w1 ⟨rfl, hB1⟩
          have hI3 := hI0.trans (hB1.mono hI0.size)
          refine ⟨_, rfl, hq2 _ _ hI3 ?_⟩
          simp only [Act.put, List.setIfInBounds_toArray, List.set_cons_zero, List.set_cons_succ]
          by_cases e4 : u.fType = v.fType
          · skip
            rw [deq_eq e4]
            have Ee4 := Lib.hid e4
            clear e4
            have Hq : Hid (u = v) := (TParam.ext Ee1.out Ee4.out)
            refine rg_seg (fuel := 0) [23, 24] hI3 (by kernel_rfl) rfl ?_
            simp only [pick, List.getElem?_cons_zero, List.getElem?_cons_succ]
            refine sg_fix _ rfl (fun w' hI => by have := k0_Name w' hI; have := k1_Name w' hI; go_simp; rfl) ?_; simp only [Act.put, List.setIfInBounds_toArray, List.set_cons_zero, List.set_cons_succ]
            refine sg_fix _ rfl (fun w' hI => by have := k0_Name w' hI; have := k1_Name w' hI; go_simp; rfl) ?_; simp only [Act.put, List.setIfInBounds_toArray, List.set_cons_zero, List.set_cons_succ]
            refine sg_nil (rg_end (by kernel_rfl) ?_)
            replace hV := hV.trans (hI3.mono hV.size)
            go_wp2
            go_roundw
            case rel =>
              refine ⟨n + 1, hlt, by go_num, ?_, hV⟩
              have e := Hs.out
              rw [Hd.out, Hd'.out, Hq.out, deq_cons] at e
              exact e
            case measure => simp [intOf]; omega
          · skip
            rw [deq_ne e4]
            have Hq : Hid (¬ u = v) := fun q => e4 (congrArg (·.fType) q)
            clear e4
            refine rg_seg (fuel := 0) [23, 24] hI3 (by kernel_rfl) rfl ?_
            simp only [pick, List.getElem?_cons_zero, List.getElem?_cons_succ]
            refine sg_fix _ rfl (fun w' hI => by have := k0_Name w' hI; have := k1_Name w' hI; go_simp; rfl) ?_; simp only [Act.put, List.setIfInBounds_toArray, List.set_cons_zero, List.set_cons_succ]
            refine sg_fix _ rfl (fun w' hI => by have := k0_Name w' hI; have := k1_Name w' hI; go_simp; rfl) ?_; simp only [Act.put, List.setIfInBounds_toArray, List.set_cons_zero, List.set_cons_succ]
            refine sg_nil (rg_end (by kernel_rfl) ?_)
            replace hV := hV.trans (hI3.mono hV.size)
            have e := Hs.out
            rw [Hd.out, Hd'.out, deq_ne (fun q => Hq.out (List.cons.inj q).1)] at e
            have Hf := Lib.hid e
            clear e
            go_wp2
            go_ret
            exact ⟨ret_bool Hf.out, hV⟩
        · skip
          have be1 : (!u.fName.toList == v.fName.toList) = true := by simpa using fun q => e1 (ba_ext q)
          have bbe1 : (u.fName.toList == v.fName.toList) = false := by simpa using fun q => e1 (ba_ext q)
          have Hq : Hid (¬ u = v) := fun q => e1 (congrArg (·.fName) q)
          clear e1
          go_wp2_with fail
          refine rg 25 (Below wr.heap.size wr) (by kernel_rfl) rfl ?_
          refine rg_seg (fuel := 0) [0, 1, 2, 3, 4, 5, 6, 7, 8, 9, 10, 11, 12, 13, 14, 15, 16, 17, 18, 19, 20, 21, 22, 23, 24] hI0 (by kernel_rfl) rfl ?_
          simp only [pick, List.getElem?_cons_zero, List.getElem?_cons_succ]
          refine sg_fix _ rfl (fun w' hI => by have := k0_Name w' hI; have := k1_Name w' hI; go_simp; rfl) ?_; simp only [Act.put, List.setIfInBounds_toArray, List.set_cons_zero, List.set_cons_succ]
          refine sg_fix _ rfl (fun w' hI => by have := k0_Name w' hI; have := k1_Name w' hI; go_simp; rfl) ?_; simp only [Act.put, List.setIfInBounds_toArray, List.set_cons_zero, List.set_cons_succ]
          refine sg_fix _ rfl (fun w' hI => by have := k0_Name w' hI; have := k1_Name w' hI; go_simp; rfl) ?_; simp only [Act.put, List.setIfInBounds_toArray, List.set_cons_zero, List.set_cons_succ]
          refine sg_fix _ rfl (fun w' hI => by have := k0_Name w' hI; have := k1_Name w' hI; go_simp; rfl) ?_; simp only [Act.put, List.setIfInBounds_toArray, List.set_cons_zero, List.set_cons_succ]
          refine sg_fix _ rfl (fun w' hI => by have := k0_Name w' hI; have := k1_Name w' hI; go_simp; rfl) ?_; simp only [Act.put, List.setIfInBounds_toArray, List.set_cons_zero, List.set_cons_succ]
          refine sg_fix _ rfl (fun w' hI => by have := k0_Name w' hI; have := k1_Name w' hI; go_simp; rfl) ?_; simp only [Act.put, List.setIfInBounds_toArray, List.set_cons_zero, List.set_cons_succ]
          refine sg_fix _ rfl (fun w' hI => by have := k0_Name w' hI; have := k1_Name w' hI; go_simp; rfl) ?_; simp only [Act.put, List.setIfInBounds_toArray, List.set_cons_zero, List.set_cons_succ]
          refine sg_fix _ rfl (fun w' hI => by have := k0_Name w' hI; have := k1_Name w' hI; go_simp; rfl) ?_; simp only [Act.put, List.setIfInBounds_toArray, List.set_cons_zero, List.set_cons_succ]
          refine sg_fix _ rfl (fun w' hI => by have := k0_Name w' hI; have := k1_Name w' hI; go_simp; rfl) ?_; simp only [Act.put, List.setIfInBounds_toArray, List.set_cons_zero, List.set_cons_succ]
          refine sg_fix _ rfl (fun w' hI => by have := k0_Name w' hI; have := k1_Name w' hI; go_simp; rfl) ?_; simp only [Act.put, List.setIfInBounds_toArray, List.set_cons_zero, List.set_cons_succ]
          refine sg_fix _ rfl (fun w' hI => by have := k0_Name w' hI; have := k1_Name w' hI; go_simp; rfl) ?_; simp only [Act.put, List.setIfInBounds_toArray, List.set_cons_zero, List.set_cons_succ]
          refine sg_fix _ rfl (fun w' hI => by have := k0_Name w' hI; have := k1_Name w' hI; go_simp; rfl) ?_; simp only [Act.put, List.setIfInBounds_toArray, List.set_cons_zero, List.set_cons_succ]
          refine sg_skip rfl ?_; simp only [Act.put, List.setIfInBounds_toArray, List.set_cons_zero, List.set_cons_succ]
          refine sg_skip rfl ?_; simp only [Act.put, List.setIfInBounds_toArray, List.set_cons_zero, List.set_cons_succ]
          refine sg_skip rfl ?_; simp only [Act.put, List.setIfInBounds_toArray, List.set_cons_zero, List.set_cons_succ]
          refine sg_skip rfl ?_; simp only [Act.put, List.setIfInBounds_toArray, List.set_cons_zero, List.set_cons_succ]
          refine sg_skip rfl ?_; simp only [Act.put, List.setIfInBounds_toArray, List.set_cons_zero, List.set_cons_succ]
          refine sg_skip rfl ?_; simp only [Act.put, List.setIfInBounds_toArray, List.set_cons_zero, List.set_cons_succ]
          refine sg_skip rfl ?_; simp only [Act.put, List.setIfInBounds_toArray, List.set_cons_zero, List.set_cons_succ]
          refine sg_skip rfl ?_; simp only [Act.put, List.setIfInBounds_toArray, List.set_cons_zero, List.set_cons_succ]
          refine sg_skip rfl ?_; simp only [Act.put, List.setIfInBounds_toArray, List.set_cons_zero, List.set_cons_succ]
          refine sg_skip rfl ?_; simp only [Act.put, List.setIfInBounds_toArray, List.set_cons_zero, List.set_cons_succ]
          refine sg_skip rfl ?_; simp only [Act.put, List.setIfInBounds_toArray, List.set_cons_zero, List.set_cons_succ]
          refine sg_skip rfl ?_; simp only [Act.put, List.setIfInBounds_toArray, List.set_cons_zero, List.set_cons_succ]
          refine sg_fix _ rfl (fun w' hI => by have := k0_Name w' hI; have := k1_Name w' hI; go_simp; rfl) ?_; simp only [Act.put, List.setIfInBounds_toArray, List.set_cons_zero, List.set_cons_succ]
          refine sg_nil (rg_end (by kernel_rfl) ?_)
          replace hV := hV.trans (hI0.mono hV.size)
          have e := Hs.out
          rw [Hd.out, Hd'.out, deq_ne (fun q => Hq.out (List.cons.inj q).1)] at e
          have Hf := Lib.hid e
          clear e
          go_wp2
          go_ret
          exact ⟨ret_bool Hf.out, hV⟩
      · skip
        obtain rfl : n = l.length := by omega
        go_wp2
        go_ret
        refine ⟨ret_bool ?_, hV⟩
        rw [← Hs.out, List.drop_length, List.drop_eq_nil_of_le (by omega)]
        exact (deq_eq rfl).symm
  · skip
    have bhl : (l.length != m.length) = true := by simpa using hl
    have bihl : ((l.length : Int) != (m.length : Int)) = true := by simp; omega
    have Hl0 := Lib.hid hl
    clear hl
    go_enter Try.func95, Try.ntmps95
    go_wp2
    go_ret
    exact ⟨ret_bool (deq_ne (fun q => Hl0.out (congrArg List.length q))).symm, Below.refl _ _⟩
def Pspecl24Same (N : Nat) : Prop := ∀ (l m : List TEvidence), SizeOf.sizeOf l < N → ∀ (w : World) (K : Nat → Prop) (_ : ∀ b, K b → b < w.heap.size) (u v : Value) (_ : Rep w K (.sl (l.map TEvidence.enc)) [u]) (_ : Rep w K (.sl (m.map TEvidence.enc)) [v]),
    Calls Try.prog 140 #[u, v] w fun e w' => e = .returned (.bool (deq l m)) ∧ Below w.heap.size w w'
def PspecEqualEvidence (N : Nat) : Prop := ∀ (x y : TEvidence), SizeOf.sizeOf x < N → ∀ (w : World) (K : Nat → Prop) (_ : ∀ b, K b → b < w.heap.size) (cs ds : List Value) (_ : Rep w K x.enc cs) (_ : Rep w K y.enc ds),
    Calls Try.prog 180 #[.agg cs.toArray, .agg ds.toArray] w fun e w' => e = .returned (.bool (deq x y)) ∧ Below w.heap.size w w'
set_option maxRecDepth 100000 in
set_option maxHeartbeats 10000000 in
theorem stepPspecl24Same (N : Nat) (_iPspecl24Same : Pspecl24Same N) (iPspecEqualEvidence : PspecEqualEvidence N)  : Pspecl24Same (N + 1) := by
  intro l m hN
  intro w K hK u v h k
  obtain ⟨a, cap, rfl, hc, hm, -, hE⟩ := open_sl TEvidence.width h
  obtain ⟨a', cap', rfl, hc', hm', -, hE'⟩ := open_sl TEvidence.width k
  unfold maxLen at hm hm'
  clear h k
  by_cases hl : l.length = m.length
  · skip
    have bhl : (l.length != m.length) = false := by simp [hl]
    have bihl : ((l.length : Int) != (m.length : Int)) = false := by simp [hl]
    have hahl : l.length ≤ m.length := by omega
    have hbhl : m.length ≤ l.length := by omega
    have Hl0 := Lib.hid hl
    clear hl
    have Hg : Hid (deq (l.drop 0) (m.drop 0) = deq l m) := rfl
    go_enter Try.func140, Try.ntmps140
    go_wp2
    go_loopw [5] (fun i wr => ∃ (n : Nat), n ≤ l.length ∧ i = .int .i64 n ∧ Hid (deq (l.drop n) (m.drop n) = deq l m) ∧ Below w.heap.size w wr) (fun i _ => l.length - (intOf i).toNat)
    case atStart => exact ⟨0, Nat.zero_le _, rfl, Hg, Below.refl _ _⟩
    case round =>
      clear Hg
      obtain ⟨n, hn, rfl, Hs, hV⟩ := hrel
      by_cases hlt : n < l.length
      · skip
        have hlt' : n < m.length := by omega
        obtain ⟨b1, off1, rfl, hKb, cs, hcs, hr⟩ := hE n hlt
        obtain ⟨b2, off2, rfl, hKb', cs', hcs', hr'⟩ := hE' n hlt'
        have gcs := hcs.ext hV (hK b1 hKb)
        have gcs' := hcs'.ext hV (hK b2 hKb')
        have gr := Rep.ext hV hK hr
        have gr' := Rep.ext hV hK hr'
        have hK' : ∀ b, K b → b < wr.heap.size := fun b h => Nat.lt_of_lt_of_le (hK b h) hV.size
        have hmem : l[n] ∈ l := List.getElem_mem hlt
        have Hd : Hid (l.drop n = l[n] :: l.drop (n + 1)) := List.drop_eq_getElem_cons hlt
        have Hd' : Hid (m.drop n = m[n] :: m.drop (n + 1)) := List.drop_eq_getElem_cons hlt'
        clear hcs hcs' hr hr'
        generalize l[n] = u at *
        generalize m[n] = v at *
        have hI0 : Below wr.heap.size wr wr.drew := (Below.refl _ _).drew
        have k0_ : ∀ w', Below wr.heap.size wr w' → Cells w' b1 (off1 + n * 5) cs := fun w' h => gcs.ext h (hK' b1 hKb)
        have k1_ : ∀ w', Below wr.heap.size wr w' → Cells w' b2 (off2 + n * 5) cs' := fun w' h => gcs'.ext h (hK' b2 hKb')
        clear gcs gcs'
        go_wp2_with fail
        refine rg 10 (Below wr.heap.size wr) (by kernel_rfl) rfl ?_
        refine rg_seg (fuel := 2) [0, 1, 2, 3, 4, 5, 6, 7] hI0 (by kernel_rfl) rfl ?_
        simp only [pick, List.getElem?_cons_zero, List.getElem?_cons_succ]
        refine sg_fix _ rfl (fun w' hI => by go_simp; rfl) ?_; simp only [Act.put, List.setIfInBounds_toArray, List.set_cons_zero, List.set_cons_succ]
        refine sg_fix _ rfl (fun w' hI => by go_simp; rfl) ?_; simp only [Act.put, List.setIfInBounds_toArray, List.set_cons_zero, List.set_cons_succ]
        refine sg_fix _ rfl (fun w' hI => by go_simp; rfl) ?_; simp only [Act.put, List.setIfInBounds_toArray, List.set_cons_zero, List.set_cons_succ]
        refine sg_fix _ rfl (fun w' hI => run_ld 267 _ rfl b1 _ rfl cs (k0_ w' hI) _ Try.underlying267 (by rw [Rep.length _ _ gr, TEvidence.width]; exact infoQEqFS267)) ?_
        simp only [Act.put, List.setIfInBounds_toArray, List.set_cons_zero, List.set_cons_succ]
        refine sg_fix _ rfl (fun w' hI => by go_simp; rfl) ?_; simp only [Act.put, List.setIfInBounds_toArray, List.set_cons_zero, List.set_cons_succ]
        refine sg_fix _ rfl (fun w' hI => by go_simp; rfl) ?_; simp only [Act.put, List.setIfInBounds_toArray, List.set_cons_zero, List.set_cons_succ]
        refine sg_fix _ rfl (fun w' hI => by go_simp; rfl) ?_; simp only [Act.put, List.setIfInBounds_toArray, List.set_cons_zero, List.set_cons_succ]
        refine sg_fix _ rfl (fun w' hI => run_ld 267 _ rfl b2 _ rfl cs' (k1_ w' hI) _ Try.underlying267 (by rw [Rep.length _ _ gr', TEvidence.width]; exact infoQEqFS267)) ?_
        simp only [Act.put, List.setIfInBounds_toArray, List.set_cons_zero, List.set_cons_succ]
        refine sg_nil ?_
        refine rg_one (fuel := 1) 8 (by kernel_rfl) rfl (fun Kq1 hq1 => ?_)
        simp only [pick, List.getElem?_cons_zero, List.getElem?_cons_succ]
        refine rg_call rfl _ _ (by go_simp; exact ⟨rfl, rfl⟩) ?_
        refine (iPspecEqualEvidence u v (by have hsz := List.sizeOf_lt_of_mem hmem; omega) _ K (fun b hb => Nat.lt_of_lt_of_le (hK' b hb) hI0.size) _ _ (Rep.ext hI0 hK' gr) (Rep.ext hI0 hK' gr')).mono ?_
        rintro e w1 ⟨rfl, hB1⟩
        have hI2 := hI0.trans (hB1.mono hI0.size)
        refine ⟨_, rfl, hq1 _ _ hI2 ?_⟩
        simp only [Act.put, List.setIfInBounds_toArray, List.set_cons_zero, List.set_cons_succ]
        by_cases e3 : u = v
        · skip
          rw [deq_eq e3]
          have Hq := Lib.hid e3
          clear e3
          refine rg_seg (fuel := 0) [9] hI2 (by kernel_rfl) rfl ?_
          simp only [pick, List.getElem?_cons_zero, List.getElem?_cons_succ]
          refine sg_fix _ rfl (fun w' hI => by go_simp; rfl) ?_; simp only [Act.put, List.setIfInBounds_toArray, List.set_cons_zero, List.set_cons_succ]
          refine sg_nil (rg_end (by kernel_rfl) ?_)
          replace hV := hV.trans (hI2.mono hV.size)
          go_wp2
          go_roundw
          case rel =>
            refine ⟨n + 1, hlt, by go_num, ?_, hV⟩
            have e := Hs.out
            rw [Hd.out, Hd'.out, Hq.out, deq_cons] at e
            exact e
          case measure => simp [intOf]; omega
        · skip
          rw [deq_ne e3]
          have Hq := Lib.hid e3
          clear e3
          refine rg_seg (fuel := 0) [9] hI2 (by kernel_rfl) rfl ?_
          simp only [pick, List.getElem?_cons_zero, List.getElem?_cons_succ]
          refine sg_fix _ rfl (fun w' hI => by go_simp; rfl) ?_; simp only [Act.put, List.setIfInBounds_toArray, List.set_cons_zero, List.set_cons_succ]
          refine sg_nil (rg_end (by kernel_rfl) ?_)
          replace hV := hV.trans (hI2.mono hV.size)
          have e := Hs.out
          rw [Hd.out, Hd'.out, deq_ne (fun q => Hq.out (List.cons.inj q).1)] at e
          have Hf := Lib.hid e
          clear e
          go_wp2
          go_ret
          exact ⟨ret_bool Hf.out, hV⟩
      · skip
        obtain rfl : n = l.length := by omega
        go_wp2
        go_ret
        refine ⟨ret_bool ?_, hV⟩
        rw [← Hs.out, List.drop_length, List.drop_eq_nil_of_le (by omega)]
        exact (deq_eq rfl).symm
  · skip
    have bhl : (l.length != m.length) = true := by simpa using hl
    have bihl : ((l.length : Int) != (m.length : Int)) = true := by simp; omega
    have Hl0 := Lib.hid hl
    clear hl
    go_enter Try.func140, Try.ntmps140
    go_wp2
    go_ret
    exact ⟨ret_bool (deq_ne (fun q => Hl0.out (congrArg List.length q))).symm, Below.refl _ _⟩
set_option maxRecDepth 100000 in
set_option maxHeartbeats 10000000 in
theorem stepPspecEqualEvidence (N : Nat) (iPspecl24Same : Pspecl24Same N) (_iPspecEqualEvidence : PspecEqualEvidence N)  : PspecEqualEvidence (N + 1) := by
  intro x y hN
  intro w K hK cs ds h k
  obtain ⟨c2, c3, c4, rfl, hKind, hN, hAt, hArgs⟩ := TEvidence.opn h
  obtain ⟨d2, d3, d4, rfl, kKind, kN, kAt, kArgs⟩ := TEvidence.opn k
  clear h k
  clear hKind kKind
  clear hN kN
  obtain ⟨hq, -⟩ := TInstanceRef.opn hAt
  simp only [List.cons.injEq, and_true] at hq
  obtain ⟨rfl, rfl⟩ := hq
  obtain ⟨hq, -⟩ := TInstanceRef.opn kAt
  simp only [List.cons.injEq, and_true] at hq
  obtain ⟨rfl, rfl⟩ := hq
  clear hAt kAt
  have hV : Below w.heap.size w ((w.alloc (.cells #[.int .i64 x.fKind, .int .i64 x.fN, .int .i64 x.fAt.fPackage, .int .i64 x.fAt.fAt, c4] 267)).alloc (.cells #[.int .i64 y.fKind, .int .i64 y.fN, .int .i64 y.fAt.fPackage, .int .i64 y.fAt.fAt, d4] 267)) := ((Below.refl _ _).alloc (Nat.le_refl _) _).alloc (by simp) _
  have hZ : w.heap.size + 1 < ((w.alloc (.cells #[.int .i64 x.fKind, .int .i64 x.fN, .int .i64 x.fAt.fPackage, .int .i64 x.fAt.fAt, c4] 267)).alloc (.cells #[.int .i64 y.fKind, .int .i64 y.fN, .int .i64 y.fAt.fPackage, .int .i64 y.fAt.fAt, d4] 267)).heap.size := by simp
  have HA := Lib.hid (show ((w.alloc (.cells #[.int .i64 x.fKind, .int .i64 x.fN, .int .i64 x.fAt.fPackage, .int .i64 x.fAt.fAt, c4] 267)).alloc (.cells #[.int .i64 y.fKind, .int .i64 y.fN, .int .i64 y.fAt.fPackage, .int .i64 y.fAt.fAt, d4] 267)).heap[w.heap.size]? = some (.cells #[.int .i64 x.fKind, .int .i64 x.fN, .int .i64 x.fAt.fPackage, .int .i64 x.fAt.fAt, c4] 267 (0, 0)) from alloc_lt (by simp) (alloc_at rfl))
  have HB := Lib.hid (show ((w.alloc (.cells #[.int .i64 x.fKind, .int .i64 x.fN, .int .i64 x.fAt.fPackage, .int .i64 x.fAt.fAt, c4] 267)).alloc (.cells #[.int .i64 y.fKind, .int .i64 y.fN, .int .i64 y.fAt.fPackage, .int .i64 y.fAt.fAt, d4] 267)).heap[w.heap.size + 1]? = some (.cells #[.int .i64 y.fKind, .int .i64 y.fN, .int .i64 y.fAt.fPackage, .int .i64 y.fAt.fAt, d4] 267 (0, 0)) from alloc_at (by simp))
  go_enter Try.func180, Try.ntmps180
  by_cases e1 : x.fKind = y.fKind
  · skip
    have be1 : (x.fKind != y.fKind) = false := by simp [e1]
    have bbe1 : (x.fKind == y.fKind) = true := by simp [e1]
    have Ee1 := Lib.hid e1
    clear e1
    by_cases e2 : x.fN = y.fN
    · skip
      have be2 : (x.fN != y.fN) = false := by simp [e2]
      have bbe2 : (x.fN == y.fN) = true := by simp [e2]
      have Ee2 := Lib.hid e2
      clear e2
      by_cases e4 : x.fAt.fPackage = y.fAt.fPackage
      · skip
        have Ee4 := Lib.hid e4
        simp only [e4] at hV hZ HA HB
        by_cases e5 : x.fAt.fAt = y.fAt.fAt
        · skip
          have Ee5 := Lib.hid e5
          simp only [e5] at hV hZ HA HB
          go_wp2_with fail
          refine (iPspecl24Same x.fArgs y.fArgs (by have := TEvidence.lt_fArgs x; omega) _ K (fun b hb => Nat.lt_of_lt_of_le (hK b hb) hV.size) _ _ (Rep.ext hV hK hArgs) (Rep.ext hV hK kArgs)).mono ?_
          rintro e w1 ⟨rfl, hB1⟩
          replace HA := Lib.hid ((hB1.block (w.heap.size) (by have := hZ; omega)).trans HA.out)
          replace HB := Lib.hid ((hB1.block (w.heap.size + 1) (by have := hZ; omega)).trans HB.out)
          replace hZ := Nat.lt_of_lt_of_le hZ hB1.size
          replace hV := hV.trans (hB1.mono hV.size)
          have cA := row_cell HA.out
          have cB := row_cell HB.out
          by_cases e6 : x.fArgs = y.fArgs
          · skip
            rw [deq_eq e6]
            have Ee6 := Lib.hid e6
            clear e6
            go_wp2
            go_ret
            exact ⟨ret_bool (deq_eq (TEvidence.ext Ee1.out Ee2.out (TInstanceRef.ext Ee4.out Ee5.out) Ee6.out)).symm, hV⟩
          · skip
            rw [deq_ne e6]
            have Ee6 := Lib.hid e6
            clear e6
            go_wp2
            go_ret
            exact ⟨ret_bool (deq_ne (fun q => Ee6.out (congrArg (·.fArgs) q))).symm, hV⟩
        · skip
          have Ee5 := Lib.hid e5
          go_wp2
          go_ret
          exact ⟨ret_bool (deq_ne (fun q => (fun q => Ee5.out (congrArg (·.fAt) q)) (congrArg (·.fAt) q))).symm, hV⟩
      · skip
        have Ee4 := Lib.hid e4
        go_wp2
        go_ret
        exact ⟨ret_bool (deq_ne (fun q => (fun q => Ee4.out (congrArg (·.fPackage) q)) (congrArg (·.fAt) q))).symm, hV⟩
    · skip
      have be2 : (x.fN != y.fN) = true := by simpa using e2
      have bbe2 : (x.fN == y.fN) = false := by simpa using e2
      have Ee2 := Lib.hid e2
      clear e2
      go_wp2
      go_ret
      exact ⟨ret_bool (deq_ne (fun q => Ee2.out (congrArg (·.fN) q))).symm, hV⟩
  · skip
    have be1 : (x.fKind != y.fKind) = true := by simpa using e1
    have bbe1 : (x.fKind == y.fKind) = false := by simpa using e1
    have Ee1 := Lib.hid e1
    clear e1
    go_wp2
    go_ret
    exact ⟨ret_bool (deq_ne (fun q => Ee1.out (congrArg (·.fKind) q))).symm, hV⟩
theorem Pspecl24Same_all : ∀ N : Nat, Pspecl24Same N ∧ PspecEqualEvidence N
  | 0 => ⟨fun _ _ h => absurd h (Nat.not_lt_zero _), fun _ _ h => absurd h (Nat.not_lt_zero _)⟩
  | N + 1 => by
    obtain ⟨i0, i1⟩ := Pspecl24Same_all N
    have j0 := stepPspecl24Same N i0 i1
    have j1 := stepPspecEqualEvidence N i0 i1
    exact ⟨j0, j1⟩
theorem specl24Same_c (l m : List TEvidence) : ∀ (w : World) (K : Nat → Prop) (_ : ∀ b, K b → b < w.heap.size) (u v : Value) (_ : Rep w K (.sl (l.map TEvidence.enc)) [u]) (_ : Rep w K (.sl (m.map TEvidence.enc)) [v]),
    Calls Try.prog 140 #[u, v] w fun e w' => e = .returned (.bool (deq l m)) ∧ Below w.heap.size w w' := (Pspecl24Same_all (SizeOf.sizeOf l + 1)).1 l m (Nat.lt_succ_self _)
theorem specEqualEvidence_c (x y : TEvidence) : ∀ (w : World) (K : Nat → Prop) (_ : ∀ b, K b → b < w.heap.size) (cs ds : List Value) (_ : Rep w K x.enc cs) (_ : Rep w K y.enc ds),
    Calls Try.prog 180 #[.agg cs.toArray, .agg ds.toArray] w fun e w' => e = .returned (.bool (deq x y)) ∧ Below w.heap.size w w' := (Pspecl24Same_all (SizeOf.sizeOf x + 1)).2 x y (Nat.lt_succ_self _)
def PspecEqualCore (N : Nat) : Prop := ∀ (x y : TCore), SizeOf.sizeOf x < N → ∀ (w : World) (K : Nat → Prop) (_ : ∀ b, K b → b < w.heap.size) (cs ds : List Value) (_ : Rep w K x.enc cs) (_ : Rep w K y.enc ds),
    Calls Try.prog 97 #[.agg cs.toArray, .agg ds.toArray] w fun e w' => e = .returned (.bool (deq x y)) ∧ Below w.heap.size w w'
set_option maxRecDepth 100000 in
set_option maxHeartbeats 10000000 in
theorem stepPspecEqualCore (N : Nat) (iPspecEqualCore : PspecEqualCore N)  : PspecEqualCore (N + 1) := by
  intro x y hN
  intro w K hK cs ds h k
  obtain ⟨c4, c5, c6, c7, c8, c9, c10, rfl, hKind, hTrait, hName, hN, hType, hTypeArgs, hEvidence, hArgs, hArms⟩ := TCore.opn h
  obtain ⟨d4, d5, d6, d7, d8, d9, d10, rfl, kKind, kTrait, kName, kN, kType, kTypeArgs, kEvidence, kArgs, kArms⟩ := TCore.opn k
  clear h k
  clear hKind kKind
  clear hTrait kTrait
  clear hName kName
  clear hN kN
  obtain ⟨aArgs, capArgs, rfl, hcArgs, hmArgs, -, hEArgs⟩ := open_sl TCore.width hArgs
  obtain ⟨aArgs', capArgs', rfl, hcArgs', hmArgs', -, hEArgs'⟩ := open_sl TCore.width kArgs
  unfold maxLen at hmArgs hmArgs'
  obtain ⟨aArms, capArms, rfl, hcArms, hmArms, -, hEArms⟩ := open_sl TCoreArm.width hArms
  obtain ⟨aArms', capArms', rfl, hcArms', hmArms', -, hEArms'⟩ := open_sl TCoreArm.width kArms
  unfold maxLen at hmArms hmArms'
  have hV : Below w.heap.size w ((w.alloc (.cells #[.int .i64 x.fKind, .string x.fTrait, .string x.fName, .int .i64 x.fN, c4, c5, c6, c7, c8, .slice aArgs x.fArgs.length capArgs, .slice aArms x.fArms.length capArms] 143)).alloc (.cells #[.int .i64 y.fKind, .string y.fTrait, .string y.fName, .int .i64 y.fN, d4, d5, d6, d7, d8, .slice aArgs' y.fArgs.length capArgs', .slice aArms' y.fArms.length capArms'] 143)) := ((Below.refl _ _).alloc (Nat.le_refl _) _).alloc (by simp) _
  have hZ : w.heap.size + 1 < ((w.alloc (.cells #[.int .i64 x.fKind, .string x.fTrait, .string x.fName, .int .i64 x.fN, c4, c5, c6, c7, c8, .slice aArgs x.fArgs.length capArgs, .slice aArms x.fArms.length capArms] 143)).alloc (.cells #[.int .i64 y.fKind, .string y.fTrait, .string y.fName, .int .i64 y.fN, d4, d5, d6, d7, d8, .slice aArgs' y.fArgs.length capArgs', .slice aArms' y.fArms.length capArms'] 143)).heap.size := by simp
  have HA := Lib.hid (show ((w.alloc (.cells #[.int .i64 x.fKind, .string x.fTrait, .string x.fName, .int .i64 x.fN, c4, c5, c6, c7, c8, .slice aArgs x.fArgs.length capArgs, .slice aArms x.fArms.length capArms] 143)).alloc (.cells #[.int .i64 y.fKind, .string y.fTrait, .string y.fName, .int .i64 y.fN, d4, d5, d6, d7, d8, .slice aArgs' y.fArgs.length capArgs', .slice aArms' y.fArms.length capArms'] 143)).heap[w.heap.size]? = some (.cells #[.int .i64 x.fKind, .string x.fTrait, .string x.fName, .int .i64 x.fN, c4, c5, c6, c7, c8, .slice aArgs x.fArgs.length capArgs, .slice aArms x.fArms.length capArms] 143 (0, 0)) from alloc_lt (by simp) (alloc_at rfl))
  have HB := Lib.hid (show ((w.alloc (.cells #[.int .i64 x.fKind, .string x.fTrait, .string x.fName, .int .i64 x.fN, c4, c5, c6, c7, c8, .slice aArgs x.fArgs.length capArgs, .slice aArms x.fArms.length capArms] 143)).alloc (.cells #[.int .i64 y.fKind, .string y.fTrait, .string y.fName, .int .i64 y.fN, d4, d5, d6, d7, d8, .slice aArgs' y.fArgs.length capArgs', .slice aArms' y.fArms.length capArms'] 143)).heap[w.heap.size + 1]? = some (.cells #[.int .i64 y.fKind, .string y.fTrait, .string y.fName, .int .i64 y.fN, d4, d5, d6, d7, d8, .slice aArgs' y.fArgs.length capArgs', .slice aArms' y.fArms.length capArms'] 143 (0, 0)) from alloc_at (by simp))
  go_enter Try.func97, Try.ntmps97
  by_cases e1 : x.fKind = y.fKind
  · skip
    have be1 : (x.fKind != y.fKind) = false := by simp [e1]
    have bbe1 : (x.fKind == y.fKind) = true := by simp [e1]
    have Ee1 := Lib.hid e1
    clear e1
    by_cases e2 : x.fTrait = y.fTrait
    · skip
      have be2 : (!x.fTrait.toList == y.fTrait.toList) = false := by simp [e2]
      have bbe2 : (x.fTrait.toList == y.fTrait.toList) = true := by simp [e2]
      have Ee2 := Lib.hid e2
      clear e2
      by_cases e3 : x.fName = y.fName
      · skip
        have be3 : (!x.fName.toList == y.fName.toList) = false := by simp [e3]
        have bbe3 : (x.fName.toList == y.fName.toList) = true := by simp [e3]
        have Ee3 := Lib.hid e3
        clear e3
        by_cases e4 : x.fN = y.fN
        · skip
          have be4 : (x.fN != y.fN) = false := by simp [e4]
          have bbe4 : (x.fN == y.fN) = true := by simp [e4]
          have Ee4 := Lib.hid e4
          clear e4
          go_wp2_with fail
          refine (specEqualType_c x.fType y.fType _ K (fun b hb => Nat.lt_of_lt_of_le (hK b hb) hV.size) _ _ (Rep.ext hV hK hType) (Rep.ext hV hK kType)).mono ?_
          rintro e w1 ⟨rfl, hB1⟩
          replace HA := Lib.hid ((hB1.block (w.heap.size) (by have := hZ; omega)).trans HA.out)
          replace HB := Lib.hid ((hB1.block (w.heap.size + 1) (by have := hZ; omega)).trans HB.out)
          replace hZ := Nat.lt_of_lt_of_le hZ hB1.size
          replace hV := hV.trans (hB1.mono hV.size)
          have cA := row_cell HA.out
          have cB := row_cell HB.out
          by_cases e5 : x.fType = y.fType
          · skip
            rw [deq_eq e5]
            have Ee5 := Lib.hid e5
            clear e5
            go_wp2_with fail
            refine (specl4Same_c x.fTypeArgs y.fTypeArgs _ K (fun b hb => Nat.lt_of_lt_of_le (hK b hb) hV.size) _ _ (Rep.ext hV hK hTypeArgs) (Rep.ext hV hK kTypeArgs)).mono ?_
            rintro e w2 ⟨rfl, hB2⟩
            replace HA := Lib.hid ((hB2.block (w.heap.size) (by have := hZ; omega)).trans HA.out)
            replace HB := Lib.hid ((hB2.block (w.heap.size + 1) (by have := hZ; omega)).trans HB.out)
            replace hZ := Nat.lt_of_lt_of_le hZ hB2.size
            replace hV := hV.trans (hB2.mono hV.size)
            clear cA cB
            have cA := row_cell HA.out
            have cB := row_cell HB.out
            by_cases e6 : x.fTypeArgs = y.fTypeArgs
            · skip
              rw [deq_eq e6]
              have Ee6 := Lib.hid e6
              clear e6
              go_wp2_with fail
              refine (specl24Same_c x.fEvidence y.fEvidence _ K (fun b hb => Nat.lt_of_lt_of_le (hK b hb) hV.size) _ _ (Rep.ext hV hK hEvidence) (Rep.ext hV hK kEvidence)).mono ?_
              rintro e w3 ⟨rfl, hB3⟩
              replace HA := Lib.hid ((hB3.block (w.heap.size) (by have := hZ; omega)).trans HA.out)
              replace HB := Lib.hid ((hB3.block (w.heap.size + 1) (by have := hZ; omega)).trans HB.out)
              replace hZ := Nat.lt_of_lt_of_le hZ hB3.size
              replace hV := hV.trans (hB3.mono hV.size)
              clear cA cB
              have cA := row_cell HA.out
              have cB := row_cell HB.out
              by_cases e7 : x.fEvidence = y.fEvidence
              · skip
                rw [deq_eq e7]
                have Ee7 := Lib.hid e7
                clear e7
                by_cases e8 : x.fArgs.length = y.fArgs.length
                · skip
                  have be8 : (x.fArgs.length != y.fArgs.length) = false := by simp [e8]
                  have bie8 : ((x.fArgs.length : Int) != (y.fArgs.length : Int)) = false := by simp [e8]
                  have hae8 : x.fArgs.length ≤ y.fArgs.length := by omega
                  have hbe8 : y.fArgs.length ≤ x.fArgs.length := by omega
                  have Ee8 := Lib.hid e8
                  clear e8
                  by_cases e9 : x.fArms.length = y.fArms.length
                  · skip
                    have be9 : (x.fArms.length != y.fArms.length) = false := by simp [e9]
                    have bie9 : ((x.fArms.length : Int) != (y.fArms.length : Int)) = false := by simp [e9]
                    have hae9 : x.fArms.length ≤ y.fArms.length := by omega
                    have hbe9 : y.fArms.length ≤ x.fArms.length := by omega
                    have Ee9 := Lib.hid e9
                    clear e9
                    go_wp2
                    have Hg : Hid (deq (x.fArgs.drop 0) (y.fArgs.drop 0) = deq x.fArgs y.fArgs) := rfl
                    go_loopw [5] (fun i wr => ∃ (n : Nat), n ≤ x.fArgs.length ∧ i = .int .i64 n ∧ Hid (deq (x.fArgs.drop n) (y.fArgs.drop n) = deq x.fArgs y.fArgs) ∧ Below w.heap.size w wr ∧ w.heap.size + 1 < wr.heap.size ∧ Hid (wr.heap[w.heap.size]? = some (.cells #[.int .i64 x.fKind, .string x.fTrait, .string x.fName, .int .i64 x.fN, c4, c5, c6, c7, c8, .slice aArgs x.fArgs.length capArgs, .slice aArms x.fArms.length capArms] 143 (0, 0))) ∧ Hid (wr.heap[w.heap.size + 1]? = some (.cells #[.int .i64 y.fKind, .string y.fTrait, .string y.fName, .int .i64 y.fN, d4, d5, d6, d7, d8, .slice aArgs' y.fArgs.length capArgs', .slice aArms' y.fArms.length capArms'] 143 (0, 0)))) (fun i _ => x.fArgs.length - (intOf i).toNat)
                    case atStart => exact ⟨0, Nat.zero_le _, rfl, Hg, hV, hZ, HA, HB⟩
                    case round =>
                      clear Hg hV hZ HA HB cA cB
                      obtain ⟨n, hn, rfl, Hs, hV, hZ, HA, HB⟩ := hrel
                      have cA := row_cell HA.out
                      have cB := row_cell HB.out
                      by_cases hlt : n < x.fArgs.length
                      · skip
                        have hlt' : n < y.fArgs.length := by omega
                        obtain ⟨b1, off1, hav, hKb, cs, hcs, hr⟩ := hEArgs n hlt
                        obtain ⟨b2, off2, hav', hKb', cs', hcs', hr'⟩ := hEArgs' n hlt'
                        subst hav hav'
                        have gcs := hcs.ext hV (hK b1 hKb)
                        have gcs' := hcs'.ext hV (hK b2 hKb')
                        have gr := Rep.ext hV hK hr
                        have gr' := Rep.ext hV hK hr'
                        have hK' : ∀ b, K b → b < wr.heap.size := fun b h => Nat.lt_of_lt_of_le (hK b h) hV.size
                        have hmem : x.fArgs[n] ∈ x.fArgs := List.getElem_mem hlt
                        have Hd : Hid (x.fArgs.drop n = x.fArgs[n] :: x.fArgs.drop (n + 1)) := List.drop_eq_getElem_cons hlt
                        have Hd' : Hid (y.fArgs.drop n = y.fArgs[n] :: y.fArgs.drop (n + 1)) := List.drop_eq_getElem_cons hlt'
                        clear hcs hcs' hr hr'
                        generalize x.fArgs[n] = u at *
                        generalize y.fArgs[n] = v at *
                        have hI0 : Below wr.heap.size wr wr.drew := (Below.refl _ _).drew
                        have gA0 : ∀ w', Below wr.heap.size wr w' → ∀ o, w'.cell? ⟨w.heap.size, o, none⟩ = (#[.int .i64 x.fKind, .string x.fTrait, .string x.fName, .int .i64 x.fN, c4, c5, c6, c7, c8, .slice (some ⟨b1, off1, none⟩) x.fArgs.length capArgs, .slice aArms x.fArms.length capArms] : Array Value)[o]? := fun w' h => row_cell ((h.block (w.heap.size) (by have := hZ; omega)).trans HA.out)
                        have gA1 : ∀ w', Below wr.heap.size wr w' → ∀ o, w'.cell? ⟨w.heap.size + 1, o, none⟩ = (#[.int .i64 y.fKind, .string y.fTrait, .string y.fName, .int .i64 y.fN, d4, d5, d6, d7, d8, .slice (some ⟨b2, off2, none⟩) y.fArgs.length capArgs', .slice aArms' y.fArms.length capArms'] : Array Value)[o]? := fun w' h => row_cell ((h.block (w.heap.size + 1) (by have := hZ; omega)).trans HB.out)
                        have k0_ : ∀ w', Below wr.heap.size wr w' → Cells w' b1 (off1 + n * 11) cs := fun w' h => gcs.ext h (hK' b1 hKb)
                        have k1_ : ∀ w', Below wr.heap.size wr w' → Cells w' b2 (off2 + n * 11) cs' := fun w' h => gcs'.ext h (hK' b2 hKb')
                        clear gcs gcs'
                        go_wp2_with fail
                        refine rg 12 (Below wr.heap.size wr) (by kernel_rfl) rfl ?_
                        refine rg_seg (fuel := 2) [0, 1, 2, 3, 4, 5, 6, 7, 8, 9] hI0 (by kernel_rfl) rfl ?_
                        simp only [pick, List.getElem?_cons_zero, List.getElem?_cons_succ]
                        refine sg_fix _ rfl (fun w' hI => by have := gA0 w' hI; have := gA1 w' hI; go_simp; rfl) ?_; simp only [Act.put, List.setIfInBounds_toArray, List.set_cons_zero, List.set_cons_succ]
                        refine sg_fix _ rfl (fun w' hI => by have := gA0 w' hI; have := gA1 w' hI; go_simp; rfl) ?_; simp only [Act.put, List.setIfInBounds_toArray, List.set_cons_zero, List.set_cons_succ]
                        refine sg_fix _ rfl (fun w' hI => by have := gA0 w' hI; have := gA1 w' hI; go_simp; rfl) ?_; simp only [Act.put, List.setIfInBounds_toArray, List.set_cons_zero, List.set_cons_succ]
                        refine sg_fix _ rfl (fun w' hI => by have := gA0 w' hI; have := gA1 w' hI; go_simp; rfl) ?_; simp only [Act.put, List.setIfInBounds_toArray, List.set_cons_zero, List.set_cons_succ]
                        refine sg_fix _ rfl (fun w' hI => run_ld 143 _ rfl b1 _ rfl cs (k0_ w' hI) _ Try.underlying143 (by rw [Rep.length _ _ gr, TCore.width]; exact infoQEqFS143)) ?_
                        simp only [Act.put, List.setIfInBounds_toArray, List.set_cons_zero, List.set_cons_succ]
                        refine sg_fix _ rfl (fun w' hI => by have := gA0 w' hI; have := gA1 w' hI; go_simp; rfl) ?_; simp only [Act.put, List.setIfInBounds_toArray, List.set_cons_zero, List.set_cons_succ]
                        refine sg_fix _ rfl (fun w' hI => by have := gA0 w' hI; have := gA1 w' hI; go_simp; rfl) ?_; simp only [Act.put, List.setIfInBounds_toArray, List.set_cons_zero, List.set_cons_succ]
                        refine sg_fix _ rfl (fun w' hI => by have := gA0 w' hI; have := gA1 w' hI; go_simp; rfl) ?_; simp only [Act.put, List.setIfInBounds_toArray, List.set_cons_zero, List.set_cons_succ]
                        refine sg_fix _ rfl (fun w' hI => by have := gA0 w' hI; have := gA1 w' hI; go_simp; rfl) ?_; simp only [Act.put, List.setIfInBounds_toArray, List.set_cons_zero, List.set_cons_succ]
                        refine sg_fix _ rfl (fun w' hI => run_ld 143 _ rfl b2 _ rfl cs' (k1_ w' hI) _ Try.underlying143 (by rw [Rep.length _ _ gr', TCore.width]; exact infoQEqFS143)) ?_
                        simp only [Act.put, List.setIfInBounds_toArray, List.set_cons_zero, List.set_cons_succ]
                        refine sg_nil ?_
                        refine rg_one (fuel := 1) 10 (by kernel_rfl) rfl (fun Kq10 hq10 => ?_)
                        simp only [pick, List.getElem?_cons_zero, List.getElem?_cons_succ]
                        refine rg_call rfl _ _ (by go_simp; exact ⟨rfl, rfl⟩) ?_
                        refine (iPspecEqualCore u v (by have hsz := List.sizeOf_lt_of_mem hmem; have hsz2 := TCore.lt_fArgs x; omega) _ K (fun b hb => Nat.lt_of_lt_of_le (hK' b hb) hI0.size) _ _ (Rep.ext hI0 hK' gr) (Rep.ext hI0 hK' gr')).mono ?_
                        rintro e w4 ⟨rfl, hB4⟩
                        have hI11 := hI0.trans (hB4.mono hI0.size)
                        refine ⟨_, rfl, hq10 _ _ hI11 ?_⟩
                        simp only [Act.put, List.setIfInBounds_toArray, List.set_cons_zero, List.set_cons_succ]
                        by_cases e12 : u = v
                        · skip
                          rw [deq_eq e12]
                          have Hq := Lib.hid e12
                          clear e12
                          refine rg_seg (fuel := 0) [11] hI11 (by kernel_rfl) rfl ?_
                          simp only [pick, List.getElem?_cons_zero, List.getElem?_cons_succ]
                          refine sg_fix _ rfl (fun w' hI => by have := gA0 w' hI; have := gA1 w' hI; go_simp; rfl) ?_; simp only [Act.put, List.setIfInBounds_toArray, List.set_cons_zero, List.set_cons_succ]
                          refine sg_nil (rg_end (by kernel_rfl) ?_)
                          replace HA := Lib.hid ((hI11.block (w.heap.size) (by have := hZ; omega)).trans HA.out)
                          replace HB := Lib.hid ((hI11.block (w.heap.size + 1) (by have := hZ; omega)).trans HB.out)
                          replace hZ := Nat.lt_of_lt_of_le hZ hI11.size
                          replace hV := hV.trans (hI11.mono hV.size)
                          clear cA cB
                          have cA := row_cell HA.out
                          have cB := row_cell HB.out
                          go_wp2
                          go_roundw
                          case rel =>
                            refine ⟨n + 1, hlt, by go_num, ?_, hV, hZ, HA, HB⟩
                            have e := Hs.out
                            rw [Hd.out, Hd'.out, Hq.out, deq_cons] at e
                            exact e
                          case measure => simp [intOf]; omega
                        · skip
                          rw [deq_ne e12]
                          have Hq := Lib.hid e12
                          clear e12
                          refine rg_seg (fuel := 0) [11] hI11 (by kernel_rfl) rfl ?_
                          simp only [pick, List.getElem?_cons_zero, List.getElem?_cons_succ]
                          refine sg_fix _ rfl (fun w' hI => by have := gA0 w' hI; have := gA1 w' hI; go_simp; rfl) ?_; simp only [Act.put, List.setIfInBounds_toArray, List.set_cons_zero, List.set_cons_succ]
                          refine sg_nil (rg_end (by kernel_rfl) ?_)
                          replace HA := Lib.hid ((hI11.block (w.heap.size) (by have := hZ; omega)).trans HA.out)
                          replace HB := Lib.hid ((hI11.block (w.heap.size + 1) (by have := hZ; omega)).trans HB.out)
                          replace hZ := Nat.lt_of_lt_of_le hZ hI11.size
                          replace hV := hV.trans (hI11.mono hV.size)
                          clear cA cB
                          have cA := row_cell HA.out
                          have cB := row_cell HB.out
                          have e := Hs.out
                          rw [Hd.out, Hd'.out, deq_ne (fun q => Hq.out (List.cons.inj q).1)] at e
                          have Hf := Lib.hid e
                          clear e
                          go_wp2
                          go_ret
                          refine ⟨ret_bool ?_, hV⟩
                          rw [deq_ne (fun q => ?_)]
                          have := Hf.out
                          rw [q, deq_eq rfl] at this
                          cases this
                      · skip
                        obtain rfl : n = x.fArgs.length := by omega
                        have e13 : x.fArgs = y.fArgs := by
                          have e := Hs.out
                          rw [List.drop_length, List.drop_eq_nil_of_le (by omega), deq_eq rfl] at e
                          exact of_deq e.symm
                        have Ee13 := Lib.hid e13
                        clear e13
                        clear hlt Hs hn
                        go_wp2
                        have Hg : Hid (deq (x.fArms.drop 0) (y.fArms.drop 0) = deq x.fArms y.fArms) := rfl
                        go_loopw [6] (fun i wr => ∃ (n : Nat), n ≤ x.fArms.length ∧ i = .int .i64 n ∧ Hid (deq (x.fArms.drop n) (y.fArms.drop n) = deq x.fArms y.fArms) ∧ Below w.heap.size w wr ∧ w.heap.size + 1 < wr.heap.size ∧ Hid (wr.heap[w.heap.size]? = some (.cells #[.int .i64 x.fKind, .string x.fTrait, .string x.fName, .int .i64 x.fN, c4, c5, c6, c7, c8, .slice aArgs x.fArgs.length capArgs, .slice aArms x.fArms.length capArms] 143 (0, 0))) ∧ Hid (wr.heap[w.heap.size + 1]? = some (.cells #[.int .i64 y.fKind, .string y.fTrait, .string y.fName, .int .i64 y.fN, d4, d5, d6, d7, d8, .slice aArgs' y.fArgs.length capArgs', .slice aArms' y.fArms.length capArms'] 143 (0, 0)))) (fun i _ => x.fArms.length - (intOf i).toNat)
                        case atStart => exact ⟨0, Nat.zero_le _, rfl, Hg, hV, hZ, HA, HB⟩
                        case round =>
                          clear Hg hV hZ HA HB cA cB
                          obtain ⟨n, hn, rfl, Hs, hV, hZ, HA, HB⟩ := hrel
                          have cA := row_cell HA.out
                          have cB := row_cell HB.out
                          by_cases hlt : n < x.fArms.length
                          · skip
                            have hlt' : n < y.fArms.length := by omega
                            obtain ⟨b1, off1, hav, hKb, cs, hcs, hr⟩ := hEArms n hlt
                            obtain ⟨b2, off2, hav', hKb', cs', hcs', hr'⟩ := hEArms' n hlt'
                            subst hav hav'
                            have gcs := hcs.ext hV (hK b1 hKb)
                            have gcs' := hcs'.ext hV (hK b2 hKb')
                            have gr := Rep.ext hV hK hr
                            have gr' := Rep.ext hV hK hr'
                            have hK' : ∀ b, K b → b < wr.heap.size := fun b h => Nat.lt_of_lt_of_le (hK b h) hV.size
                            have hmem : x.fArms[n] ∈ x.fArms := List.getElem_mem hlt
                            have Hd : Hid (x.fArms.drop n = x.fArms[n] :: x.fArms.drop (n + 1)) := List.drop_eq_getElem_cons hlt
                            have Hd' : Hid (y.fArms.drop n = y.fArms[n] :: y.fArms.drop (n + 1)) := List.drop_eq_getElem_cons hlt'
                            clear hcs hcs' hr hr'
                            generalize x.fArms[n] = u at *
                            generalize y.fArms[n] = v at *
                            obtain ⟨p1, p2, p3, p4, p5, p6, p7, p8, p9, p10, p11, p12, rfl, -, rhVars, rhBody⟩ := TCoreArm.opn gr
                            obtain ⟨q1, q2, q3, q4, q5, q6, q7, q8, q9, q10, q11, q12, rfl, -, skVars, skBody⟩ := TCoreArm.opn gr'
                            have hI0 : Below wr.heap.size wr wr.drew := (Below.refl _ _).drew
                            have gA0 : ∀ w', Below wr.heap.size wr w' → ∀ o, w'.cell? ⟨w.heap.size, o, none⟩ = (#[.int .i64 x.fKind, .string x.fTrait, .string x.fName, .int .i64 x.fN, c4, c5, c6, c7, c8, .slice aArgs x.fArgs.length capArgs, .slice (some ⟨b1, off1, none⟩) x.fArms.length capArms] : Array Value)[o]? := fun w' h => row_cell ((h.block (w.heap.size) (by have := hZ; omega)).trans HA.out)
                            have gA1 : ∀ w', Below wr.heap.size wr w' → ∀ o, w'.cell? ⟨w.heap.size + 1, o, none⟩ = (#[.int .i64 y.fKind, .string y.fTrait, .string y.fName, .int .i64 y.fN, d4, d5, d6, d7, d8, .slice aArgs' y.fArgs.length capArgs', .slice (some ⟨b2, off2, none⟩) y.fArms.length capArms'] : Array Value)[o]? := fun w' h => row_cell ((h.block (w.heap.size + 1) (by have := hZ; omega)).trans HB.out)
                            have k0_Body : ∀ w', Below wr.heap.size wr w' → Cells w' b1 (off1 + n * 13 + 2) [p2, p3, p4, p5, p6, p7, p8, p9, p10, p11, p12] := fun w' h => Cells.part (gcs.ext h (hK' b1 hKb)) 2 11 rfl
                            have k0_Constructor : ∀ w', Below wr.heap.size wr w' → w'.cell? ⟨b1, off1 + n * 13, none⟩ = some (.string u.fConstructor) := fun w' h => by simpa using (gcs.ext h (hK' b1 hKb)) 0 _ rfl
                            have k0_Vars : ∀ w', Below wr.heap.size wr w' → w'.cell? ⟨b1, off1 + n * 13 + 1, none⟩ = some (p1) := fun w' h => by simpa using (gcs.ext h (hK' b1 hKb)) 1 _ rfl
                            have k1_Body : ∀ w', Below wr.heap.size wr w' → Cells w' b2 (off2 + n * 13 + 2) [q2, q3, q4, q5, q6, q7, q8, q9, q10, q11, q12] := fun w' h => Cells.part (gcs'.ext h (hK' b2 hKb')) 2 11 rfl
                            have k1_Constructor : ∀ w', Below wr.heap.size wr w' → w'.cell? ⟨b2, off2 + n * 13, none⟩ = some (.string v.fConstructor) := fun w' h => by simpa using (gcs'.ext h (hK' b2 hKb')) 0 _ rfl
                            have k1_Vars : ∀ w', Below wr.heap.size wr w' → w'.cell? ⟨b2, off2 + n * 13 + 1, none⟩ = some (q1) := fun w' h => by simpa using (gcs'.ext h (hK' b2 hKb')) 1 _ rfl
                            clear gcs gcs'
                            by_cases e14 : u.fConstructor = v.fConstructor
                            · skip
                              have be14 : (!u.fConstructor.toList == v.fConstructor.toList) = false := by simp [e14]
                              have bbe14 : (u.fConstructor.toList == v.fConstructor.toList) = true := by simp [e14]
                              have Ee14 := Lib.hid e14
                              clear e14
                              go_wp2_with fail
                              refine rg 45 (Below wr.heap.size wr) (by kernel_rfl) rfl ?_
                              refine rg_seg (fuel := 19) [0, 1, 2, 3, 4, 5, 6, 7, 8, 9, 10, 11, 12, 13, 14, 15, 16, 17, 18, 19, 20, 21, 22, 23, 24, 25] hI0 (by kernel_rfl) rfl ?_
                              simp only [pick, List.getElem?_cons_zero, List.getElem?_cons_succ]
                              refine sg_fix _ rfl (fun w' hI => by have := gA0 w' hI; have := gA1 w' hI; have := k0_Constructor w' hI; have := k0_Vars w' hI; have := k1_Constructor w' hI; have := k1_Vars w' hI; go_simp; rfl) ?_; simp only [Act.put, List.setIfInBounds_toArray, List.set_cons_zero, List.set_cons_succ]
                              refine sg_fix _ rfl (fun w' hI => by have := gA0 w' hI; have := gA1 w' hI; have := k0_Constructor w' hI; have := k0_Vars w' hI; have := k1_Constructor w' hI; have := k1_Vars w' hI; go_simp; rfl) ?_; simp only [Act.put, List.setIfInBounds_toArray, List.set_cons_zero, List.set_cons_succ]
                              refine sg_fix _ rfl (fun w' hI => by have := gA0 w' hI; have := gA1 w' hI; have := k0_Constructor w' hI; have := k0_Vars w' hI; have := k1_Constructor w' hI; have := k1_Vars w' hI; go_simp; rfl) ?_; simp only [Act.put, List.setIfInBounds_toArray, List.set_cons_zero, List.set_cons_succ]
                              refine sg_fix _ rfl (fun w' hI => by have := gA0 w' hI; have := gA1 w' hI; have := k0_Constructor w' hI; have := k0_Vars w' hI; have := k1_Constructor w' hI; have := k1_Vars w' hI; go_simp; rfl) ?_; simp only [Act.put, List.setIfInBounds_toArray, List.set_cons_zero, List.set_cons_succ]
                              refine sg_fix _ rfl (fun w' hI => by have := gA0 w' hI; have := gA1 w' hI; have := k0_Constructor w' hI; have := k0_Vars w' hI; have := k1_Constructor w' hI; have := k1_Vars w' hI; go_simp; rfl) ?_; simp only [Act.put, List.setIfInBounds_toArray, List.set_cons_zero, List.set_cons_succ]
                              refine sg_fix _ rfl (fun w' hI => by have := gA0 w' hI; have := gA1 w' hI; have := k0_Constructor w' hI; have := k0_Vars w' hI; have := k1_Constructor w' hI; have := k1_Vars w' hI; go_simp; rfl) ?_; simp only [Act.put, List.setIfInBounds_toArray, List.set_cons_zero, List.set_cons_succ]
                              refine sg_fix _ rfl (fun w' hI => by have := gA0 w' hI; have := gA1 w' hI; have := k0_Constructor w' hI; have := k0_Vars w' hI; have := k1_Constructor w' hI; have := k1_Vars w' hI; go_simp; rfl) ?_; simp only [Act.put, List.setIfInBounds_toArray, List.set_cons_zero, List.set_cons_succ]
                              refine sg_fix _ rfl (fun w' hI => by have := gA0 w' hI; have := gA1 w' hI; have := k0_Constructor w' hI; have := k0_Vars w' hI; have := k1_Constructor w' hI; have := k1_Vars w' hI; go_simp; rfl) ?_; simp only [Act.put, List.setIfInBounds_toArray, List.set_cons_zero, List.set_cons_succ]
                              refine sg_fix _ rfl (fun w' hI => by have := gA0 w' hI; have := gA1 w' hI; have := k0_Constructor w' hI; have := k0_Vars w' hI; have := k1_Constructor w' hI; have := k1_Vars w' hI; go_simp; rfl) ?_; simp only [Act.put, List.setIfInBounds_toArray, List.set_cons_zero, List.set_cons_succ]
                              refine sg_fix _ rfl (fun w' hI => by have := gA0 w' hI; have := gA1 w' hI; have := k0_Constructor w' hI; have := k0_Vars w' hI; have := k1_Constructor w' hI; have := k1_Vars w' hI; go_simp; rfl) ?_; simp only [Act.put, List.setIfInBounds_toArray, List.set_cons_zero, List.set_cons_succ]
                              refine sg_fix _ rfl (fun w' hI => by have := gA0 w' hI; have := gA1 w' hI; have := k0_Constructor w' hI; have := k0_Vars w' hI; have := k1_Constructor w' hI; have := k1_Vars w' hI; go_simp; rfl) ?_; simp only [Act.put, List.setIfInBounds_toArray, List.set_cons_zero, List.set_cons_succ]
                              refine sg_fix _ rfl (fun w' hI => by have := gA0 w' hI; have := gA1 w' hI; have := k0_Constructor w' hI; have := k0_Vars w' hI; have := k1_Constructor w' hI; have := k1_Vars w' hI; go_simp; rfl) ?_; simp only [Act.put, List.setIfInBounds_toArray, List.set_cons_zero, List.set_cons_succ]
                              refine sg_fix _ rfl (fun w' hI => by have := gA0 w' hI; have := gA1 w' hI; have := k0_Constructor w' hI; have := k0_Vars w' hI; have := k1_Constructor w' hI; have := k1_Vars w' hI; go_simp; rfl) ?_; simp only [Act.put, List.setIfInBounds_toArray, List.set_cons_zero, List.set_cons_succ]
                              refine sg_fix _ rfl (fun w' hI => by have := gA0 w' hI; have := gA1 w' hI; have := k0_Constructor w' hI; have := k0_Vars w' hI; have := k1_Constructor w' hI; have := k1_Vars w' hI; go_simp; rfl) ?_; simp only [Act.put, List.setIfInBounds_toArray, List.set_cons_zero, List.set_cons_succ]
                              refine sg_fix _ rfl (fun w' hI => by have := gA0 w' hI; have := gA1 w' hI; have := k0_Constructor w' hI; have := k0_Vars w' hI; have := k1_Constructor w' hI; have := k1_Vars w' hI; go_simp; rfl) ?_; simp only [Act.put, List.setIfInBounds_toArray, List.set_cons_zero, List.set_cons_succ]
                              refine sg_fix _ rfl (fun w' hI => by have := gA0 w' hI; have := gA1 w' hI; have := k0_Constructor w' hI; have := k0_Vars w' hI; have := k1_Constructor w' hI; have := k1_Vars w' hI; go_simp; rfl) ?_; simp only [Act.put, List.setIfInBounds_toArray, List.set_cons_zero, List.set_cons_succ]
                              refine sg_fix _ rfl (fun w' hI => by have := gA0 w' hI; have := gA1 w' hI; have := k0_Constructor w' hI; have := k0_Vars w' hI; have := k1_Constructor w' hI; have := k1_Vars w' hI; go_simp; rfl) ?_; simp only [Act.put, List.setIfInBounds_toArray, List.set_cons_zero, List.set_cons_succ]
                              refine sg_fix _ rfl (fun w' hI => by have := gA0 w' hI; have := gA1 w' hI; have := k0_Constructor w' hI; have := k0_Vars w' hI; have := k1_Constructor w' hI; have := k1_Vars w' hI; go_simp; rfl) ?_; simp only [Act.put, List.setIfInBounds_toArray, List.set_cons_zero, List.set_cons_succ]
                              refine sg_fix _ rfl (fun w' hI => by have := gA0 w' hI; have := gA1 w' hI; have := k0_Constructor w' hI; have := k0_Vars w' hI; have := k1_Constructor w' hI; have := k1_Vars w' hI; go_simp; rfl) ?_; simp only [Act.put, List.setIfInBounds_toArray, List.set_cons_zero, List.set_cons_succ]
                              refine sg_fix _ rfl (fun w' hI => by have := gA0 w' hI; have := gA1 w' hI; have := k0_Constructor w' hI; have := k0_Vars w' hI; have := k1_Constructor w' hI; have := k1_Vars w' hI; go_simp; rfl) ?_; simp only [Act.put, List.setIfInBounds_toArray, List.set_cons_zero, List.set_cons_succ]
                              refine sg_fix _ rfl (fun w' hI => by have := gA0 w' hI; have := gA1 w' hI; have := k0_Constructor w' hI; have := k0_Vars w' hI; have := k1_Constructor w' hI; have := k1_Vars w' hI; go_simp; rfl) ?_; simp only [Act.put, List.setIfInBounds_toArray, List.set_cons_zero, List.set_cons_succ]
                              refine sg_fix _ rfl (fun w' hI => by have := gA0 w' hI; have := gA1 w' hI; have := k0_Constructor w' hI; have := k0_Vars w' hI; have := k1_Constructor w' hI; have := k1_Vars w' hI; go_simp; rfl) ?_; simp only [Act.put, List.setIfInBounds_toArray, List.set_cons_zero, List.set_cons_succ]
                              refine sg_fix _ rfl (fun w' hI => by have := gA0 w' hI; have := gA1 w' hI; have := k0_Constructor w' hI; have := k0_Vars w' hI; have := k1_Constructor w' hI; have := k1_Vars w' hI; go_simp; rfl) ?_; simp only [Act.put, List.setIfInBounds_toArray, List.set_cons_zero, List.set_cons_succ]
                              refine sg_fix _ rfl (fun w' hI => by have := gA0 w' hI; have := gA1 w' hI; have := k0_Constructor w' hI; have := k0_Vars w' hI; have := k1_Constructor w' hI; have := k1_Vars w' hI; go_simp; rfl) ?_; simp only [Act.put, List.setIfInBounds_toArray, List.set_cons_zero, List.set_cons_succ]
                              refine sg_fix _ rfl (fun w' hI => by have := gA0 w' hI; have := gA1 w' hI; have := k0_Constructor w' hI; have := k0_Vars w' hI; have := k1_Constructor w' hI; have := k1_Vars w' hI; go_simp; rfl) ?_; simp only [Act.put, List.setIfInBounds_toArray, List.set_cons_zero, List.set_cons_succ]
                              refine sg_fix _ rfl (fun w' hI => by have := gA0 w' hI; have := gA1 w' hI; have := k0_Constructor w' hI; have := k0_Vars w' hI; have := k1_Constructor w' hI; have := k1_Vars w' hI; go_simp; rfl) ?_; simp only [Act.put, List.setIfInBounds_toArray, List.set_cons_zero, List.set_cons_succ]
                              refine sg_nil ?_
                              refine rg_one (fuel := 18) 26 (by kernel_rfl) rfl (fun Kq15 hq15 => ?_)
                              simp only [pick, List.getElem?_cons_zero, List.getElem?_cons_succ]
                              refine rg_call rfl _ _ (by go_simp; exact ⟨rfl, rfl⟩) ?_
                              refine (specl11Texts_c u.fVars v.fVars _ K (fun b hb => Nat.lt_of_lt_of_le (hK' b hb) hI0.size) _ _ (Rep.ext hI0 hK' rhVars) (Rep.ext hI0 hK' skVars)).mono ?_
                              rintro e w5 ⟨rfl, hB5⟩
                              have hI16 := hI0.trans (hB5.mono hI0.size)
                              refine ⟨_, rfl, hq15 _ _ hI16 ?_⟩
                              simp only [Act.put, List.setIfInBounds_toArray, List.set_cons_zero, List.set_cons_succ]
                              by_cases e17 : u.fVars = v.fVars
                              · skip
                                rw [deq_eq e17]
                                have Ee17 := Lib.hid e17
                                clear e17
                                refine rg_seg (fuel := 3) [27, 28, 29, 30, 31, 32, 33, 34, 35, 36, 37, 38, 39, 40, 41] hI16 (by kernel_rfl) rfl ?_
                                simp only [pick, List.getElem?_cons_zero, List.getElem?_cons_succ]
                                refine sg_fix _ rfl (fun w' hI => by have := gA0 w' hI; have := gA1 w' hI; have := k0_Constructor w' hI; have := k0_Vars w' hI; have := k1_Constructor w' hI; have := k1_Vars w' hI; go_simp; rfl) ?_; simp only [Act.put, List.setIfInBounds_toArray, List.set_cons_zero, List.set_cons_succ]
                                refine sg_fix _ rfl (fun w' hI => by have := gA0 w' hI; have := gA1 w' hI; have := k0_Constructor w' hI; have := k0_Vars w' hI; have := k1_Constructor w' hI; have := k1_Vars w' hI; go_simp; rfl) ?_; simp only [Act.put, List.setIfInBounds_toArray, List.set_cons_zero, List.set_cons_succ]
                                refine sg_fix _ rfl (fun w' hI => by have := gA0 w' hI; have := gA1 w' hI; have := k0_Constructor w' hI; have := k0_Vars w' hI; have := k1_Constructor w' hI; have := k1_Vars w' hI; go_simp; rfl) ?_; simp only [Act.put, List.setIfInBounds_toArray, List.set_cons_zero, List.set_cons_succ]
                                refine sg_fix _ rfl (fun w' hI => by have := gA0 w' hI; have := gA1 w' hI; have := k0_Constructor w' hI; have := k0_Vars w' hI; have := k1_Constructor w' hI; have := k1_Vars w' hI; go_simp; rfl) ?_; simp only [Act.put, List.setIfInBounds_toArray, List.set_cons_zero, List.set_cons_succ]
                                refine sg_fix _ rfl (fun w' hI => by have := gA0 w' hI; have := gA1 w' hI; have := k0_Constructor w' hI; have := k0_Vars w' hI; have := k1_Constructor w' hI; have := k1_Vars w' hI; go_simp; rfl) ?_; simp only [Act.put, List.setIfInBounds_toArray, List.set_cons_zero, List.set_cons_succ]
                                refine sg_fix _ rfl (fun w' hI => by have := gA0 w' hI; have := gA1 w' hI; have := k0_Constructor w' hI; have := k0_Vars w' hI; have := k1_Constructor w' hI; have := k1_Vars w' hI; go_simp; rfl) ?_; simp only [Act.put, List.setIfInBounds_toArray, List.set_cons_zero, List.set_cons_succ]
                                refine sg_fix _ rfl (fun w' hI => by have := gA0 w' hI; have := gA1 w' hI; have := k0_Constructor w' hI; have := k0_Vars w' hI; have := k1_Constructor w' hI; have := k1_Vars w' hI; go_simp; rfl) ?_; simp only [Act.put, List.setIfInBounds_toArray, List.set_cons_zero, List.set_cons_succ]
                                refine sg_fix _ rfl (fun w' hI => by have := gA0 w' hI; have := gA1 w' hI; have := k0_Constructor w' hI; have := k0_Vars w' hI; have := k1_Constructor w' hI; have := k1_Vars w' hI; go_simp; rfl) ?_; simp only [Act.put, List.setIfInBounds_toArray, List.set_cons_zero, List.set_cons_succ]
                                refine sg_fix _ rfl (fun w' hI => run_ld 143 _ rfl b1 _ rfl [p2, p3, p4, p5, p6, p7, p8, p9, p10, p11, p12] (k0_Body w' hI) _ Try.underlying143 infoQEqFS143) ?_
                                simp only [Act.put, List.setIfInBounds_toArray, List.set_cons_zero, List.set_cons_succ]
                                refine sg_fix _ rfl (fun w' hI => by have := gA0 w' hI; have := gA1 w' hI; have := k0_Constructor w' hI; have := k0_Vars w' hI; have := k1_Constructor w' hI; have := k1_Vars w' hI; go_simp; rfl) ?_; simp only [Act.put, List.setIfInBounds_toArray, List.set_cons_zero, List.set_cons_succ]
                                refine sg_fix _ rfl (fun w' hI => by have := gA0 w' hI; have := gA1 w' hI; have := k0_Constructor w' hI; have := k0_Vars w' hI; have := k1_Constructor w' hI; have := k1_Vars w' hI; go_simp; rfl) ?_; simp only [Act.put, List.setIfInBounds_toArray, List.set_cons_zero, List.set_cons_succ]
                                refine sg_fix _ rfl (fun w' hI => by have := gA0 w' hI; have := gA1 w' hI; have := k0_Constructor w' hI; have := k0_Vars w' hI; have := k1_Constructor w' hI; have := k1_Vars w' hI; go_simp; rfl) ?_; simp only [Act.put, List.setIfInBounds_toArray, List.set_cons_zero, List.set_cons_succ]
                                refine sg_fix _ rfl (fun w' hI => by have := gA0 w' hI; have := gA1 w' hI; have := k0_Constructor w' hI; have := k0_Vars w' hI; have := k1_Constructor w' hI; have := k1_Vars w' hI; go_simp; rfl) ?_; simp only [Act.put, List.setIfInBounds_toArray, List.set_cons_zero, List.set_cons_succ]
                                refine sg_fix _ rfl (fun w' hI => by have := gA0 w' hI; have := gA1 w' hI; have := k0_Constructor w' hI; have := k0_Vars w' hI; have := k1_Constructor w' hI; have := k1_Vars w' hI; go_simp; rfl) ?_; simp only [Act.put, List.setIfInBounds_toArray, List.set_cons_zero, List.set_cons_succ]
                                refine sg_fix _ rfl (fun w' hI => run_ld 143 _ rfl b2 _ rfl [q2, q3, q4, q5, q6, q7, q8, q9, q10, q11, q12] (k1_Body w' hI) _ Try.underlying143 infoQEqFS143) ?_
                                simp only [Act.put, List.setIfInBounds_toArray, List.set_cons_zero, List.set_cons_succ]
                                refine sg_nil ?_
                                refine rg_one (fuel := 2) 42 (by kernel_rfl) rfl (fun Kq18 hq18 => ?_)
                                simp only [pick, List.getElem?_cons_zero, List.getElem?_cons_succ]
                                refine rg_call rfl _ _ (by go_simp; exact ⟨rfl, rfl⟩) ?_
                                refine (iPspecEqualCore u.fBody v.fBody (by have hsz := List.sizeOf_lt_of_mem hmem; have hsz2 := TCore.lt_fArms x; have := TCoreArm.lt_fBody u; omega) _ K (fun b hb => Nat.lt_of_lt_of_le (hK' b hb) hI16.size) _ _ (Rep.ext hI16 hK' rhBody) (Rep.ext hI16 hK' skBody)).mono ?_
                                rintro e w6 ⟨rfl, hB6⟩
                                have hI19 := hI16.trans (hB6.mono hI16.size)
                                refine ⟨_, rfl, hq18 _ _ hI19 ?_⟩
                                simp only [Act.put, List.setIfInBounds_toArray, List.set_cons_zero, List.set_cons_succ]
                                by_cases e20 : u.fBody = v.fBody
                                · skip
                                  rw [deq_eq e20]
                                  have Ee20 := Lib.hid e20
                                  clear e20
                                  have Hq : Hid (u = v) := (TCoreArm.ext Ee14.out Ee17.out Ee20.out)
                                  refine rg_seg (fuel := 0) [43, 44] hI19 (by kernel_rfl) rfl ?_
                                  simp only [pick, List.getElem?_cons_zero, List.getElem?_cons_succ]
                                  refine sg_fix _ rfl (fun w' hI => by have := gA0 w' hI; have := gA1 w' hI; have := k0_Constructor w' hI; have := k0_Vars w' hI; have := k1_Constructor w' hI; have := k1_Vars w' hI; go_simp; rfl) ?_; simp only [Act.put, List.setIfInBounds_toArray, List.set_cons_zero, List.set_cons_succ]
                                  refine sg_fix _ rfl (fun w' hI => by have := gA0 w' hI; have := gA1 w' hI; have := k0_Constructor w' hI; have := k0_Vars w' hI; have := k1_Constructor w' hI; have := k1_Vars w' hI; go_simp; rfl) ?_; simp only [Act.put, List.setIfInBounds_toArray, List.set_cons_zero, List.set_cons_succ]
                                  refine sg_nil (rg_end (by kernel_rfl) ?_)
                                  replace HA := Lib.hid ((hI19.block (w.heap.size) (by have := hZ; omega)).trans HA.out)
                                  replace HB := Lib.hid ((hI19.block (w.heap.size + 1) (by have := hZ; omega)).trans HB.out)
                                  replace hZ := Nat.lt_of_lt_of_le hZ hI19.size
                                  replace hV := hV.trans (hI19.mono hV.size)
                                  clear cA cB
                                  have cA := row_cell HA.out
                                  have cB := row_cell HB.out
                                  go_wp2
                                  go_roundw
                                  case rel =>
                                    refine ⟨n + 1, hlt, by go_num, ?_, hV, hZ, HA, HB⟩
                                    have e := Hs.out
                                    rw [Hd.out, Hd'.out, Hq.out, deq_cons] at e
                                    exact e
                                  case measure => simp [intOf]; omega
                                · skip
                                  rw [deq_ne e20]
                                  have Hq : Hid (¬ u = v) := fun q => e20 (congrArg (·.fBody) q)
                                  clear e20
                                  refine rg_seg (fuel := 0) [43, 44] hI19 (by kernel_rfl) rfl ?_
                                  simp only [pick, List.getElem?_cons_zero, List.getElem?_cons_succ]
                                  refine sg_fix _ rfl (fun w' hI => by have := gA0 w' hI; have := gA1 w' hI; have := k0_Constructor w' hI; have := k0_Vars w' hI; have := k1_Constructor w' hI; have := k1_Vars w' hI; go_simp; rfl) ?_; simp only [Act.put, List.setIfInBounds_toArray, List.set_cons_zero, List.set_cons_succ]
                                  refine sg_fix _ rfl (fun w' hI => by have := gA0 w' hI; have := gA1 w' hI; have := k0_Constructor w' hI; have := k0_Vars w' hI; have := k1_Constructor w' hI; have := k1_Vars w' hI; go_simp; rfl) ?_; simp only [Act.put, List.setIfInBounds_toArray, List.set_cons_zero, List.set_cons_succ]
                                  refine sg_nil (rg_end (by kernel_rfl) ?_)
                                  replace HA := Lib.hid ((hI19.block (w.heap.size) (by have := hZ; omega)).trans HA.out)
                                  replace HB := Lib.hid ((hI19.block (w.heap.size + 1) (by have := hZ; omega)).trans HB.out)
                                  replace hZ := Nat.lt_of_lt_of_le hZ hI19.size
                                  replace hV := hV.trans (hI19.mono hV.size)
                                  clear cA cB
                                  have cA := row_cell HA.out
                                  have cB := row_cell HB.out
                                  have e := Hs.out
                                  rw [Hd.out, Hd'.out, deq_ne (fun q => Hq.out (List.cons.inj q).1)] at e
                                  have Hf := Lib.hid e
                                  clear e
                                  go_wp2
                                  go_ret
                                  refine ⟨ret_bool ?_, hV⟩
                                  rw [deq_ne (fun q => ?_)]
                                  have := Hf.out
                                  rw [q, deq_eq rfl] at this
                                  cases this
                              · skip
                                rw [deq_ne e17]
                                have Hq : Hid (¬ u = v) := fun q => e17 (congrArg (·.fVars) q)
                                clear e17
                                refine rg_seg (fuel := 0) [27, 28, 29, 30, 31, 32, 33, 34, 35, 36, 37, 38, 39, 40, 41, 42, 43, 44] hI16 (by kernel_rfl) rfl ?_
                                simp only [pick, List.getElem?_cons_zero, List.getElem?_cons_succ]
                                refine sg_fix _ rfl (fun w' hI => by have := gA0 w' hI; have := gA1 w' hI; have := k0_Constructor w' hI; have := k0_Vars w' hI; have := k1_Constructor w' hI; have := k1_Vars w' hI; go_simp; rfl) ?_; simp only [Act.put, List.setIfInBounds_toArray, List.set_cons_zero, List.set_cons_succ]
                                refine sg_fix _ rfl (fun w' hI => by have := gA0 w' hI; have := gA1 w' hI; have := k0_Constructor w' hI; have := k0_Vars w' hI; have := k1_Constructor w' hI; have := k1_Vars w' hI; go_simp; rfl) ?_; simp only [Act.put, List.setIfInBounds_toArray, List.set_cons_zero, List.set_cons_succ]
                                refine sg_fix _ rfl (fun w' hI => by have := gA0 w' hI; have := gA1 w' hI; have := k0_Constructor w' hI; have := k0_Vars w' hI; have := k1_Constructor w' hI; have := k1_Vars w' hI; go_simp; rfl) ?_; simp only [Act.put, List.setIfInBounds_toArray, List.set_cons_zero, List.set_cons_succ]
                                refine sg_skip rfl ?_; simp only [Act.put, List.setIfInBounds_toArray, List.set_cons_zero, List.set_cons_succ]
                                refine sg_skip rfl ?_; simp only [Act.put, List.setIfInBounds_toArray, List.set_cons_zero, List.set_cons_succ]
                                refine sg_skip rfl ?_; simp only [Act.put, List.setIfInBounds_toArray, List.set_cons_zero, List.set_cons_succ]
                                refine sg_skip rfl ?_; simp only [Act.put, List.setIfInBounds_toArray, List.set_cons_zero, List.set_cons_succ]
                                refine sg_skip rfl ?_; simp only [Act.put, List.setIfInBounds_toArray, List.set_cons_zero, List.set_cons_succ]
                                refine sg_skip rfl ?_; simp only [Act.put, List.setIfInBounds_toArray, List.set_cons_zero, List.set_cons_succ]
                                refine sg_skip rfl ?_; simp only [Act.put, List.setIfInBounds_toArray, List.set_cons_zero, List.set_cons_succ]
                                refine sg_skip rfl ?_; simp only [Act.put, List.setIfInBounds_toArray, List.set_cons_zero, List.set_cons_succ]
                                refine sg_skip rfl ?_; simp only [Act.put, List.setIfInBounds_toArray, List.set_cons_zero, List.set_cons_succ]
                                refine sg_skip rfl ?_; simp only [Act.put, List.setIfInBounds_toArray, List.set_cons_zero, List.set_cons_succ]
                                refine sg_skip rfl ?_; simp only [Act.put, List.setIfInBounds_toArray, List.set_cons_zero, List.set_cons_succ]
                                refine sg_skip rfl ?_; simp only [Act.put, List.setIfInBounds_toArray, List.set_cons_zero, List.set_cons_succ]
                                refine sg_skip rfl ?_; simp only [Act.put, List.setIfInBounds_toArray, List.set_cons_zero, List.set_cons_succ]
                                refine sg_skip rfl ?_; simp only [Act.put, List.setIfInBounds_toArray, List.set_cons_zero, List.set_cons_succ]
                                refine sg_fix _ rfl (fun w' hI => by have := gA0 w' hI; have := gA1 w' hI; have := k0_Constructor w' hI; have := k0_Vars w' hI; have := k1_Constructor w' hI; have := k1_Vars w' hI; go_simp; rfl) ?_; simp only [Act.put, List.setIfInBounds_toArray, List.set_cons_zero, List.set_cons_succ]
                                refine sg_nil (rg_end (by kernel_rfl) ?_)
                                replace HA := Lib.hid ((hI16.block (w.heap.size) (by have := hZ; omega)).trans HA.out)
                                replace HB := Lib.hid ((hI16.block (w.heap.size + 1) (by have := hZ; omega)).trans HB.out)
                                replace hZ := Nat.lt_of_lt_of_le hZ hI16.size
                                replace hV := hV.trans (hI16.mono hV.size)
                                clear cA cB
                                have cA := row_cell HA.out
                                have cB := row_cell HB.out
                                have e := Hs.out
                                rw [Hd.out, Hd'.out, deq_ne (fun q => Hq.out (List.cons.inj q).1)] at e
                                have Hf := Lib.hid e
                                clear e
                                go_wp2
                                go_ret
                                refine ⟨ret_bool ?_, hV⟩
                                rw [deq_ne (fun q => ?_)]
                                have := Hf.out
                                rw [q, deq_eq rfl] at this
                                cases this
                            · skip
                              have be14 : (!u.fConstructor.toList == v.fConstructor.toList) = true := by simpa using fun q => e14 (ba_ext q)
                              have bbe14 : (u.fConstructor.toList == v.fConstructor.toList) = false := by simpa using fun q => e14 (ba_ext q)
                              have Hq : Hid (¬ u = v) := fun q => e14 (congrArg (·.fConstructor) q)
                              clear e14
                              go_wp2_with fail
                              refine rg 45 (Below wr.heap.size wr) (by kernel_rfl) rfl ?_
                              refine rg_seg (fuel := 0) [0, 1, 2, 3, 4, 5, 6, 7, 8, 9, 10, 11, 12, 13, 14, 15, 16, 17, 18, 19, 20, 21, 22, 23, 24, 25, 26, 27, 28, 29, 30, 31, 32, 33, 34, 35, 36, 37, 38, 39, 40, 41, 42, 43, 44] hI0 (by kernel_rfl) rfl ?_
                              simp only [pick, List.getElem?_cons_zero, List.getElem?_cons_succ]
                              refine sg_fix _ rfl (fun w' hI => by have := gA0 w' hI; have := gA1 w' hI; have := k0_Constructor w' hI; have := k0_Vars w' hI; have := k1_Constructor w' hI; have := k1_Vars w' hI; go_simp; rfl) ?_; simp only [Act.put, List.setIfInBounds_toArray, List.set_cons_zero, List.set_cons_succ]
                              refine sg_fix _ rfl (fun w' hI => by have := gA0 w' hI; have := gA1 w' hI; have := k0_Constructor w' hI; have := k0_Vars w' hI; have := k1_Constructor w' hI; have := k1_Vars w' hI; go_simp; rfl) ?_; simp only [Act.put, List.setIfInBounds_toArray, List.set_cons_zero, List.set_cons_succ]
                              refine sg_fix _ rfl (fun w' hI => by have := gA0 w' hI; have := gA1 w' hI; have := k0_Constructor w' hI; have := k0_Vars w' hI; have := k1_Constructor w' hI; have := k1_Vars w' hI; go_simp; rfl) ?_; simp only [Act.put, List.setIfInBounds_toArray, List.set_cons_zero, List.set_cons_succ]
                              refine sg_fix _ rfl (fun w' hI => by have := gA0 w' hI; have := gA1 w' hI; have := k0_Constructor w' hI; have := k0_Vars w' hI; have := k1_Constructor w' hI; have := k1_Vars w' hI; go_simp; rfl) ?_; simp only [Act.put, List.setIfInBounds_toArray, List.set_cons_zero, List.set_cons_succ]
                              refine sg_fix _ rfl (fun w' hI => by have := gA0 w' hI; have := gA1 w' hI; have := k0_Constructor w' hI; have := k0_Vars w' hI; have := k1_Constructor w' hI; have := k1_Vars w' hI; go_simp; rfl) ?_; simp only [Act.put, List.setIfInBounds_toArray, List.set_cons_zero, List.set_cons_succ]
                              refine sg_fix _ rfl (fun w' hI => by have := gA0 w' hI; have := gA1 w' hI; have := k0_Constructor w' hI; have := k0_Vars w' hI; have := k1_Constructor w' hI; have := k1_Vars w' hI; go_simp; rfl) ?_; simp only [Act.put, List.setIfInBounds_toArray, List.set_cons_zero, List.set_cons_succ]
                              refine sg_fix _ rfl (fun w' hI => by have := gA0 w' hI; have := gA1 w' hI; have := k0_Constructor w' hI; have := k0_Vars w' hI; have := k1_Constructor w' hI; have := k1_Vars w' hI; go_simp; rfl) ?_; simp only [Act.put, List.setIfInBounds_toArray, List.set_cons_zero, List.set_cons_succ]
                              refine sg_fix _ rfl (fun w' hI => by have := gA0 w' hI; have := gA1 w' hI; have := k0_Constructor w' hI; have := k0_Vars w' hI; have := k1_Constructor w' hI; have := k1_Vars w' hI; go_simp; rfl) ?_; simp only [Act.put, List.setIfInBounds_toArray, List.set_cons_zero, List.set_cons_succ]
                              refine sg_fix _ rfl (fun w' hI => by have := gA0 w' hI; have := gA1 w' hI; have := k0_Constructor w' hI; have := k0_Vars w' hI; have := k1_Constructor w' hI; have := k1_Vars w' hI; go_simp; rfl) ?_; simp only [Act.put, List.setIfInBounds_toArray, List.set_cons_zero, List.set_cons_succ]
                              refine sg_fix _ rfl (fun w' hI => by have := gA0 w' hI; have := gA1 w' hI; have := k0_Constructor w' hI; have := k0_Vars w' hI; have := k1_Constructor w' hI; have := k1_Vars w' hI; go_simp; rfl) ?_; simp only [Act.put, List.setIfInBounds_toArray, List.set_cons_zero, List.set_cons_succ]
                              refine sg_fix _ rfl (fun w' hI => by have := gA0 w' hI; have := gA1 w' hI; have := k0_Constructor w' hI; have := k0_Vars w' hI; have := k1_Constructor w' hI; have := k1_Vars w' hI; go_simp; rfl) ?_; simp only [Act.put, List.setIfInBounds_toArray, List.set_cons_zero, List.set_cons_succ]
                              refine sg_fix _ rfl (fun w' hI => by have := gA0 w' hI; have := gA1 w' hI; have := k0_Constructor w' hI; have := k0_Vars w' hI; have := k1_Constructor w' hI; have := k1_Vars w' hI; go_simp; rfl) ?_; simp only [Act.put, List.setIfInBounds_toArray, List.set_cons_zero, List.set_cons_succ]
                              refine sg_fix _ rfl (fun w' hI => by have := gA0 w' hI; have := gA1 w' hI; have := k0_Constructor w' hI; have := k0_Vars w' hI; have := k1_Constructor w' hI; have := k1_Vars w' hI; go_simp; rfl) ?_; simp only [Act.put, List.setIfInBounds_toArray, List.set_cons_zero, List.set_cons_succ]
                              refine sg_fix _ rfl (fun w' hI => by have := gA0 w' hI; have := gA1 w' hI; have := k0_Constructor w' hI; have := k0_Vars w' hI; have := k1_Constructor w' hI; have := k1_Vars w' hI; go_simp; rfl) ?_; simp only [Act.put, List.setIfInBounds_toArray, List.set_cons_zero, List.set_cons_succ]
                              refine sg_skip rfl ?_; simp only [Act.put, List.setIfInBounds_toArray, List.set_cons_zero, List.set_cons_succ]
                              refine sg_skip rfl ?_; simp only [Act.put, List.setIfInBounds_toArray, List.set_cons_zero, List.set_cons_succ]
                              refine sg_skip rfl ?_; simp only [Act.put, List.setIfInBounds_toArray, List.set_cons_zero, List.set_cons_succ]
                              refine sg_skip rfl ?_; simp only [Act.put, List.setIfInBounds_toArray, List.set_cons_zero, List.set_cons_succ]
                              refine sg_skip rfl ?_; simp only [Act.put, List.setIfInBounds_toArray, List.set_cons_zero, List.set_cons_succ]
                              refine sg_skip rfl ?_; simp only [Act.put, List.setIfInBounds_toArray, List.set_cons_zero, List.set_cons_succ]
                              refine sg_skip rfl ?_; simp only [Act.put, List.setIfInBounds_toArray, List.set_cons_zero, List.set_cons_succ]
                              refine sg_skip rfl ?_; simp only [Act.put, List.setIfInBounds_toArray, List.set_cons_zero, List.set_cons_succ]
                              refine sg_skip rfl ?_; simp only [Act.put, List.setIfInBounds_toArray, List.set_cons_zero, List.set_cons_succ]
                              refine sg_skip rfl ?_; simp only [Act.put, List.setIfInBounds_toArray, List.set_cons_zero, List.set_cons_succ]
                              refine sg_skip rfl ?_; simp only [Act.put, List.setIfInBounds_toArray, List.set_cons_zero, List.set_cons_succ]
                              refine sg_skip rfl ?_; simp only [Act.put, List.setIfInBounds_toArray, List.set_cons_zero, List.set_cons_succ]
                              refine sg_skip rfl ?_; simp only [Act.put, List.setIfInBounds_toArray, List.set_cons_zero, List.set_cons_succ]
                              refine sg_skip rfl ?_; simp only [Act.put, List.setIfInBounds_toArray, List.set_cons_zero, List.set_cons_succ]
                              refine sg_fix _ rfl (fun w' hI => by have := gA0 w' hI; have := gA1 w' hI; have := k0_Constructor w' hI; have := k0_Vars w' hI; have := k1_Constructor w' hI; have := k1_Vars w' hI; go_simp; rfl) ?_; simp only [Act.put, List.setIfInBounds_toArray, List.set_cons_zero, List.set_cons_succ]
                              refine sg_fix _ rfl (fun w' hI => by have := gA0 w' hI; have := gA1 w' hI; have := k0_Constructor w' hI; have := k0_Vars w' hI; have := k1_Constructor w' hI; have := k1_Vars w' hI; go_simp; rfl) ?_; simp only [Act.put, List.setIfInBounds_toArray, List.set_cons_zero, List.set_cons_succ]
                              refine sg_skip rfl ?_; simp only [Act.put, List.setIfInBounds_toArray, List.set_cons_zero, List.set_cons_succ]
                              refine sg_skip rfl ?_; simp only [Act.put, List.setIfInBounds_toArray, List.set_cons_zero, List.set_cons_succ]
                              refine sg_skip rfl ?_; simp only [Act.put, List.setIfInBounds_toArray, List.set_cons_zero, List.set_cons_succ]
                              refine sg_skip rfl ?_; simp only [Act.put, List.setIfInBounds_toArray, List.set_cons_zero, List.set_cons_succ]
                              refine sg_skip rfl ?_; simp only [Act.put, List.setIfInBounds_toArray, List.set_cons_zero, List.set_cons_succ]
                              refine sg_skip rfl ?_; simp only [Act.put, List.setIfInBounds_toArray, List.set_cons_zero, List.set_cons_succ]
                              refine sg_skip rfl ?_; simp only [Act.put, List.setIfInBounds_toArray, List.set_cons_zero, List.set_cons_succ]
                              refine sg_skip rfl ?_; simp only [Act.put, List.setIfInBounds_toArray, List.set_cons_zero, List.set_cons_succ]
                              refine sg_skip rfl ?_; simp only [Act.put, List.setIfInBounds_toArray, List.set_cons_zero, List.set_cons_succ]
                              refine sg_skip rfl ?_; simp only [Act.put, List.setIfInBounds_toArray, List.set_cons_zero, List.set_cons_succ]
                              refine sg_skip rfl ?_; simp only [Act.put, List.setIfInBounds_toArray, List.set_cons_zero, List.set_cons_succ]
                              refine sg_skip rfl ?_; simp only [Act.put, List.setIfInBounds_toArray, List.set_cons_zero, List.set_cons_succ]
                              refine sg_skip rfl ?_; simp only [Act.put, List.setIfInBounds_toArray, List.set_cons_zero, List.set_cons_succ]
                              refine sg_skip rfl ?_; simp only [Act.put, List.setIfInBounds_toArray, List.set_cons_zero, List.set_cons_succ]
                              refine sg_fix _ rfl (fun w' hI => by have := gA0 w' hI; have := gA1 w' hI; have := k0_Constructor w' hI; have := k0_Vars w' hI; have := k1_Constructor w' hI; have := k1_Vars w' hI; go_simp; rfl) ?_; simp only [Act.put, List.setIfInBounds_toArray, List.set_cons_zero, List.set_cons_succ]
                              refine sg_nil (rg_end (by kernel_rfl) ?_)
                              replace HA := Lib.hid ((hI0.block (w.heap.size) (by have := hZ; omega)).trans HA.out)
                              replace HB := Lib.hid ((hI0.block (w.heap.size + 1) (by have := hZ; omega)).trans HB.out)
                              replace hZ := Nat.lt_of_lt_of_le hZ hI0.size
                              replace hV := hV.trans (hI0.mono hV.size)
                              clear cA cB
                              have cA := row_cell HA.out
                              have cB := row_cell HB.out
                              have e := Hs.out
                              rw [Hd.out, Hd'.out, deq_ne (fun q => Hq.out (List.cons.inj q).1)] at e
                              have Hf := Lib.hid e
                              clear e
                              go_wp2
                              go_ret
                              refine ⟨ret_bool ?_, hV⟩
                              rw [deq_ne (fun q => ?_)]
                              have := Hf.out
                              rw [q, deq_eq rfl] at this
                              cases this
                          · skip
                            obtain rfl : n = x.fArms.length := by omega
                            have e21 : x.fArms = y.fArms := by
                              have e := Hs.out
                              rw [List.drop_length, List.drop_eq_nil_of_le (by omega), deq_eq rfl] at e
                              exact of_deq e.symm
                            have Ee21 := Lib.hid e21
                            clear e21
                            clear hlt Hs hn
                            go_wp2
                            go_ret
                            exact ⟨ret_bool (deq_eq (TCore.ext Ee1.out Ee2.out Ee3.out Ee4.out Ee5.out Ee6.out Ee7.out Ee13.out Ee21.out)).symm, hV⟩
                  · skip
                    have be9 : (x.fArms.length != y.fArms.length) = true := by simpa using e9
                    have bie9 : ((x.fArms.length : Int) != (y.fArms.length : Int)) = true := by simp; omega
                    have Ee9 := Lib.hid e9
                    clear e9
                    go_wp2
                    go_ret
                    exact ⟨ret_bool (deq_ne (fun q => (fun q => Ee9.out (congrArg List.length q)) (congrArg (·.fArms) q))).symm, hV⟩
                · skip
                  have be8 : (x.fArgs.length != y.fArgs.length) = true := by simpa using e8
                  have bie8 : ((x.fArgs.length : Int) != (y.fArgs.length : Int)) = true := by simp; omega
                  have Ee8 := Lib.hid e8
                  clear e8
                  go_wp2
                  go_ret
                  exact ⟨ret_bool (deq_ne (fun q => (fun q => Ee8.out (congrArg List.length q)) (congrArg (·.fArgs) q))).symm, hV⟩
              · skip
                rw [deq_ne e7]
                have Ee7 := Lib.hid e7
                clear e7
                go_wp2
                go_ret
                exact ⟨ret_bool (deq_ne (fun q => Ee7.out (congrArg (·.fEvidence) q))).symm, hV⟩
            · skip
              rw [deq_ne e6]
              have Ee6 := Lib.hid e6
              clear e6
              go_wp2
              go_ret
              exact ⟨ret_bool (deq_ne (fun q => Ee6.out (congrArg (·.fTypeArgs) q))).symm, hV⟩
          · skip
            rw [deq_ne e5]
            have Ee5 := Lib.hid e5
            clear e5
            go_wp2
            go_ret
            exact ⟨ret_bool (deq_ne (fun q => Ee5.out (congrArg (·.fType) q))).symm, hV⟩
        · skip
          have be4 : (x.fN != y.fN) = true := by simpa using e4
          have bbe4 : (x.fN == y.fN) = false := by simpa using e4
          have Ee4 := Lib.hid e4
          clear e4
          go_wp2
          go_ret
          exact ⟨ret_bool (deq_ne (fun q => Ee4.out (congrArg (·.fN) q))).symm, hV⟩
      · skip
        have be3 : (!x.fName.toList == y.fName.toList) = true := by simpa using fun q => e3 (ba_ext q)
        have bbe3 : (x.fName.toList == y.fName.toList) = false := by simpa using fun q => e3 (ba_ext q)
        have Ee3 := Lib.hid e3
        clear e3
        go_wp2
        go_ret
        exact ⟨ret_bool (deq_ne (fun q => Ee3.out (congrArg (·.fName) q))).symm, hV⟩
    · skip
      have be2 : (!x.fTrait.toList == y.fTrait.toList) = true := by simpa using fun q => e2 (ba_ext q)
      have bbe2 : (x.fTrait.toList == y.fTrait.toList) = false := by simpa using fun q => e2 (ba_ext q)
      have Ee2 := Lib.hid e2
      clear e2
      go_wp2
      go_ret
      exact ⟨ret_bool (deq_ne (fun q => Ee2.out (congrArg (·.fTrait) q))).symm, hV⟩
  · skip
    have be1 : (x.fKind != y.fKind) = true := by simpa using e1
    have bbe1 : (x.fKind == y.fKind) = false := by simpa using e1
    have Ee1 := Lib.hid e1
    clear e1
    go_wp2
    go_ret
    exact ⟨ret_bool (deq_ne (fun q => Ee1.out (congrArg (·.fKind) q))).symm, hV⟩
theorem PspecEqualCore_all : ∀ N : Nat, PspecEqualCore N
  | 0 => fun _ _ h => absurd h (Nat.not_lt_zero _)
  | N + 1 => by
    have i0 := PspecEqualCore_all N
    have j0 := stepPspecEqualCore N i0
    exact j0
theorem specEqualCore_c (x y : TCore) : ∀ (w : World) (K : Nat → Prop) (_ : ∀ b, K b → b < w.heap.size) (cs ds : List Value) (_ : Rep w K x.enc cs) (_ : Rep w K y.enc ds),
    Calls Try.prog 97 #[.agg cs.toArray, .agg ds.toArray] w fun e w' => e = .returned (.bool (deq x y)) ∧ Below w.heap.size w w' := (PspecEqualCore_all (SizeOf.sizeOf x + 1)) x y (Nat.lt_succ_self _)
set_option maxRecDepth 100000 in
set_option maxHeartbeats 10000000 in
theorem specEqualUnits_c (l m : List TUnit) : ∀ (w : World) (K : Nat → Prop) (_ : ∀ b, K b → b < w.heap.size) (u v : Value) (_ : Rep w K (.sl (l.map TUnit.enc)) [u]) (_ : Rep w K (.sl (m.map TUnit.enc)) [v]),
    Calls Try.prog 47 #[u, v] w fun e w' => e = .returned (.bool (deq l m)) ∧ Below w.heap.size w w' := by
  intro w K hK u v h k
  obtain ⟨a, cap, rfl, hc, hm, -, hE⟩ := open_sl TUnit.width h
  obtain ⟨a', cap', rfl, hc', hm', -, hE'⟩ := open_sl TUnit.width k
  unfold maxLen at hm hm'
  clear h k
  by_cases hl : l.length = m.length
  · skip
    have bhl : (l.length != m.length) = false := by simp [hl]
    have bihl : ((l.length : Int) != (m.length : Int)) = false := by simp [hl]
    have hahl : l.length ≤ m.length := by omega
    have hbhl : m.length ≤ l.length := by omega
    have Hl0 := Lib.hid hl
    clear hl
    have Hg : Hid (deq (l.drop 0) (m.drop 0) = deq l m) := rfl
    go_enter Try.func47, Try.ntmps47
    go_wp2
    go_loopw [5] (fun i wr => ∃ (n : Nat), n ≤ l.length ∧ i = .int .i64 n ∧ Hid (deq (l.drop n) (m.drop n) = deq l m) ∧ Below w.heap.size w wr) (fun i _ => l.length - (intOf i).toNat)
    case atStart => exact ⟨0, Nat.zero_le _, rfl, Hg, Below.refl _ _⟩
    case round =>
      clear Hg
      obtain ⟨n, hn, rfl, Hs, hV⟩ := hrel
      by_cases hlt : n < l.length
      · skip
        have hlt' : n < m.length := by omega
        obtain ⟨b1, off1, rfl, hKb, cs, hcs, hr⟩ := hE n hlt
        obtain ⟨b2, off2, rfl, hKb', cs', hcs', hr'⟩ := hE' n hlt'
        have gcs := hcs.ext hV (hK b1 hKb)
        have gcs' := hcs'.ext hV (hK b2 hKb')
        have gr := Rep.ext hV hK hr
        have gr' := Rep.ext hV hK hr'
        have hK' : ∀ b, K b → b < wr.heap.size := fun b h => Nat.lt_of_lt_of_le (hK b h) hV.size
        have hmem : l[n] ∈ l := List.getElem_mem hlt
        have Hd : Hid (l.drop n = l[n] :: l.drop (n + 1)) := List.drop_eq_getElem_cons hlt
        have Hd' : Hid (m.drop n = m[n] :: m.drop (n + 1)) := List.drop_eq_getElem_cons hlt'
        clear hcs hcs' hr hr'
        generalize l[n] = u at *
        generalize m[n] = v at *
        have ho := Lib.hid (Rep.one _ _ gr)
        have ho' := Lib.hid (Rep.one _ _ gr')
        obtain ⟨p4, p5, p6, p7, p8, p9, p10, p11, p12, p13, p14, p15, p16, p17, p18, p19, p20, rfl, -, -, -, -, rhVars, rhWhere, rhParams, rhResult, rhBody⟩ := TUnit.opn gr
        obtain ⟨q4, q5, q6, q7, q8, q9, q10, q11, q12, q13, q14, q15, q16, q17, q18, q19, q20, rfl, -, -, -, -, skVars, skWhere, skParams, skResult, skBody⟩ := TUnit.opn gr'
        have ha1 := Lib.hid (show ((#[.int .i64 0, .int .i64 0, .int .i64 0, .int .i64 0, .slice none 0 0, .slice none 0 0, .slice none 0 0, .int .i64 0, .string ⟨#[]⟩, .slice none 0 0, .int .i64 0, .string ⟨#[]⟩, .string ⟨#[]⟩, .int .i64 0, .int .i64 0, .string ⟨#[]⟩, .slice none 0 0, .slice none 0 0, .slice none 0 0, .slice none 0 0, .slice none 0 0] : Array Value).toList.take 0 ++ ([.int .i64 u.fKind, .int .i64 u.fPackage, .int .i64 u.fAt, .int .i64 u.fSub, p4, p5, p6, p7, p8, p9, p10, p11, p12, p13, p14, p15, p16, p17, p18, p19, p20] : List Value) ++ (#[.int .i64 0, .int .i64 0, .int .i64 0, .int .i64 0, .slice none 0 0, .slice none 0 0, .slice none 0 0, .int .i64 0, .string ⟨#[]⟩, .slice none 0 0, .int .i64 0, .string ⟨#[]⟩, .string ⟨#[]⟩, .int .i64 0, .int .i64 0, .string ⟨#[]⟩, .slice none 0 0, .slice none 0 0, .slice none 0 0, .slice none 0 0, .slice none 0 0] : Array Value).toList.drop (0 + ([.int .i64 u.fKind, .int .i64 u.fPackage, .int .i64 u.fAt, .int .i64 u.fSub, p4, p5, p6, p7, p8, p9, p10, p11, p12, p13, p14, p15, p16, p17, p18, p19, p20] : List Value).length)).toArray = #[.int .i64 u.fKind, .int .i64 u.fPackage, .int .i64 u.fAt, .int .i64 u.fSub, p4, p5, p6, p7, p8, p9, p10, p11, p12, p13, p14, p15, p16, p17, p18, p19, p20] from rfl)
        have hf1 := Lib.hid (show 0 + ([.int .i64 u.fKind, .int .i64 u.fPackage, .int .i64 u.fAt, .int .i64 u.fSub, p4, p5, p6, p7, p8, p9, p10, p11, p12, p13, p14, p15, p16, p17, p18, p19, p20] : List Value).length ≤ (#[.int .i64 0, .int .i64 0, .int .i64 0, .int .i64 0, .slice none 0 0, .slice none 0 0, .slice none 0 0, .int .i64 0, .string ⟨#[]⟩, .slice none 0 0, .int .i64 0, .string ⟨#[]⟩, .string ⟨#[]⟩, .int .i64 0, .int .i64 0, .string ⟨#[]⟩, .slice none 0 0, .slice none 0 0, .slice none 0 0, .slice none 0 0, .slice none 0 0] : Array Value).size from (by decide : 0 + 21 ≤ 21))
        have hi1 := Lib.hid (show (Try.prog.info? 176).map (·.size) = some ([.int .i64 u.fKind, .int .i64 u.fPackage, .int .i64 u.fAt, .int .i64 u.fSub, p4, p5, p6, p7, p8, p9, p10, p11, p12, p13, p14, p15, p16, p17, p18, p19, p20] : List Value).length from infoQEqFS176)
        go_wp2_with (first | (with_reducible refine ld rfl 176 _ rfl b1 _ rfl [.int .i64 u.fKind, .int .i64 u.fPackage, .int .i64 u.fAt, .int .i64 u.fSub, p4, p5, p6, p7, p8, p9, p10, p11, p12, p13, p14, p15, p16, p17, p18, p19, p20] gcs _ Try.underlying176 hi1.out ?_) | (with_reducible refine stR rfl 176 _ _ rfl (wr.heap.size) 0 rfl [.int .i64 u.fKind, .int .i64 u.fPackage, .int .i64 u.fAt, .int .i64 u.fSub, p4, p5, p6, p7, p8, p9, p10, p11, p12, p13, p14, p15, p16, p17, p18, p19, p20] rfl hi1.out ho.out (#[.int .i64 0, .int .i64 0, .int .i64 0, .int .i64 0, .slice none 0 0, .slice none 0 0, .slice none 0 0, .int .i64 0, .string ⟨#[]⟩, .slice none 0 0, .int .i64 0, .string ⟨#[]⟩, .string ⟨#[]⟩, .int .i64 0, .int .i64 0, .string ⟨#[]⟩, .slice none 0 0, .slice none 0 0, .slice none 0 0, .slice none 0 0, .slice none 0 0] : Array Value) #[.int .i64 u.fKind, .int .i64 u.fPackage, .int .i64 u.fAt, .int .i64 u.fSub, p4, p5, p6, p7, p8, p9, p10, p11, p12, p13, p14, p15, p16, p17, p18, p19, p20] 176 (alloc_at rfl) hf1.out ha1.out ?_))
        intro w1 hp1
        have hB1 := hp1.below ((Below.refl _ _).alloc (Nat.le_refl _) _) (Nat.le_refl _)
        have lw1 : wr.heap.size < w1.heap.size := by rw [hp1.size]; simp
        have HX := Lib.hid hp1.row
        have gcs2 := gcs'.ext hB1 (hK' b2 hKb')
        replace hV := hV.trans (hB1.mono hV.size)
        have ha2 := Lib.hid (show ((#[.int .i64 0, .int .i64 0, .int .i64 0, .int .i64 0, .slice none 0 0, .slice none 0 0, .slice none 0 0, .int .i64 0, .string ⟨#[]⟩, .slice none 0 0, .int .i64 0, .string ⟨#[]⟩, .string ⟨#[]⟩, .int .i64 0, .int .i64 0, .string ⟨#[]⟩, .slice none 0 0, .slice none 0 0, .slice none 0 0, .slice none 0 0, .slice none 0 0] : Array Value).toList.take 0 ++ ([.int .i64 v.fKind, .int .i64 v.fPackage, .int .i64 v.fAt, .int .i64 v.fSub, q4, q5, q6, q7, q8, q9, q10, q11, q12, q13, q14, q15, q16, q17, q18, q19, q20] : List Value) ++ (#[.int .i64 0, .int .i64 0, .int .i64 0, .int .i64 0, .slice none 0 0, .slice none 0 0, .slice none 0 0, .int .i64 0, .string ⟨#[]⟩, .slice none 0 0, .int .i64 0, .string ⟨#[]⟩, .string ⟨#[]⟩, .int .i64 0, .int .i64 0, .string ⟨#[]⟩, .slice none 0 0, .slice none 0 0, .slice none 0 0, .slice none 0 0, .slice none 0 0] : Array Value).toList.drop (0 + ([.int .i64 v.fKind, .int .i64 v.fPackage, .int .i64 v.fAt, .int .i64 v.fSub, q4, q5, q6, q7, q8, q9, q10, q11, q12, q13, q14, q15, q16, q17, q18, q19, q20] : List Value).length)).toArray = #[.int .i64 v.fKind, .int .i64 v.fPackage, .int .i64 v.fAt, .int .i64 v.fSub, q4, q5, q6, q7, q8, q9, q10, q11, q12, q13, q14, q15, q16, q17, q18, q19, q20] from rfl)
        have hf2 := Lib.hid (show 0 + ([.int .i64 v.fKind, .int .i64 v.fPackage, .int .i64 v.fAt, .int .i64 v.fSub, q4, q5, q6, q7, q8, q9, q10, q11, q12, q13, q14, q15, q16, q17, q18, q19, q20] : List Value).length ≤ (#[.int .i64 0, .int .i64 0, .int .i64 0, .int .i64 0, .slice none 0 0, .slice none 0 0, .slice none 0 0, .int .i64 0, .string ⟨#[]⟩, .slice none 0 0, .int .i64 0, .string ⟨#[]⟩, .string ⟨#[]⟩, .int .i64 0, .int .i64 0, .string ⟨#[]⟩, .slice none 0 0, .slice none 0 0, .slice none 0 0, .slice none 0 0, .slice none 0 0] : Array Value).size from (by decide : 0 + 21 ≤ 21))
        have hi2 := Lib.hid (show (Try.prog.info? 176).map (·.size) = some ([.int .i64 v.fKind, .int .i64 v.fPackage, .int .i64 v.fAt, .int .i64 v.fSub, q4, q5, q6, q7, q8, q9, q10, q11, q12, q13, q14, q15, q16, q17, q18, q19, q20] : List Value).length from infoQEqFS176)
        go_wp2_with (first | (with_reducible refine ld rfl 176 _ rfl b2 _ rfl [.int .i64 v.fKind, .int .i64 v.fPackage, .int .i64 v.fAt, .int .i64 v.fSub, q4, q5, q6, q7, q8, q9, q10, q11, q12, q13, q14, q15, q16, q17, q18, q19, q20] gcs2 _ Try.underlying176 hi2.out ?_) | (with_reducible refine stR rfl 176 _ _ rfl (w1.heap.size) 0 rfl [.int .i64 v.fKind, .int .i64 v.fPackage, .int .i64 v.fAt, .int .i64 v.fSub, q4, q5, q6, q7, q8, q9, q10, q11, q12, q13, q14, q15, q16, q17, q18, q19, q20] rfl hi2.out ho'.out (#[.int .i64 0, .int .i64 0, .int .i64 0, .int .i64 0, .slice none 0 0, .slice none 0 0, .slice none 0 0, .int .i64 0, .string ⟨#[]⟩, .slice none 0 0, .int .i64 0, .string ⟨#[]⟩, .string ⟨#[]⟩, .int .i64 0, .int .i64 0, .string ⟨#[]⟩, .slice none 0 0, .slice none 0 0, .slice none 0 0, .slice none 0 0, .slice none 0 0] : Array Value) #[.int .i64 v.fKind, .int .i64 v.fPackage, .int .i64 v.fAt, .int .i64 v.fSub, q4, q5, q6, q7, q8, q9, q10, q11, q12, q13, q14, q15, q16, q17, q18, q19, q20] 176 (alloc_at rfl) hf2.out ha2.out ?_))
        intro w2 hp2
        have hB2 := hp2.below ((Below.refl _ _).alloc (Nat.le_refl _) _) (Nat.le_refl _)
        have lw2 : w1.heap.size < w2.heap.size := by rw [hp2.size]; simp
        have HY := Lib.hid hp2.row
        replace HX := Lib.hid ((hB2.block _ lw1).trans HX.out)
        have lx : wr.heap.size < w2.heap.size := Nat.lt_of_lt_of_le lw1 hB2.size
        have ly : w1.heap.size < w2.heap.size := lw2
        replace hV := hV.trans (hB2.mono hV.size)
        have hI := hB1.trans (hB2.mono hB1.size)
        have cX := row_cell HX.out
        have cY := row_cell HY.out
        by_cases e1 : u.fKind = v.fKind
        · skip
          have be1 : (u.fKind != v.fKind) = false := by simp [e1]
          have bbe1 : (u.fKind == v.fKind) = true := by simp [e1]
          have Ee1 := Lib.hid e1
          clear e1
          by_cases e2 : u.fPackage = v.fPackage
          · skip
            have be2 : (u.fPackage != v.fPackage) = false := by simp [e2]
            have bbe2 : (u.fPackage == v.fPackage) = true := by simp [e2]
            have Ee2 := Lib.hid e2
            clear e2
            by_cases e3 : u.fAt = v.fAt
            · skip
              have be3 : (u.fAt != v.fAt) = false := by simp [e3]
              have bbe3 : (u.fAt == v.fAt) = true := by simp [e3]
              have Ee3 := Lib.hid e3
              clear e3
              by_cases e4 : u.fSub = v.fSub
              · skip
                have be4 : (u.fSub != v.fSub) = false := by simp [e4]
                have bbe4 : (u.fSub == v.fSub) = true := by simp [e4]
                have Ee4 := Lib.hid e4
                clear e4
                go_wp2_with fail
                refine (specl11Texts_c u.fVars v.fVars _ K (fun b hb => Nat.lt_of_lt_of_le (hK b hb) hV.size) _ _ (Rep.ext hI hK' rhVars) (Rep.ext hI hK' skVars)).mono ?_
                rintro e w3 ⟨rfl, hB3⟩
                replace HX := Lib.hid ((hB3.block _ lx).trans HX.out)
                replace HY := Lib.hid ((hB3.block _ ly).trans HY.out)
                replace lx := Nat.lt_of_lt_of_le lx hB3.size
                replace ly := Nat.lt_of_lt_of_le ly hB3.size
                replace hI := hI.trans (hB3.mono hI.size)
                clear cX cY
                have cX := row_cell HX.out
                have cY := row_cell HY.out
                replace hV := hV.trans (hB3.mono hV.size)
                by_cases e5 : u.fVars = v.fVars
                · skip
                  rw [deq_eq e5]
                  have Ee5 := Lib.hid e5
                  clear e5
                  go_wp2_with fail
                  refine (specl13SameBounds_c u.fWhere v.fWhere _ K (fun b hb => Nat.lt_of_lt_of_le (hK b hb) hV.size) _ _ (Rep.ext hI hK' rhWhere) (Rep.ext hI hK' skWhere)).mono ?_
                  rintro e w4 ⟨rfl, hB4⟩
                  replace HX := Lib.hid ((hB4.block _ lx).trans HX.out)
                  replace HY := Lib.hid ((hB4.block _ ly).trans HY.out)
                  replace lx := Nat.lt_of_lt_of_le lx hB4.size
                  replace ly := Nat.lt_of_lt_of_le ly hB4.size
                  replace hI := hI.trans (hB4.mono hI.size)
                  clear cX cY
                  have cX := row_cell HX.out
                  have cY := row_cell HY.out
                  replace hV := hV.trans (hB4.mono hV.size)
                  by_cases e6 : u.fWhere = v.fWhere
                  · skip
                    rw [deq_eq e6]
                    have Ee6 := Lib.hid e6
                    clear e6
                    go_wp2_with fail
                    refine (specl36Params2_c u.fParams v.fParams _ K (fun b hb => Nat.lt_of_lt_of_le (hK b hb) hV.size) _ _ (Rep.ext hI hK' rhParams) (Rep.ext hI hK' skParams)).mono ?_
                    rintro e w5 ⟨rfl, hB5⟩
                    replace HX := Lib.hid ((hB5.block _ lx).trans HX.out)
                    replace HY := Lib.hid ((hB5.block _ ly).trans HY.out)
                    replace lx := Nat.lt_of_lt_of_le lx hB5.size
                    replace ly := Nat.lt_of_lt_of_le ly hB5.size
                    replace hI := hI.trans (hB5.mono hI.size)
                    clear cX cY
                    have cX := row_cell HX.out
                    have cY := row_cell HY.out
                    replace hV := hV.trans (hB5.mono hV.size)
                    by_cases e7 : u.fParams = v.fParams
                    · skip
                      rw [deq_eq e7]
                      have Ee7 := Lib.hid e7
                      clear e7
                      go_wp2_with fail
                      refine (specEqualType_c u.fResult v.fResult _ K (fun b hb => Nat.lt_of_lt_of_le (hK b hb) hV.size) _ _ (Rep.ext hI hK' rhResult) (Rep.ext hI hK' skResult)).mono ?_
                      rintro e w6 ⟨rfl, hB6⟩
                      replace HX := Lib.hid ((hB6.block _ lx).trans HX.out)
                      replace HY := Lib.hid ((hB6.block _ ly).trans HY.out)
                      replace lx := Nat.lt_of_lt_of_le lx hB6.size
                      replace ly := Nat.lt_of_lt_of_le ly hB6.size
                      replace hI := hI.trans (hB6.mono hI.size)
                      clear cX cY
                      have cX := row_cell HX.out
                      have cY := row_cell HY.out
                      replace hV := hV.trans (hB6.mono hV.size)
                      by_cases e8 : u.fResult = v.fResult
                      · skip
                        rw [deq_eq e8]
                        have Ee8 := Lib.hid e8
                        clear e8
                        go_wp2_with fail
                        refine (specEqualCore_c u.fBody v.fBody _ K (fun b hb => Nat.lt_of_lt_of_le (hK b hb) hV.size) _ _ (Rep.ext hI hK' rhBody) (Rep.ext hI hK' skBody)).mono ?_
                        rintro e w7 ⟨rfl, hB7⟩
                        replace HX := Lib.hid ((hB7.block _ lx).trans HX.out)
                        replace HY := Lib.hid ((hB7.block _ ly).trans HY.out)
                        replace lx := Nat.lt_of_lt_of_le lx hB7.size
                        replace ly := Nat.lt_of_lt_of_le ly hB7.size
                        replace hI := hI.trans (hB7.mono hI.size)
                        clear cX cY
                        have cX := row_cell HX.out
                        have cY := row_cell HY.out
                        replace hV := hV.trans (hB7.mono hV.size)
                        by_cases e9 : u.fBody = v.fBody
                        · skip
                          rw [deq_eq e9]
                          have Ee9 := Lib.hid e9
                          clear e9
                          have Hq : Hid (u = v) := TUnit.ext Ee1.out Ee2.out Ee3.out Ee4.out Ee5.out Ee6.out Ee7.out Ee8.out Ee9.out
                          go_wp2
                          go_roundw
                          case rel =>
                            refine ⟨n + 1, hlt, by go_num, ?_, hV⟩
                            have e := Hs.out
                            rw [Hd.out, Hd'.out, Hq.out, deq_cons] at e
                            exact e
                          case measure => simp [intOf]; omega
                        · skip
                          rw [deq_ne e9]
                          have Ee9 := Lib.hid e9
                          clear e9
                          have Hq : Hid (¬ u = v) := fun q => Ee9.out (congrArg (·.fBody) q)
                          have e := Hs.out
                          rw [Hd.out, Hd'.out, deq_ne (fun q => Hq.out (List.cons.inj q).1)] at e
                          have Hf := Lib.hid e
                          clear e
                          go_wp2
                          go_ret
                          exact ⟨ret_bool Hf.out, hV⟩
                      · skip
                        rw [deq_ne e8]
                        have Ee8 := Lib.hid e8
                        clear e8
                        have Hq : Hid (¬ u = v) := fun q => Ee8.out (congrArg (·.fResult) q)
                        have e := Hs.out
                        rw [Hd.out, Hd'.out, deq_ne (fun q => Hq.out (List.cons.inj q).1)] at e
                        have Hf := Lib.hid e
                        clear e
                        go_wp2
                        go_ret
                        exact ⟨ret_bool Hf.out, hV⟩
                    · skip
                      rw [deq_ne e7]
                      have Ee7 := Lib.hid e7
                      clear e7
                      have Hq : Hid (¬ u = v) := fun q => Ee7.out (congrArg (·.fParams) q)
                      have e := Hs.out
                      rw [Hd.out, Hd'.out, deq_ne (fun q => Hq.out (List.cons.inj q).1)] at e
                      have Hf := Lib.hid e
                      clear e
                      go_wp2
                      go_ret
                      exact ⟨ret_bool Hf.out, hV⟩
                  · skip
                    rw [deq_ne e6]
                    have Ee6 := Lib.hid e6
                    clear e6
                    have Hq : Hid (¬ u = v) := fun q => Ee6.out (congrArg (·.fWhere) q)
                    have e := Hs.out
                    rw [Hd.out, Hd'.out, deq_ne (fun q => Hq.out (List.cons.inj q).1)] at e
                    have Hf := Lib.hid e
                    clear e
                    go_wp2
                    go_ret
                    exact ⟨ret_bool Hf.out, hV⟩
                · skip
                  rw [deq_ne e5]
                  have Ee5 := Lib.hid e5
                  clear e5
                  have Hq : Hid (¬ u = v) := fun q => Ee5.out (congrArg (·.fVars) q)
                  have e := Hs.out
                  rw [Hd.out, Hd'.out, deq_ne (fun q => Hq.out (List.cons.inj q).1)] at e
                  have Hf := Lib.hid e
                  clear e
                  go_wp2
                  go_ret
                  exact ⟨ret_bool Hf.out, hV⟩
              · skip
                have be4 : (u.fSub != v.fSub) = true := by simpa using e4
                have bbe4 : (u.fSub == v.fSub) = false := by simpa using e4
                have Ee4 := Lib.hid e4
                clear e4
                have Hq : Hid (¬ u = v) := fun q => Ee4.out (congrArg (·.fSub) q)
                have e := Hs.out
                rw [Hd.out, Hd'.out, deq_ne (fun q => Hq.out (List.cons.inj q).1)] at e
                have Hf := Lib.hid e
                clear e
                go_wp2
                go_ret
                exact ⟨ret_bool Hf.out, hV⟩
            · skip
              have be3 : (u.fAt != v.fAt) = true := by simpa using e3
              have bbe3 : (u.fAt == v.fAt) = false := by simpa using e3
              have Ee3 := Lib.hid e3
              clear e3
              have Hq : Hid (¬ u = v) := fun q => Ee3.out (congrArg (·.fAt) q)
              have e := Hs.out
              rw [Hd.out, Hd'.out, deq_ne (fun q => Hq.out (List.cons.inj q).1)] at e
              have Hf := Lib.hid e
              clear e
              go_wp2
              go_ret
              exact ⟨ret_bool Hf.out, hV⟩
          · skip
            have be2 : (u.fPackage != v.fPackage) = true := by simpa using e2
            have bbe2 : (u.fPackage == v.fPackage) = false := by simpa using e2
            have Ee2 := Lib.hid e2
            clear e2
            have Hq : Hid (¬ u = v) := fun q => Ee2.out (congrArg (·.fPackage) q)
            have e := Hs.out
            rw [Hd.out, Hd'.out, deq_ne (fun q => Hq.out (List.cons.inj q).1)] at e
            have Hf := Lib.hid e
            clear e
            go_wp2
            go_ret
            exact ⟨ret_bool Hf.out, hV⟩
        · skip
          have be1 : (u.fKind != v.fKind) = true := by simpa using e1
          have bbe1 : (u.fKind == v.fKind) = false := by simpa using e1
          have Ee1 := Lib.hid e1
          clear e1
          have Hq : Hid (¬ u = v) := fun q => Ee1.out (congrArg (·.fKind) q)
          have e := Hs.out
          rw [Hd.out, Hd'.out, deq_ne (fun q => Hq.out (List.cons.inj q).1)] at e
          have Hf := Lib.hid e
          clear e
          go_wp2
          go_ret
          exact ⟨ret_bool Hf.out, hV⟩
      · skip
        obtain rfl : n = l.length := by omega
        go_wp2
        go_ret
        refine ⟨ret_bool ?_, hV⟩
        rw [← Hs.out, List.drop_length, List.drop_eq_nil_of_le (by omega)]
        exact (deq_eq rfl).symm
  · skip
    have bhl : (l.length != m.length) = true := by simpa using hl
    have bihl : ((l.length : Int) != (m.length : Int)) = true := by simp; omega
    have Hl0 := Lib.hid hl
    clear hl
    go_enter Try.func47, Try.ntmps47
    go_wp2
    go_ret
    exact ⟨ret_bool (deq_ne (fun q => Hl0.out (congrArg List.length q))).symm, Below.refl _ _⟩
set_option maxRecDepth 100000 in
set_option maxHeartbeats 10000000 in
theorem specl44Bads_c (l m : List TUnitError) : ∀ (w : World) (K : Nat → Prop) (_ : ∀ b, K b → b < w.heap.size) (u v : Value) (_ : Rep w K (.sl (l.map TUnitError.enc)) [u]) (_ : Rep w K (.sl (m.map TUnitError.enc)) [v]),
    Calls Try.prog 48 #[u, v] w fun e w' => e = .returned (.bool (deq l m)) ∧ Below w.heap.size w w' := by
  intro w K hK u v h k
  obtain ⟨a, cap, rfl, hc, hm, -, hE⟩ := open_sl TUnitError.width h
  obtain ⟨a', cap', rfl, hc', hm', -, hE'⟩ := open_sl TUnitError.width k
  unfold maxLen at hm hm'
  clear h k
  by_cases hl : l.length = m.length
  · skip
    have bhl : (l.length != m.length) = false := by simp [hl]
    have bihl : ((l.length : Int) != (m.length : Int)) = false := by simp [hl]
    have hahl : l.length ≤ m.length := by omega
    have hbhl : m.length ≤ l.length := by omega
    have Hl0 := Lib.hid hl
    clear hl
    have Hg : Hid (deq (l.drop 0) (m.drop 0) = deq l m) := rfl
    go_enter Try.func48, Try.ntmps48
    go_wp2
    go_loopw [5] (fun i wr => ∃ (n : Nat), n ≤ l.length ∧ i = .int .i64 n ∧ Hid (deq (l.drop n) (m.drop n) = deq l m) ∧ Below w.heap.size w wr) (fun i _ => l.length - (intOf i).toNat)
    case atStart => exact ⟨0, Nat.zero_le _, rfl, Hg, Below.refl _ _⟩
    case round =>
      clear Hg
      obtain ⟨n, hn, rfl, Hs, hV⟩ := hrel
      by_cases hlt : n < l.length
      · skip
        have hlt' : n < m.length := by omega
        obtain ⟨b1, off1, rfl, hKb, cs, hcs, hr⟩ := hE n hlt
        obtain ⟨b2, off2, rfl, hKb', cs', hcs', hr'⟩ := hE' n hlt'
        have gcs := hcs.ext hV (hK b1 hKb)
        have gcs' := hcs'.ext hV (hK b2 hKb')
        have gr := Rep.ext hV hK hr
        have gr' := Rep.ext hV hK hr'
        have hK' : ∀ b, K b → b < wr.heap.size := fun b h => Nat.lt_of_lt_of_le (hK b h) hV.size
        have hmem : l[n] ∈ l := List.getElem_mem hlt
        have Hd : Hid (l.drop n = l[n] :: l.drop (n + 1)) := List.drop_eq_getElem_cons hlt
        have Hd' : Hid (m.drop n = m[n] :: m.drop (n + 1)) := List.drop_eq_getElem_cons hlt'
        clear hcs hcs' hr hr'
        generalize l[n] = u at *
        generalize m[n] = v at *
        obtain ⟨rfl, -, -, -, -, -, -⟩ := TUnitError.opn gr
        obtain ⟨rfl, -, -, -, -, -, -⟩ := TUnitError.opn gr'
        have hI0 : Below wr.heap.size wr wr.drew := (Below.refl _ _).drew
        have k0_ : ∀ w', Below wr.heap.size wr w' → Cells w' b1 (off1 + n * 6) [.int .i64 u.fKind, .int .i64 u.fPackage, .int .i64 u.fAt, .int .i64 u.fSub, .int .i64 u.fCode, .int .i64 u.fNode] := fun w' h => gcs.ext h (hK' b1 hKb)
        have k1_ : ∀ w', Below wr.heap.size wr w' → Cells w' b2 (off2 + n * 6) [.int .i64 v.fKind, .int .i64 v.fPackage, .int .i64 v.fAt, .int .i64 v.fSub, .int .i64 v.fCode, .int .i64 v.fNode] := fun w' h => gcs'.ext h (hK' b2 hKb')
        clear gcs gcs'
        by_cases e1 : u = v
        · skip
          have Hq := Lib.hid e1
          clear e1
          go_wp2_with fail
          refine rg 9 (Below wr.heap.size wr) (by kernel_rfl) rfl ?_
          refine rg_seg (fuel := 0) [0, 1, 2, 3, 4, 5, 6, 7, 8] hI0 (by kernel_rfl) rfl ?_
          simp only [pick, List.getElem?_cons_zero, List.getElem?_cons_succ]
          refine sg_fix _ rfl (fun w' hI => by go_simp; rfl) ?_; simp only [Act.put, List.setIfInBounds_toArray, List.set_cons_zero, List.set_cons_succ]
          refine sg_fix _ rfl (fun w' hI => by go_simp; rfl) ?_; simp only [Act.put, List.setIfInBounds_toArray, List.set_cons_zero, List.set_cons_succ]
          refine sg_fix _ rfl (fun w' hI => by go_simp; rfl) ?_; simp only [Act.put, List.setIfInBounds_toArray, List.set_cons_zero, List.set_cons_succ]
          refine sg_fix _ rfl (fun w' hI => run_ld 108 _ rfl b1 _ rfl [.int .i64 u.fKind, .int .i64 u.fPackage, .int .i64 u.fAt, .int .i64 u.fSub, .int .i64 u.fCode, .int .i64 u.fNode] (k0_ w' hI) _ Try.underlying108 infoQEqFS108) ?_
          simp only [Act.put, List.setIfInBounds_toArray, List.set_cons_zero, List.set_cons_succ]
          refine sg_fix _ rfl (fun w' hI => by go_simp; rfl) ?_; simp only [Act.put, List.setIfInBounds_toArray, List.set_cons_zero, List.set_cons_succ]
          refine sg_fix _ rfl (fun w' hI => by go_simp; rfl) ?_; simp only [Act.put, List.setIfInBounds_toArray, List.set_cons_zero, List.set_cons_succ]
          refine sg_fix _ rfl (fun w' hI => by go_simp; rfl) ?_; simp only [Act.put, List.setIfInBounds_toArray, List.set_cons_zero, List.set_cons_succ]
          refine sg_fix _ rfl (fun w' hI => run_ld 108 _ rfl b2 _ rfl [.int .i64 v.fKind, .int .i64 v.fPackage, .int .i64 v.fAt, .int .i64 v.fSub, .int .i64 v.fCode, .int .i64 v.fNode] (k1_ w' hI) _ Try.underlying108 infoQEqFS108) ?_
          simp only [Act.put, List.setIfInBounds_toArray, List.set_cons_zero, List.set_cons_succ]
          refine sg_fix (.bool (!(deq u v))) rfl (fun w' hI => by go_simp; exact neqEqFS_TUnitError u v w') ?_
          simp only [Act.put, List.setIfInBounds_toArray, List.set_cons_zero, List.set_cons_succ]
          refine sg_nil (rg_end (by kernel_rfl) ?_)
          rw [deq_eq Hq.out]; simp only [Bool.not_true]
          replace hV := hV.trans (hI0.mono hV.size)
          go_wp2
          go_roundw
          case rel =>
            refine ⟨n + 1, hlt, by go_num, ?_, hV⟩
            have e := Hs.out
            rw [Hd.out, Hd'.out, Hq.out, deq_cons] at e
            exact e
          case measure => simp [intOf]; omega
        · skip
          have Hq := Lib.hid e1
          clear e1
          go_wp2_with fail
          refine rg 9 (Below wr.heap.size wr) (by kernel_rfl) rfl ?_
          refine rg_seg (fuel := 0) [0, 1, 2, 3, 4, 5, 6, 7, 8] hI0 (by kernel_rfl) rfl ?_
          simp only [pick, List.getElem?_cons_zero, List.getElem?_cons_succ]
          refine sg_fix _ rfl (fun w' hI => by go_simp; rfl) ?_; simp only [Act.put, List.setIfInBounds_toArray, List.set_cons_zero, List.set_cons_succ]
          refine sg_fix _ rfl (fun w' hI => by go_simp; rfl) ?_; simp only [Act.put, List.setIfInBounds_toArray, List.set_cons_zero, List.set_cons_succ]
          refine sg_fix _ rfl (fun w' hI => by go_simp; rfl) ?_; simp only [Act.put, List.setIfInBounds_toArray, List.set_cons_zero, List.set_cons_succ]
          refine sg_fix _ rfl (fun w' hI => run_ld 108 _ rfl b1 _ rfl [.int .i64 u.fKind, .int .i64 u.fPackage, .int .i64 u.fAt, .int .i64 u.fSub, .int .i64 u.fCode, .int .i64 u.fNode] (k0_ w' hI) _ Try.underlying108 infoQEqFS108) ?_
          simp only [Act.put, List.setIfInBounds_toArray, List.set_cons_zero, List.set_cons_succ]
          refine sg_fix _ rfl (fun w' hI => by go_simp; rfl) ?_; simp only [Act.put, List.setIfInBounds_toArray, List.set_cons_zero, List.set_cons_succ]
          refine sg_fix _ rfl (fun w' hI => by go_simp; rfl) ?_; simp only [Act.put, List.setIfInBounds_toArray, List.set_cons_zero, List.set_cons_succ]
          refine sg_fix _ rfl (fun w' hI => by go_simp; rfl) ?_; simp only [Act.put, List.setIfInBounds_toArray, List.set_cons_zero, List.set_cons_succ]
          refine sg_fix _ rfl (fun w' hI => run_ld 108 _ rfl b2 _ rfl [.int .i64 v.fKind, .int .i64 v.fPackage, .int .i64 v.fAt, .int .i64 v.fSub, .int .i64 v.fCode, .int .i64 v.fNode] (k1_ w' hI) _ Try.underlying108 infoQEqFS108) ?_
          simp only [Act.put, List.setIfInBounds_toArray, List.set_cons_zero, List.set_cons_succ]
          refine sg_fix (.bool (!(deq u v))) rfl (fun w' hI => by go_simp; exact neqEqFS_TUnitError u v w') ?_
          simp only [Act.put, List.setIfInBounds_toArray, List.set_cons_zero, List.set_cons_succ]
          refine sg_nil (rg_end (by kernel_rfl) ?_)
          rw [deq_ne Hq.out]; simp only [Bool.not_false]
          replace hV := hV.trans (hI0.mono hV.size)
          have e := Hs.out
          rw [Hd.out, Hd'.out, deq_ne (fun q => Hq.out (List.cons.inj q).1)] at e
          have Hf := Lib.hid e
          clear e
          go_wp2
          go_ret
          exact ⟨ret_bool Hf.out, hV⟩
      · skip
        obtain rfl : n = l.length := by omega
        go_wp2
        go_ret
        refine ⟨ret_bool ?_, hV⟩
        rw [← Hs.out, List.drop_length, List.drop_eq_nil_of_le (by omega)]
        exact (deq_eq rfl).symm
  · skip
    have bhl : (l.length != m.length) = true := by simpa using hl
    have bihl : ((l.length : Int) != (m.length : Int)) = true := by simp; omega
    have Hl0 := Lib.hid hl
    clear hl
    go_enter Try.func48, Try.ntmps48
    go_wp2
    go_ret
    exact ⟨ret_bool (deq_ne (fun q => Hl0.out (congrArg List.length q))).symm, Below.refl _ _⟩
set_option maxRecDepth 100000 in
set_option maxHeartbeats 10000000 in
theorem specEqualBuild_c (x y : TBuild) : ∀ (w : World) (K : Nat → Prop) (_ : ∀ b, K b → b < w.heap.size) (cs ds : List Value) (_ : Rep w K x.enc cs) (_ : Rep w K y.enc ds),
    Calls Try.prog 13 #[.agg cs.toArray, .agg ds.toArray] w fun e w' => e = .returned (.bool (deq x y)) ∧ Below w.heap.size w w' := by
  intro w K hK cs ds h k
  obtain ⟨c0, rfl, hPackages⟩ := TBuild.opn h
  obtain ⟨d0, rfl, kPackages⟩ := TBuild.opn k
  clear h k
  obtain ⟨aPackages, capPackages, rfl, hcPackages, hmPackages, -, hEPackages⟩ := open_sl TBuiltPackage.width hPackages
  obtain ⟨aPackages', capPackages', rfl, hcPackages', hmPackages', -, hEPackages'⟩ := open_sl TBuiltPackage.width kPackages
  unfold maxLen at hmPackages hmPackages'
  have hV : Below w.heap.size w ((w.alloc (.cells #[.slice aPackages x.fPackages.length capPackages] 41)).alloc (.cells #[.slice aPackages' y.fPackages.length capPackages'] 41)) := ((Below.refl _ _).alloc (Nat.le_refl _) _).alloc (by simp) _
  have hZ : w.heap.size + 1 < ((w.alloc (.cells #[.slice aPackages x.fPackages.length capPackages] 41)).alloc (.cells #[.slice aPackages' y.fPackages.length capPackages'] 41)).heap.size := by simp
  have HA := Lib.hid (show ((w.alloc (.cells #[.slice aPackages x.fPackages.length capPackages] 41)).alloc (.cells #[.slice aPackages' y.fPackages.length capPackages'] 41)).heap[w.heap.size]? = some (.cells #[.slice aPackages x.fPackages.length capPackages] 41 (0, 0)) from alloc_lt (by simp) (alloc_at rfl))
  have HB := Lib.hid (show ((w.alloc (.cells #[.slice aPackages x.fPackages.length capPackages] 41)).alloc (.cells #[.slice aPackages' y.fPackages.length capPackages'] 41)).heap[w.heap.size + 1]? = some (.cells #[.slice aPackages' y.fPackages.length capPackages'] 41 (0, 0)) from alloc_at (by simp))
  go_enter Try.func13, Try.ntmps13
  by_cases e1 : x.fPackages.length = y.fPackages.length
  · skip
    have be1 : (x.fPackages.length != y.fPackages.length) = false := by simp [e1]
    have bie1 : ((x.fPackages.length : Int) != (y.fPackages.length : Int)) = false := by simp [e1]
    have hae1 : x.fPackages.length ≤ y.fPackages.length := by omega
    have hbe1 : y.fPackages.length ≤ x.fPackages.length := by omega
    have Ee1 := Lib.hid e1
    clear e1
    go_wp2
    have Hg : Hid (deq (x.fPackages.drop 0) (y.fPackages.drop 0) = deq x.fPackages y.fPackages) := rfl
    go_loopw [5] (fun i wr => ∃ (n : Nat), n ≤ x.fPackages.length ∧ i = .int .i64 n ∧ Hid (deq (x.fPackages.drop n) (y.fPackages.drop n) = deq x.fPackages y.fPackages) ∧ Below w.heap.size w wr ∧ w.heap.size + 1 < wr.heap.size ∧ Hid (wr.heap[w.heap.size]? = some (.cells #[.slice aPackages x.fPackages.length capPackages] 41 (0, 0))) ∧ Hid (wr.heap[w.heap.size + 1]? = some (.cells #[.slice aPackages' y.fPackages.length capPackages'] 41 (0, 0)))) (fun i _ => x.fPackages.length - (intOf i).toNat)
    case atStart => exact ⟨0, Nat.zero_le _, rfl, Hg, hV, hZ, HA, HB⟩
    case round =>
      clear Hg hV hZ HA HB
      obtain ⟨n, hn, rfl, Hs, hV, hZ, HA, HB⟩ := hrel
      have cA := row_cell HA.out
      have cB := row_cell HB.out
      by_cases hlt : n < x.fPackages.length
      · skip
        have hlt' : n < y.fPackages.length := by omega
        obtain ⟨b1, off1, hav, hKb, cs, hcs, hr⟩ := hEPackages n hlt
        obtain ⟨b2, off2, hav', hKb', cs', hcs', hr'⟩ := hEPackages' n hlt'
        subst hav hav'
        have gcs := hcs.ext hV (hK b1 hKb)
        have gcs' := hcs'.ext hV (hK b2 hKb')
        have gr := Rep.ext hV hK hr
        have gr' := Rep.ext hV hK hr'
        have hK' : ∀ b, K b → b < wr.heap.size := fun b h => Nat.lt_of_lt_of_le (hK b h) hV.size
        have hmem : x.fPackages[n] ∈ x.fPackages := List.getElem_mem hlt
        have Hd : Hid (x.fPackages.drop n = x.fPackages[n] :: x.fPackages.drop (n + 1)) := List.drop_eq_getElem_cons hlt
        have Hd' : Hid (y.fPackages.drop n = y.fPackages[n] :: y.fPackages.drop (n + 1)) := List.drop_eq_getElem_cons hlt'
        clear hcs hcs' hr hr'
        generalize x.fPackages[n] = u at *
        generalize y.fPackages[n] = v at *
        have ho := Lib.hid (Rep.one _ _ gr)
        have ho' := Lib.hid (Rep.one _ _ gr')
        obtain ⟨p2, p3, rfl, -, -, rhUnits, rhErrors⟩ := TBuiltPackage.opn gr
        obtain ⟨q2, q3, rfl, -, -, skUnits, skErrors⟩ := TBuiltPackage.opn gr'
        have ha1 := Lib.hid (show ((#[.string ⟨#[]⟩, .string ⟨#[]⟩, .slice none 0 0, .slice none 0 0] : Array Value).toList.take 0 ++ ([.string u.fName, .string u.fKey, p2, p3] : List Value) ++ (#[.string ⟨#[]⟩, .string ⟨#[]⟩, .slice none 0 0, .slice none 0 0] : Array Value).toList.drop (0 + ([.string u.fName, .string u.fKey, p2, p3] : List Value).length)).toArray = #[.string u.fName, .string u.fKey, p2, p3] from rfl)
        have hf1 := Lib.hid (show 0 + ([.string u.fName, .string u.fKey, p2, p3] : List Value).length ≤ (#[.string ⟨#[]⟩, .string ⟨#[]⟩, .slice none 0 0, .slice none 0 0] : Array Value).size from (by decide : 0 + 4 ≤ 4))
        have hi1 := Lib.hid (show (Try.prog.info? 102).map (·.size) = some ([.string u.fName, .string u.fKey, p2, p3] : List Value).length from infoQEqFS102)
        go_wp2_with (first | (with_reducible refine ld rfl 102 _ rfl b1 _ rfl [.string u.fName, .string u.fKey, p2, p3] gcs _ Try.underlying102 hi1.out ?_) | (with_reducible refine stR rfl 102 _ _ rfl (wr.heap.size) 0 rfl [.string u.fName, .string u.fKey, p2, p3] rfl hi1.out ho.out (#[.string ⟨#[]⟩, .string ⟨#[]⟩, .slice none 0 0, .slice none 0 0] : Array Value) #[.string u.fName, .string u.fKey, p2, p3] 102 (alloc_at rfl) hf1.out ha1.out ?_))
        intro w1 hp1
        have hB1 := hp1.below ((Below.refl _ _).alloc (Nat.le_refl _) _) (Nat.le_refl _)
        have lw1 : wr.heap.size < w1.heap.size := by rw [hp1.size]; simp
        have HX := Lib.hid hp1.row
        have gcs2 := gcs'.ext hB1 (hK' b2 hKb')
        replace HA := Lib.hid ((hB1.block (w.heap.size) (by have := hZ; omega)).trans HA.out)
        replace HB := Lib.hid ((hB1.block (w.heap.size + 1) (by have := hZ; omega)).trans HB.out)
        replace hZ := Nat.lt_of_lt_of_le hZ hB1.size
        replace hV := hV.trans (hB1.mono hV.size)
        clear cA cB
        have cA := row_cell HA.out
        have cB := row_cell HB.out
        have ha2 := Lib.hid (show ((#[.string ⟨#[]⟩, .string ⟨#[]⟩, .slice none 0 0, .slice none 0 0] : Array Value).toList.take 0 ++ ([.string v.fName, .string v.fKey, q2, q3] : List Value) ++ (#[.string ⟨#[]⟩, .string ⟨#[]⟩, .slice none 0 0, .slice none 0 0] : Array Value).toList.drop (0 + ([.string v.fName, .string v.fKey, q2, q3] : List Value).length)).toArray = #[.string v.fName, .string v.fKey, q2, q3] from rfl)
        have hf2 := Lib.hid (show 0 + ([.string v.fName, .string v.fKey, q2, q3] : List Value).length ≤ (#[.string ⟨#[]⟩, .string ⟨#[]⟩, .slice none 0 0, .slice none 0 0] : Array Value).size from (by decide : 0 + 4 ≤ 4))
        have hi2 := Lib.hid (show (Try.prog.info? 102).map (·.size) = some ([.string v.fName, .string v.fKey, q2, q3] : List Value).length from infoQEqFS102)
        go_wp2_with (first | (with_reducible refine ld rfl 102 _ rfl b2 _ rfl [.string v.fName, .string v.fKey, q2, q3] gcs2 _ Try.underlying102 hi2.out ?_) | (with_reducible refine stR rfl 102 _ _ rfl (w1.heap.size) 0 rfl [.string v.fName, .string v.fKey, q2, q3] rfl hi2.out ho'.out (#[.string ⟨#[]⟩, .string ⟨#[]⟩, .slice none 0 0, .slice none 0 0] : Array Value) #[.string v.fName, .string v.fKey, q2, q3] 102 (alloc_at rfl) hf2.out ha2.out ?_))
        intro w2 hp2
        have hB2 := hp2.below ((Below.refl _ _).alloc (Nat.le_refl _) _) (Nat.le_refl _)
        have lw2 : w1.heap.size < w2.heap.size := by rw [hp2.size]; simp
        have HY := Lib.hid hp2.row
        replace HX := Lib.hid ((hB2.block _ lw1).trans HX.out)
        have lx : wr.heap.size < w2.heap.size := Nat.lt_of_lt_of_le lw1 hB2.size
        have ly : w1.heap.size < w2.heap.size := lw2
        replace HA := Lib.hid ((hB2.block (w.heap.size) (by have := hZ; omega)).trans HA.out)
        replace HB := Lib.hid ((hB2.block (w.heap.size + 1) (by have := hZ; omega)).trans HB.out)
        replace hZ := Nat.lt_of_lt_of_le hZ hB2.size
        replace hV := hV.trans (hB2.mono hV.size)
        clear cA cB
        have cA := row_cell HA.out
        have cB := row_cell HB.out
        have hI := hB1.trans (hB2.mono hB1.size)
        have cX := row_cell HX.out
        have cY := row_cell HY.out
        by_cases e2 : u.fName = v.fName
        · skip
          have be2 : (!u.fName.toList == v.fName.toList) = false := by simp [e2]
          have bbe2 : (u.fName.toList == v.fName.toList) = true := by simp [e2]
          have Ee2 := Lib.hid e2
          clear e2
          by_cases e3 : u.fKey = v.fKey
          · skip
            have be3 : (!u.fKey.toList == v.fKey.toList) = false := by simp [e3]
            have bbe3 : (u.fKey.toList == v.fKey.toList) = true := by simp [e3]
            have Ee3 := Lib.hid e3
            clear e3
            go_wp2_with fail
            refine (specEqualUnits_c u.fUnits v.fUnits _ K (fun b hb => Nat.lt_of_lt_of_le (hK b hb) hV.size) _ _ (Rep.ext hI hK' rhUnits) (Rep.ext hI hK' skUnits)).mono ?_
            rintro e w3 ⟨rfl, hB3⟩
            replace HX := Lib.hid ((hB3.block _ lx).trans HX.out)
            replace HY := Lib.hid ((hB3.block _ ly).trans HY.out)
            replace lx := Nat.lt_of_lt_of_le lx hB3.size
            replace ly := Nat.lt_of_lt_of_le ly hB3.size
            replace hI := hI.trans (hB3.mono hI.size)
            clear cX cY
            have cX := row_cell HX.out
            have cY := row_cell HY.out
            replace HA := Lib.hid ((hB3.block (w.heap.size) (by have := hZ; omega)).trans HA.out)
            replace HB := Lib.hid ((hB3.block (w.heap.size + 1) (by have := hZ; omega)).trans HB.out)
            replace hZ := Nat.lt_of_lt_of_le hZ hB3.size
            replace hV := hV.trans (hB3.mono hV.size)
            clear cA cB
            have cA := row_cell HA.out
            have cB := row_cell HB.out
            by_cases e4 : u.fUnits = v.fUnits
            · skip
              rw [deq_eq e4]
              have Ee4 := Lib.hid e4
              clear e4
              go_wp2_with fail
              refine (specl44Bads_c u.fErrors v.fErrors _ K (fun b hb => Nat.lt_of_lt_of_le (hK b hb) hV.size) _ _ (Rep.ext hI hK' rhErrors) (Rep.ext hI hK' skErrors)).mono ?_
              rintro e w4 ⟨rfl, hB4⟩
              replace HX := Lib.hid ((hB4.block _ lx).trans HX.out)
              replace HY := Lib.hid ((hB4.block _ ly).trans HY.out)
              replace lx := Nat.lt_of_lt_of_le lx hB4.size
              replace ly := Nat.lt_of_lt_of_le ly hB4.size
              replace hI := hI.trans (hB4.mono hI.size)
              clear cX cY
              have cX := row_cell HX.out
              have cY := row_cell HY.out
              replace HA := Lib.hid ((hB4.block (w.heap.size) (by have := hZ; omega)).trans HA.out)
              replace HB := Lib.hid ((hB4.block (w.heap.size + 1) (by have := hZ; omega)).trans HB.out)
              replace hZ := Nat.lt_of_lt_of_le hZ hB4.size
              replace hV := hV.trans (hB4.mono hV.size)
              clear cA cB
              have cA := row_cell HA.out
              have cB := row_cell HB.out
              by_cases e5 : u.fErrors = v.fErrors
              · skip
                rw [deq_eq e5]
                have Ee5 := Lib.hid e5
                clear e5
                have Hq : Hid (u = v) := TBuiltPackage.ext Ee2.out Ee3.out Ee4.out Ee5.out
                go_wp2
                go_roundw
                case rel =>
                  refine ⟨n + 1, hlt, by go_num, ?_, hV, hZ, HA, HB⟩
                  have e := Hs.out
                  rw [Hd.out, Hd'.out, Hq.out, deq_cons] at e
                  exact e
                case measure => simp [intOf]; omega
              · skip
                rw [deq_ne e5]
                have Ee5 := Lib.hid e5
                clear e5
                have Hq : Hid (¬ u = v) := fun q => Ee5.out (congrArg (·.fErrors) q)
                have e := Hs.out
                rw [Hd.out, Hd'.out, deq_ne (fun q => Hq.out (List.cons.inj q).1)] at e
                have Hf := Lib.hid e
                clear e
                go_wp2
                go_ret
                refine ⟨ret_bool ?_, hV⟩
                rw [deq_ne (fun q => ?_)]
                have := Hf.out
                rw [q, deq_eq rfl] at this
                cases this
            · skip
              rw [deq_ne e4]
              have Ee4 := Lib.hid e4
              clear e4
              have Hq : Hid (¬ u = v) := fun q => Ee4.out (congrArg (·.fUnits) q)
              have e := Hs.out
              rw [Hd.out, Hd'.out, deq_ne (fun q => Hq.out (List.cons.inj q).1)] at e
              have Hf := Lib.hid e
              clear e
              go_wp2
              go_ret
              refine ⟨ret_bool ?_, hV⟩
              rw [deq_ne (fun q => ?_)]
              have := Hf.out
              rw [q, deq_eq rfl] at this
              cases this
          · skip
            have be3 : (!u.fKey.toList == v.fKey.toList) = true := by simpa using fun q => e3 (ba_ext q)
            have bbe3 : (u.fKey.toList == v.fKey.toList) = false := by simpa using fun q => e3 (ba_ext q)
            have Ee3 := Lib.hid e3
            clear e3
            have Hq : Hid (¬ u = v) := fun q => Ee3.out (congrArg (·.fKey) q)
            have e := Hs.out
            rw [Hd.out, Hd'.out, deq_ne (fun q => Hq.out (List.cons.inj q).1)] at e
            have Hf := Lib.hid e
            clear e
            go_wp2
            go_ret
            refine ⟨ret_bool ?_, hV⟩
            rw [deq_ne (fun q => ?_)]
            have := Hf.out
            rw [q, deq_eq rfl] at this
            cases this
        · skip
          have be2 : (!u.fName.toList == v.fName.toList) = true := by simpa using fun q => e2 (ba_ext q)
          have bbe2 : (u.fName.toList == v.fName.toList) = false := by simpa using fun q => e2 (ba_ext q)
          have Ee2 := Lib.hid e2
          clear e2
          have Hq : Hid (¬ u = v) := fun q => Ee2.out (congrArg (·.fName) q)
          have e := Hs.out
          rw [Hd.out, Hd'.out, deq_ne (fun q => Hq.out (List.cons.inj q).1)] at e
          have Hf := Lib.hid e
          clear e
          go_wp2
          go_ret
          refine ⟨ret_bool ?_, hV⟩
          rw [deq_ne (fun q => ?_)]
          have := Hf.out
          rw [q, deq_eq rfl] at this
          cases this
      · skip
        obtain rfl : n = x.fPackages.length := by omega
        have e6 : x.fPackages = y.fPackages := by
          have e := Hs.out
          rw [List.drop_length, List.drop_eq_nil_of_le (by omega), deq_eq rfl] at e
          exact of_deq e.symm
        have Ee6 := Lib.hid e6
        clear e6
        clear hlt Hs hn
        go_wp2
        go_ret
        exact ⟨ret_bool (deq_eq (TBuild.ext Ee6.out)).symm, hV⟩
  · skip
    have be1 : (x.fPackages.length != y.fPackages.length) = true := by simpa using e1
    have bie1 : ((x.fPackages.length : Int) != (y.fPackages.length : Int)) = true := by simp; omega
    have Ee1 := Lib.hid e1
    clear e1
    go_wp2
    go_ret
    exact ⟨ret_bool (deq_ne (fun q => (fun q => Ee1.out (congrArg List.length q)) (congrArg (·.fPackages) q))).symm, hV⟩
end Go.Proofs.Ytnlmldgbhdcpbaa
