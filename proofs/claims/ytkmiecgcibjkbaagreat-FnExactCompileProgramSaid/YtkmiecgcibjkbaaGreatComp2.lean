/- Compiling a body: the spec's functions, each walked once. Condition: sizes. -/
import Derived.Test.YtkmiecgcibjkbaaGreatComp1
namespace Go.Proofs.YtkmiecgcibjkbaaGreat
open Go.RowKit
theorem zinfoI : (Tryz.prog.info? 173).map (fun i => (i.zero, i.size, i.bytes)) = some (some (.agg #[.int .i64 0, .int .i64 0, .int .i64 0, .string ⟨#[]⟩, .string ⟨#[]⟩]), 5, 56) := by kernel_rfl
theorem zsizeI : (Value.agg #[.int .i64 0, .int .i64 0, .int .i64 0, .string ⟨#[]⟩, .string ⟨#[]⟩]).cells.size = 5 := rfl
theorem zinfoN : (Tryz.prog.info? 9).map (fun i => (i.zero, i.size, i.bytes)) = some (some (.string ⟨#[]⟩), 1, 16) := by kernel_rfl
theorem isoN : ((Tryz.prog.info? 9).map (·.size)).isSome = true := by kernel_rfl
theorem zsizeN : (Value.string ⟨#[]⟩).cells.size = 1 := rfl
theorem zinfoZ : (Tryz.prog.info? 3).map (fun i => (i.zero, i.size, i.bytes)) = some (some (.int .i64 0), 1, 8) := by kernel_rfl
theorem zsizeZ : (Value.int .i64 0).cells.size = 1 := rfl
theorem infoLI : (Tryz.prog.info? 79).map (·.size) = some 1 := by kernel_rfl
theorem infoLS : (Tryz.prog.info? 48).map (·.size) = some 1 := by kernel_rfl
theorem infoI5 : (Tryz.prog.info? 173).map (·.size) = some 5 := by kernel_rfl
theorem infoB1 : (Tryz.prog.info? 4).map (·.size) = some 1 := by kernel_rfl
theorem infoZ1 : (Tryz.prog.info? 3).map (·.size) = some 1 := by kernel_rfl
theorem infoCo : (Tryz.prog.info? 136).map (·.size) = some 11 := by kernel_rfl
theorem infoArm : (Tryz.prog.info? 242).map (·.size) = some 13 := by kernel_rfl
/-- one body's walk: what G says -/
def WK (F T : Nat) (G : TCore → CS → CS) (x : TCore) : Prop :=
 ∀ (_ : x.sz ≤ 1048576) (s : CS) (_ : s.list.length + 1 + 4 * x.sz ≤ 1073741824) (_ : s.slots.length + (1 + x.sz) ≤ 1073741824) (w : World) (lo c : Nat) (fp : List Nat) (vl vs : Value) (_ : Ste w T 173 9 lo c fp s vl vs)
  (K : Nat → Prop) (_ : ∀ b, K b → b < lo) (cs : List Value) (_ : Rep w K x.enc cs),
  Calls Tryz.prog F #[.pointer (some ⟨c, 0, none⟩), .agg cs.toArray] w fun e w' => e = .returned (.tuple #[]) ∧ Done w w' T 173 9 lo c fp (G x s)
/-- the same behind the arguments: what the arms want -/
def WKc (F T : Nat) (G : TCore → CS → CS) (x : TCore) : Prop :=
 ∀ (_ : x.sz ≤ 1048576) (s : CS) (_ : s.list.length + 4 * szs TCoreArm.sz x.fArms ≤ 1073741824) (_ : s.slots.length + szs TCoreArm.sz x.fArms ≤ 1073741824) (w : World) (lo c : Nat) (fp : List Nat) (vl vs : Value) (_ : Ste w T 173 9 lo c fp s vl vs)
  (K : Nat → Prop) (_ : ∀ b, K b → b < lo) (cs : List Value) (_ : Rep w K x.enc cs),
  Calls Tryz.prog F #[.pointer (some ⟨c, 0, none⟩), .agg cs.toArray] w fun e w' => e = .returned (.tuple #[]) ∧ Done w w' T 173 9 lo c fp (G x s)
theorem sz0 : (⟨#[]⟩ : ByteArray).size ≤ maxLen := by decide
theorem inR_m1 : InR (-1) := ⟨by decide, by decide⟩
def encN (n : Nat) : D := encI (n : Int)
theorem szs_drop {α : Type} {f : α → Nat} {l : List α} {k : Nat} (h : k < l.length) : szs f (l.drop k) = (1 + f l[k]) + szs f (l.drop (k + 1)) := by
 rw [List.drop_eq_getElem_cons h]
 simp only [szs, szL, List.length_cons]
 omega
set_option maxRecDepth 100000 in
set_option maxHeartbeats 4000000 in
theorem specAdd_c (x : TInstr) (hO : InR x.fOp) (hA : InR x.fA) (hB : InR x.fB) (hT : x.fTrait.size ≤ maxLen) (hN : x.fName.size ≤ maxLen) (s : CS) (hl : s.list.length ≤ 1073741824) :
  ∀ (w : World) (lo c : Nat) (fp : List Nat) (vl vs : Value) (_ : Ste w 169 173 9 lo c fp s vl vs),
  Calls Tryz.prog 95 #[.pointer (some ⟨c, 0, none⟩), .agg #[.int .i64 x.fOp, .int .i64 x.fA, .int .i64 x.fB, .string x.fTrait, .string x.fName]] w fun e w' => e = .returned (.int .i64 s.list.length) ∧ Done w w' 169 173 9 lo c fp (s.add x) := by
 intro w lo c fp vl vs hS
 have hB0 : Below w.heap.size w (w.alloc (.cells #[.int .i64 x.fOp, .int .i64 x.fA, .int .i64 x.fB, .string x.fTrait, .string x.fName] 173)) := (Below.refl _ _).alloc (Nat.le_refl _) _
 have HS := Lib.hid (hS.below hB0)
 have HF := Lib.hid (Fr.below0 hB0 fp)
 have HC := Lib.hid (row_cells (cs := [.int .i64 x.fOp, .int .i64 x.fA, .int .i64 x.fB, .string x.fTrait, .string x.fName]) (show (w.alloc (.cells #[.int .i64 x.fOp, .int .i64 x.fA, .int .i64 x.fB, .string x.fTrait, .string x.fName] 173)).heap[w.heap.size]? = some (.cells #[.int .i64 x.fOp, .int .i64 x.fA, .int .i64 x.fB, .string x.fTrait, .string x.fName] 173 (0, 0)) from alloc_at rfl))
 have hp : w.heap.size < (w.alloc (.cells #[.int .i64 x.fOp, .int .i64 x.fA, .int .i64 x.fB, .string x.fTrait, .string x.fName] 173)).heap.size := by simp
 have HO := Lib.hid (TInstr.mk_own (w := w) (x := x) hO hA hB hT hN)
 clear hS hB0 hO hA hB hT hN
 go_enter Tryz.func95, Tryz.ntmps95
 go_wp2_with fail
 generalize (w.alloc (.cells #[.int .i64 x.fOp, .int .i64 x.fA, .int .i64 x.fB, .string x.fTrait, .string x.fName] 173)) = w1 at *
 generalize w.heap.size = p at *
 have hS := HS.out
 have hI0 : Below w1.heap.size w1 w1.drew := (Below.refl _ _).drew
 have gL : ∀ w', Below w1.heap.size w1 w' → w'.cell? ⟨c, 0, none⟩ = some vl := fun w' h => (hS.below h).cell.1
 have gX : ∀ w', Below w1.heap.size w1 w' → Cells w' p 0 [.int .i64 x.fOp, .int .i64 x.fA, .int .i64 x.fB, .string x.fTrait, .string x.fName] := fun w' h => HC.out.ext h hp
 refine rj 11 7 (Below w1.heap.size w1) (by kernel_rfl) rfl ?_
 refine rj_free (fuel := 7) [0, 1, 2, 3] hI0 (by kernel_rfl) rfl ?_
 simp only [pick, pD, pE]
 refine sg_fix _ rfl (fun w' hI => by go_simp; rfl) ?_
 simp only [Act.put, pA, pB, pC]
 refine sg_fix _ rfl (fun w' hI => by go_simp; rfl) ?_
 simp only [Act.put, pA, pB, pC]
 refine sg_fix _ rfl (fun w' hI => by go_simp; rfl) ?_
 simp only [Act.put, pA, pB, pC]
 refine sg_fix _ rfl (fun w' hI => by go_simp; rfl) ?_
 simp only [Act.put, pA, pB, pC]
 refine sg_nil ?_
 refine rj_seg (fuel := 5) [4, 5] hI0 (by kernel_rfl) rfl ?_
 simp only [pick, pD, pE]
 refine sg_fix _ rfl (fun w' hI => by have := gL w' hI; go_simp; rfl) ?_
 simp only [Act.put, pA, pB, pC]
 refine sg_fix _ rfl (fun w' hI => run_ld 173 (.tmp 3) rfl p 0 rfl _ (gX w' hI) _ Tryz.underlying173 infoI5) ?_
 simp only [Act.put, pA, pB, pC]
 refine sg_nil ?_
 refine rj_one (fuel := 4) 6 (by kernel_rfl) rfl (fun K0 hK0 => ?_)
 simp only [pick, pD, pE]
 refine oj_bs1 rfl 79 (.tmp 10) rfl Tryz.underlying79 zinfoI (by decide) (by decide) _ rfl [.int .i64 x.fOp, .int .i64 x.fA, .int .i64 x.fB, .string x.fTrait, .string x.fName] rfl rfl ?_
 intro w2 hB2 hC2
 have hI2 := hI0.trans (hB2.mono hI0.size)
 refine hK0 _ _ (fun _ => hI2) ?_
 simp only [Act.put, pA, pB, pC]
 have hS2 := hS.below hI2
 refine rj_one (fuel := 3) 7 (by kernel_rfl) rfl (fun K1 hK1 => ?_)
 simp only [pick, pD, pE]
 refine oj_ap (v := vl) rfl (.tmp 9) (.tmp 11) 79 rfl _ 56 Tryz.underlying79 zinfoI zsizeI (by decide) rfl hS2.gl w1.drew.heap.size rfl (TInstr.width x) hC2 HO.out (by unfold maxLen; simp; omega) (by simp; omega) hS2.lo ?_
 intro vl' w3 hG3 hk3 ho3
 refine hK1 _ _ (jw_done (by kernel_rfl)) ?_
 simp only [Act.put, pA, pB, pC]
 refine rj_free' (fuel := 1) [8, 9] (by kernel_rfl) rfl ?_
 simp only [pick, pD, pE]
 refine sg_fix _ rfl (fun w' hI => by go_simp; rfl) ?_
 simp only [Act.put, pA, pB, pC]
 refine sg_fix _ rfl (fun w' hI => by go_simp; rfl) ?_
 simp only [Act.put, pA, pB, pC]
 refine sg_nil ?_
 refine rj_one (fuel := 0) 10 (by kernel_rfl) rfl (fun K2 hK2 => ?_)
 simp only [pick, pD, pE]
 have hR3 : w3.heap[c]? = some (.cells #[vl, vs, .bool s.bad] 169 (0, 0)) := (hk3.other c hS2.lt (fun q => (hS2.hl c (by simpa using q)).2 rfl)).trans hS2.row
 refine oj_st rfl 79 (.tmp 14) (.tmp 12) rfl c 0 rfl _ rfl infoLI hG3.one _ _ hR3 (by simp) ?_
 intro w4 hp4
 refine hK2 _ _ (jw_done (by kernel_rfl)) (rj_end (by kernel_rfl) ?_)
 simp only [Act.put]
 obtain ⟨fp4, hS4, hF4⟩ := hS2.setL (l' := s.list ++ [x]) hk3 (by simpa using hG3) (ho3.imp id (fun q => ⟨_, q, Nat.le_refl _⟩)) hp4
 have hF := HF.out.trans ((Fr.below0 hI2 fp).trans hF4)
 obtain ⟨a5, cap5, rfl⟩ := gl_slice hS4.gl
 have g0 := hS4.cell.1
 go_wp2
 go_ret
 exact ⟨ret_int (by simp), fp4, _, _, hS4, hF⟩
def CPspec (N : Nat) : Prop := ∀ x : TCore, SizeOf.sizeOf x < N → WK 94 169 (sC N) x
set_option maxRecDepth 100000 in
set_option maxHeartbeats 4000000 in
theorem specArgs_c (N : Nat) (ih : CPspec N) (l : List TCore) (hx : ∀ y ∈ l, SizeOf.sizeOf y < N) (hz : szs TCore.sz l ≤ 1048576) (s : CS) (hl : s.list.length + 4 * szs TCore.sz l ≤ 1073741824) (hs : s.slots.length + szs TCore.sz l ≤ 1073741824) :
  ∀ (w : World) (lo c : Nat) (fp : List Nat) (vl vs : Value) (_ : Ste w 169 173 9 lo c fp s vl vs) (K : Nat → Prop) (_ : ∀ b, K b → b < lo) (v : Value) (_ : Rep w K (.sl (l.map TCore.enc)) [v]),
  Calls Tryz.prog 155 #[.pointer (some ⟨c, 0, none⟩), v] w fun e w' => e = .returned (.tuple #[]) ∧ Done w w' 169 173 9 lo c fp (cArgs (sC N) l s) := by
 intro w lo c fp vl vs hS K hK v h
 have hlen : l.length ≤ 1048576 := by unfold szs at hz; omega
 have Hz := Lib.hid hz; clear hz
 have Hx := Lib.hid hx; clear hx
 obtain ⟨a, cap, rfl, hc, hm, -, hE⟩ := open_sl TCore.width h
 unfold maxLen at hm
 clear h
 have hHb := hS.hb
 have hHl := hS.lo
 have HS := Lib.hid hS; clear hS
 go_enter Tryz.func155, Tryz.ntmps155
 go_wp2
 go_loopw [4] (fun i wr => ∃ (n : Nat) (s' : CS) (fp' : List Nat) (vl' vs' : Value), n ≤ l.length ∧ i = .int .i64 n ∧ Hid (cArgs (sC N) (l.drop n) s' = cArgs (sC N) l s) ∧ Hid (Ste wr 169 173 9 lo c fp' s' vl' vs') ∧ Hid (Fr w wr fp fp') ∧ s'.list.length + 4 * szs TCore.sz (l.drop n) ≤ 1073741824 ∧ s'.slots.length + szs TCore.sz (l.drop n) ≤ 1073741824) (fun i _ => l.length - (intOf i).toNat)
 case atStart => exact ⟨0, s, fp, _, _, Nat.zero_le _, rfl, Lib.hid rfl, HS, Lib.hid (Fr.refl _ _), by simpa using hl, by simpa using hs⟩
 case round =>
  clear HS hl hs
  obtain ⟨n, s', fp', vl', vs', hn, rfl, HE, HS, HF, hl, hs⟩ := hrel
  by_cases hlt : n < l.length
  ·obtain ⟨b, off, rfl, hKb, cs, hcs, hr⟩ := hE n hlt
   have hB := HF.out.below hHb hHl
   have hr' := Rep.ext hB hK hr
   have hcs' := hcs.ext hB (hK b hKb)
   have hl0 := (Rep.length _ _ hr').trans (TCore.width _)
   have Hl0 := Lib.hid hl0
   have hi : (Tryz.prog.info? 136).map (·.size) = some cs.length := by rw [hl0]; exact infoCo
   have hone0 := Rep.one _ _ hr'
   have hmem : l[n] ∈ l := List.getElem_mem hlt
   have Hb := Lib.hid (show TCore.sz l[n] ≤ 1048576 from (by have := szL_le TCore.sz hmem; have := Hz.out; unfold szs at this; omega))
   have Hn := Lib.hid (Hx.out _ hmem)
   rw [szs_drop hlt] at hl hs
   have HQ := Lib.hid (show ∀ t, cArgs (sC N) (l.drop n) t = cArgs (sC N) (l.drop (n + 1)) (sC N l[n] t) from fun t => by rw [List.drop_eq_getElem_cons hlt, cArgs_cons])
   have hbd := bd_sC N l[n] s'
   clear hmem hl0 hE hcs hr
   generalize l[n] = x at *
   have Hbd := Lib.hid hbd; clear hbd
   go_wp2_with (with_reducible refine ld rfl 136 _ rfl b _ rfl cs hcs' _ Tryz.underlying136 hi ?_)
   refine (ih x Hn.out Hb.out s' (by omega) (by omega) _ lo c fp' vl' vs' HS.out K hK _ hr').mono ?_
   rintro e w1 ⟨rfl, fp1, vl1, vs1, hS1, hF1⟩
   have HS1 := Lib.hid hS1; have HF1 := Lib.hid (HF.out.trans hF1); clear hS1 hF1
   go_wp2
   go_roundw
   case rel => exact ⟨n + 1, _, fp1, vl1, vs1, hlt, by go_num, Lib.hid ((HQ.out _).symm.trans HE.out), HS1, HF1, by have := Hbd.out; omega, by have := Hbd.out; omega⟩
   case measure => simp [intOf]; omega
  ·obtain rfl : n = l.length := by omega
   have hE0 := HE.out
   rw [List.drop_length, cArgs_nil] at hE0
   subst hE0
   go_wp2
   first | go_end0 | ((try simp only [Exit.inBlock, Exit.then]); refine bodyPost_ret (results_none rfl _ _ _) rfl ?_)
   exact ⟨rfl, fp', vl', vs', HS.out, HF.out⟩
noncomputable def slotS (n : ByteArray) (s : CS) : CS := match slotOf s.slots n s.slots.length with
 | some _ => s
 | none => s.fail
noncomputable def slotN (n : ByteArray) (s : CS) : Nat := (slotOf s.slots n s.slots.length).getD 0
theorem slot_hit {n : ByteArray} {s : CS} {k : Nat} (h : slotOf s.slots n s.slots.length = some k) : slotS n s = s ∧ slotN n s = k := by
 unfold slotS slotN
 rw [h]
 exact ⟨rfl, rfl⟩
theorem slot_none {n : ByteArray} {s : CS} (h : slotOf s.slots n s.slots.length = none) : slotS n s = s.fail ∧ slotN n s = 0 := by
 unfold slotS slotN
 rw [h]
 exact ⟨rfl, rfl⟩
theorem sVar_eq (n : ByteArray) (s : CS) : sVar n s = (slotS n s).add (instr 3 (slotN n s) 0 ⟨#[]⟩ ⟨#[]⟩) := by
 unfold sVar
 cases h : slotOf s.slots n s.slots.length with
 | none => rw [(slot_none h).1, (slot_none h).2]; rfl
 | some k => rw [(slot_hit h).1, (slot_hit h).2]
theorem slotN_le (n : ByteArray) (s : CS) : slotN n s ≤ s.slots.length := by
 cases h : slotOf s.slots n s.slots.length with
 | none => rw [(slot_none h).2]; omega
 | some k => rw [(slot_hit h).2]; exact Nat.le_of_lt (slotOf_lt _ _ h)
theorem slotS_list (n : ByteArray) (s : CS) : (slotS n s).list = s.list := by
 unfold slotS
 split <;> rfl
theorem slotS_slots (n : ByteArray) (s : CS) : (slotS n s).slots = s.slots := by
 unfold slotS
 split <;> rfl
theorem gs_at {w : World} {lo e : Nat} {l : List ByteArray} {v : Value} (h : Gr w lo e 1 (l.map encS) v []) {k : Nat} (hk : k < l.length) : ∃ g cap, v = .slice (some ⟨g, 0, none⟩) l.length cap ∧ w.cell? ⟨g, k, none⟩ = some (.string l[k]) := by
 obtain ⟨a, cap, bs, rfl, ho, -, -⟩ := h.ownT
 obtain ⟨a', cap', hv, -, -, -, hE⟩ := open_sl (K := fun _ => True) encS_w (Own.rep _ _ _ ho (fun _ _ => trivial))
 simp only [Value.slice.injEq, true_and] at hv
 obtain ⟨rfl, rfl⟩ := hv
 obtain ⟨b, off, rfl, -, cs, hcs, hr⟩ := hE k hk
 obtain ⟨xs, h1, -⟩ := h.row
 rcases h1.2 with ⟨hq, -⟩ | ⟨g, cap2, cur, hq, -⟩
 ·simp at hq
 ·simp only [Value.slice.injEq, Option.some.injEq, Addr.mk.injEq, and_true] at hq
  obtain ⟨⟨rfl, rfl⟩, -⟩ := hq
  refine ⟨b, cap, rfl, ?_⟩
  simp only [encS, Rep] at hr
  rw [hr.1] at hcs
  simpa using hcs 0 _ rfl
set_option maxRecDepth 100000 in
set_option maxHeartbeats 4000000 in
theorem specSlot_c (n : ByteArray) (s : CS) (hs : s.slots.length ≤ 1073741824) :
  ∀ (w : World) (lo c : Nat) (fp : List Nat) (vl vs : Value) (_ : Ste w 169 173 9 lo c fp s vl vs),
  Calls Tryz.prog 152 #[.pointer (some ⟨c, 0, none⟩), .string n] w fun e w' => e = .returned (.int .i64 (slotN n s)) ∧ Done w w' 169 173 9 lo c fp (slotS n s) := by
 intro w lo c fp vl vs hS
 obtain ⟨a, cap, rfl⟩ := gl_slice hS.gs
 have HS := Lib.hid hS
 have g1 := hS.cell.2.1
 clear hS
 go_enter Tryz.func152, Tryz.ntmps152
 go_wp2
 go_loopw [5] (fun i wr => ∃ m : Nat, m ≤ s.slots.length ∧ i = .int .i64 ((m : Int) - 1) ∧ Hid (slotOf s.slots n s.slots.length = slotOf s.slots n m) ∧ wr = w) (fun i _ => (intOf i + 1).toNat)
 case atStart => exact ⟨s.slots.length, Nat.le_refl _, by go_num, Lib.hid rfl, rfl⟩
 case round =>
  obtain ⟨m, hm, rfl, HE, rfl⟩ := hrel
  cases m with
  | zero =>
   have HE2 := Lib.hid (slot_none (HE.out.trans rfl))
   have d0 : ¬ ((0 : Int) ≤ ((0 : Nat) : Int) - 1) := by omega
   have hS := HS.out
   have hfB := Lib.hid (show 2 < (#[vl, (.slice a s.slots.length cap), .bool s.bad] : Array Value).size from (by simp))
   have haB := Lib.hid (show ((#[vl, (.slice a s.slots.length cap), .bool s.bad] : Array Value).toList.take 2 ++ [Value.bool true] ++ (#[vl, (.slice a s.slots.length cap), .bool s.bad] : Array Value).toList.drop (2 + [Value.bool true].length)).toArray = #[vl, (.slice a s.slots.length cap), .bool true] from rfl)
   have hRB := Lib.hid hS.row
   go_wp2_with (with_reducible refine stR1 rfl 4 _ _ rfl c 2 rfl (.bool true) rfl infoB1 rfl #[vl, (.slice a s.slots.length cap), .bool s.bad] #[vl, (.slice a s.slots.length cap), .bool true] 169 hRB.out hfB.out haB.out ?_)
   intro w2 hp2
   have hR := hS.fail hp2
   go_wp2
   go_ret
   rw [HE2.out.1, HE2.out.2]
   exact ⟨ret_int (by simp), fp, _, _, hR.1, hR.2⟩
  | succ k =>
   have hk : k < s.slots.length := by omega
   have d0 : (0 : Int) ≤ ((k + 1 : Nat) : Int) - 1 := by omega
   have e0 : ((k + 1 : Nat) : Int) - 1 = (k : Int) := by omega
   obtain ⟨g, cap', hv, g2⟩ := gs_at HS.out.gs hk
   simp only [Value.slice.injEq, true_and] at hv
   obtain ⟨rfl, rfl⟩ := hv
   rw [e0] at d0 ⊢
   have hlk : s.slots[k]? = some s.slots[k] := List.getElem?_eq_getElem hk
   have hh1 := fun h => slotOf_hit (l := s.slots) (n := n) (k := k) h
   have hh2 := fun h => slotOf_miss (l := s.slots) (n := n) (k := k) h
   rw [hlk] at hh1 hh2
   have Hh1 := Lib.hid hh1; have Hh2 := Lib.hid hh2
   clear hh1 hh2 hlk e0
   generalize s.slots[k] = y at *
   by_cases hy : y = n
   ·have hE := slot_hit (HE.out.trans (Hh1.out (by rw [hy])))
    have bt : (y.toList == n.toList) = true := by simp [hy]
    have HY := Lib.hid hy
    have HE2 := Lib.hid hE
    clear Hh1 Hh2 hE hy
    go_wp2
    go_ret
    rw [HE2.out.1, HE2.out.2]
    exact ⟨rfl, fp, _, _, HS.out, Fr.refl _ _⟩
   ·have HE2 := Lib.hid (HE.out.trans (Hh2.out (by simpa using hy)))
    have bt : (y.toList == n.toList) = false := by simpa using fun q => hy (ba_ext q)
    have HY := Lib.hid hy
    clear Hh1 Hh2 HE hy
    go_wp2
    go_roundw
    case rel => exact ⟨k, by omega, by go_num, HE2, by trivial⟩
    case measure => simp [intOf] <;> omega
theorem len2' {α : Type} {l : List α} (h : l.length = 2) : ∃ a b, l = [a, b] := by
 match l, h with
 | [a, b], _ => exact ⟨a, b, rfl⟩
theorem len3' {α : Type} {l : List α} (h : l.length = 3) : ∃ a b c, l = [a, b, c] := by
 match l, h with
 | [a, b, c], _ => exact ⟨a, b, c, rfl⟩
theorem sIf_three {R : Rec} {x : TCore} {a b c : TCore} (s : CS) (h : x.fArgs = [a, b, c]) : sIf R x s = (R c (((R b ((R a s).add (opOne 11))).add (opOne 10)).patch (R a s).list.length)).patch (R b ((R a s).add (opOne 11))).list.length := by
 unfold sIf
 rw [h]
theorem sIf_other {R : Rec} {x : TCore} (s : CS) (h : ¬ x.fArgs.length = 3) : sIf R x s = s.fail := by
 unfold sIf
 split
 ·rename_i a b c he
  rw [he] at h
  exact absurd rfl h
 ·rfl
theorem inR_n (n : Nat) (h : n ≤ 4611686018427387904) : InR (n : Int) := ⟨by show -9223372036854775808 ≤ (n : Int); omega, by show (n : Int) ≤ 9223372036854775807; omega⟩
set_option maxRecDepth 100000 in
set_option maxHeartbeats 4000000 in
theorem specIf_c (N : Nat) (ih : CPspec N) (x : TCore) (hx : SizeOf.sizeOf x < N + 1) : WK 154 169 (sIf (sC N)) x := by
 unfold WK
 intro hz s hl hs w lo c fp vl vs hS K hK cs h
 obtain ⟨c4, c5, c6, c7, c8, c9, c10, rfl, hKd, hTr, hNm, hNn, -, -, -, hAr, hAm⟩ := TCore.opn h
 clear h
 have hcz := core_sz x
 have hxs := TCore.lt_fArgs x
 obtain ⟨a, cap, rfl, hcc, hm, -, hE⟩ := open_sl TCore.width hAr
 unfold maxLen at hm
 clear hAr hAm
 by_cases h3 : x.fArgs.length = 3
 ·have hQ := fun t y z => @sIf_three (sC N) x t y z s
  rw [h3]
  generalize x.fArgs = L at *
  obtain ⟨ea, eb, ec, rfl⟩ := len3' h3
  have HQ := Lib.hid (hQ ea eb ec rfl)
  clear hQ h3
  obtain ⟨b, off, rfl, hKb, csa, hca, hra⟩ := hE 0 (by simp)
  obtain ⟨b', off', hq', -, csb, hcb, hrb⟩ := hE 1 (by simp)
  simp only [Option.some.injEq, Addr.mk.injEq, and_true] at hq'
  obtain ⟨rfl, rfl⟩ := hq'
  obtain ⟨b', off', hq', -, csc, hcc, hrc⟩ := hE 2 (by simp)
  simp only [Option.some.injEq, Addr.mk.injEq, and_true] at hq'
  obtain ⟨rfl, rfl⟩ := hq'
  clear hE
  simp only [List.getElem_cons_zero] at hra
  have hia : (Tryz.prog.info? 136).map (·.size) = some csa.length := by rw [(Rep.length _ _ hra).trans (TCore.width _)]; exact infoCo
  have hma : SizeOf.sizeOf ea < N := by have := List.sizeOf_lt_of_mem (show ea ∈ [ea, eb, ec] by simp); omega
  simp only [List.getElem_cons_zero, List.getElem_cons_succ] at hrb
  have hib : (Tryz.prog.info? 136).map (·.size) = some csb.length := by rw [(Rep.length _ _ hrb).trans (TCore.width _)]; exact infoCo
  have hmb : SizeOf.sizeOf eb < N := by have := List.sizeOf_lt_of_mem (show eb ∈ [ea, eb, ec] by simp); omega
  simp only [List.getElem_cons_zero, List.getElem_cons_succ] at hrc
  have hic : (Tryz.prog.info? 136).map (·.size) = some csc.length := by rw [(Rep.length _ _ hrc).trans (TCore.width _)]; exact infoCo
  have hmc : SizeOf.sizeOf ec < N := by have := List.sizeOf_lt_of_mem (show ec ∈ [ea, eb, ec] by simp); omega
  simp only [szs, szL, List.length_cons, List.length_nil] at hcz
  have hB0 : Below w.heap.size w (w.alloc (.cells #[.int .i64 x.fKind, .string x.fTrait, .string x.fName, .int .i64 x.fN, c4, c5, c6, c7, c8, .slice (some ⟨b, off, none⟩) 3 cap, c10] 136)) := (Below.refl _ _).alloc (Nat.le_refl _) _
  have HS0 := Lib.hid (hS.below hB0)
  have HF0 := Lib.hid (Fr.below0 hB0 fp)
  have HR0 := Lib.hid (show (w.alloc (.cells #[.int .i64 x.fKind, .string x.fTrait, .string x.fName, .int .i64 x.fN, c4, c5, c6, c7, c8, .slice (some ⟨b, off, none⟩) 3 cap, c10] 136)).heap[w.heap.size]? = some (.cells #[.int .i64 x.fKind, .string x.fTrait, .string x.fName, .int .i64 x.fN, c4, c5, c6, c7, c8, .slice (some ⟨b, off, none⟩) 3 cap, c10] 136 (0, 0)) from alloc_at rfl)
  have hp : w.heap.size < (w.alloc (.cells #[.int .i64 x.fKind, .string x.fTrait, .string x.fName, .int .i64 x.fN, c4, c5, c6, c7, c8, .slice (some ⟨b, off, none⟩) 3 cap, c10] 136)).heap.size := by simp
  have hpn : w.heap.size ∉ fp := hS.notin (Nat.le_refl _)
  have hKw : ∀ b, K b → b < w.heap.size := fun b h => Nat.lt_of_lt_of_le (hK b h) hS.lo
  have hca : Cells w b (off) csa := by simpa using hca
  replace hra := Lib.hid (Rep.ext hB0 hKw hra)
  replace hca := Lib.hid (hca.ext hB0 (hKw b hKb))
  have hcb : Cells w b (off + 11) csb := by simpa using hcb
  replace hrb := Lib.hid (Rep.ext hB0 hKw hrb)
  replace hcb := Lib.hid (hcb.ext hB0 (hKw b hKb))
  have hcc : Cells w b (off + 22) csc := by simpa using hcc
  replace hrc := Lib.hid (Rep.ext hB0 hKw hrc)
  replace hcc := Lib.hid (hcc.ext hB0 (hKw b hKb))
  go_enter Tryz.func154, Tryz.ntmps154
  have hr := hra.out
  have hc := hca.out
  go_wp2_with (with_reducible refine ld rfl 136 _ rfl b _ rfl csa hc _ Tryz.underlying136 hia ?_)
  have Hb0 := Lib.hid HS0.out.hb
  have Hl0 := Lib.hid HS0.out.lo
  have HF := Lib.hid HF0.out
  clear hS hB0
  generalize (w.alloc (.cells #[.int .i64 x.fKind, .string x.fTrait, .string x.fName, .int .i64 x.fN, c4, c5, c6, c7, c8, .slice (some ⟨b, off, none⟩) 3 cap, c10] 136)) = w0 at *
  generalize w.heap.size = p at *
  replace HF0 := Lib.hid (Fr.refl w0 fp)
  clear hc
  refine (ih ea hma (by omega) s (by omega) (by omega) _ lo c _ _ _ HS0.out K hK _ hr).mono ?_
  rintro e w1 ⟨rfl, fp1, vl1, vs1, hS1, hF1⟩
  have hbd := bd_sC N ea s
  obtain ⟨s1, Hs1⟩ : ∃ t_, t_ = sC N ea s := ⟨_, rfl⟩
  rw [← Hs1] at hS1 hbd
  replace Hs1 := Lib.hid Hs1
  have HS1 := Lib.hid hS1; have HF1 := Lib.hid (HF0.out.trans hF1)
  clear hS1 hF1 hr HS0
  go_wp2_with fail
  refine (specAdd_c (opOne 11) (inR_n 11 (by decide)) (inR_n 0 (by decide)) (inR_n 0 (by decide)) (by decide) (by decide) s1 (by omega) _ lo c _ _ _ HS1.out).mono ?_
  rintro e w2 ⟨rfl, fp2, vl2, vs2, hS1, hF1⟩
  have HS2 := Lib.hid hS1; have HF2 := Lib.hid (HF1.out.trans hF1)
  clear hS1 hF1 HS1
  have g9 : w2.cell? ⟨p, 9, none⟩ = some (.slice (some ⟨b, off, none⟩) 3 cap) := row_cell (HF2.out.row HR0.out hpn) 9
  have hB := HF2.out.below Hb0.out Hl0.out
  have hr := Rep.ext hB hK hrb.out
  have hc := hcb.out.ext hB (hK b hKb)
  clear hB
  go_wp2_with (with_reducible refine ld rfl 136 _ rfl b _ rfl csb hc _ Tryz.underlying136 hib ?_)
  clear g9 hc
  refine (ih eb hmb (by omega) (s1.add (opOne 11)) (by simp only [CS.add_len]; omega) (by simp only [CS.add_slots]; omega) _ lo c _ _ _ HS2.out K hK _ hr).mono ?_
  rintro e w3 ⟨rfl, fp3, vl3, vs3, hS1, hF1⟩
  have hbd := bd_sC N eb (s1.add (opOne 11))
  obtain ⟨s3, Hs3⟩ : ∃ t_, t_ = sC N eb (s1.add (opOne 11)) := ⟨_, rfl⟩
  rw [← Hs3] at hS1 hbd
  simp only [CS.add_len] at hbd
  simp only [CS.add_slots] at hbd
  replace Hs3 := Lib.hid Hs3
  have HS3 := Lib.hid hS1; have HF3 := Lib.hid (HF2.out.trans hF1)
  clear hS1 hF1 hr HS2
  go_wp2_with fail
  refine (specAdd_c (opOne 10) (inR_n 10 (by decide)) (inR_n 0 (by decide)) (inR_n 0 (by decide)) (by decide) (by decide) s3 (by omega) _ lo c _ _ _ HS3.out).mono ?_
  rintro e w4 ⟨rfl, fp4, vl4, vs4, hS1, hF1⟩
  have HS4 := Lib.hid hS1; have HF4 := Lib.hid (HF3.out.trans hF1)
  clear hS1 hF1 HS3
  go_wp2_with fail
  have hS := HS4.out
  have hI0 : Below w4.heap.size w4 w4.drew := (Below.refl _ _).drew
  have hSd := hS.below hI0
  obtain ⟨gp, capp, curp, hvp, hgl, hgr, hgs, hgG⟩ := patch_at (P := Tryz.prog) hSd.gl (k := s1.list.length) (by simp only [CS.add_len]; omega) (n := ((s3.add (opOne 10)).list.length : Int)) (inR_n _ (by simp only [CS.add_len]; omega))
  subst hvp
  have gL : ∀ w', Below w4.heap.size w4 w' → w'.cell? ⟨c, 0, none⟩ = some (.slice (some ⟨gp, 0, none⟩) (s3.add (opOne 10)).list.length capp) := fun w' h => (hS.below h).cell.1
  have hk0 : (s1.list.length : Nat) < (s3.add (opOne 10)).list.length := by simp only [CS.add_len]; omega
  have hnn : ∃ n, n = (s3.add (opOne 10)).list.length := ⟨_, rfl⟩
  obtain ⟨n, hnn⟩ := hnn
  rw [← hnn] at hgG gL hk0
  replace hnn := Lib.hid hnn
  have hk1 : ((s1.list.length : Nat) : Int) < (n : Int) := by omega
  have hk2 : ¬ ((s1.list.length : Nat) : Int) < 0 := by omega
  refine rj 13 12 (Below w4.heap.size w4) (by kernel_rfl) rfl ?_
  refine rj_seg (fuel := 1) [0, 1, 2, 3, 4, 5, 6, 7, 8, 9, 10, 11] hI0 (by kernel_rfl) rfl ?_
  simp only [pick, pD, pE]
  refine sg_fix _ rfl (fun w' hI => by have := gL w' hI; go_simp; first | rfl | rw [if_neg (by omega)]) ?_
  simp only [Act.put, pA, pB, pC]
  refine sg_fix _ rfl (fun w' hI => by have := gL w' hI; go_simp; first | rfl | rw [if_neg (by omega)]) ?_
  simp only [Act.put, pA, pB, pC]
  refine sg_fix _ rfl (fun w' hI => by have := gL w' hI; go_simp; first | rfl | rw [if_neg (by omega)]) ?_
  simp only [Act.put, pA, pB, pC]
  refine sg_fix _ rfl (fun w' hI => by have := gL w' hI; go_simp; first | rfl | rw [if_neg (by omega)]) ?_
  simp only [Act.put, pA, pB, pC]
  refine sg_fix _ rfl (fun w' hI => by have := gL w' hI; go_simp; first | rfl | rw [if_neg (by omega)]) ?_
  simp only [Act.put, pA, pB, pC]
  refine sg_fix _ rfl (fun w' hI => by have := gL w' hI; go_simp; first | rfl | rw [if_neg (by omega)]) ?_
  simp only [Act.put, pA, pB, pC]
  refine sg_fix _ rfl (fun w' hI => by have := gL w' hI; go_simp; first | rfl | rw [if_neg (by omega)]) ?_
  simp only [Act.put, pA, pB, pC]
  refine sg_fix _ rfl (fun w' hI => by have := gL w' hI; go_simp; first | rfl | rw [if_neg (by omega)]) ?_
  simp only [Act.put, pA, pB, pC]
  refine sg_fix _ rfl (fun w' hI => by have := gL w' hI; go_simp; first | rfl | rw [if_neg (by omega)]) ?_
  simp only [Act.put, pA, pB, pC]
  refine sg_fix _ rfl (fun w' hI => by have := gL w' hI; go_simp; first | rfl | rw [if_neg (by omega)]) ?_
  simp only [Act.put, pA, pB, pC]
  refine sg_fix _ rfl (fun w' hI => by have := gL w' hI; go_simp; first | rfl | rw [if_neg (by omega)]) ?_
  simp only [Act.put, pA, pB, pC]
  refine sg_fix _ rfl (fun w' hI => by have := gL w' hI; go_simp; first | rfl | rw [if_neg (by omega)]) ?_
  simp only [Act.put, pA, pB, pC]
  refine sg_nil ?_
  refine rj_one (fuel := 0) 12 (by kernel_rfl) rfl (fun K0 hK0 => ?_)
  simp only [pick, pD, pE]
  refine oj_st rfl 3 (.tmp 42) (.tmp 40) rfl gp (s1.list.length * 5 + 1) (by go_simp) (.int .i64 n) rfl infoZ1 rfl curp _ hgr hgs ?_
  intro w5 hp1
  refine hK0 _ _ (jw_done (by kernel_rfl)) (rj_end (by kernel_rfl) ?_)
  simp only [Act.put]
  replace hnn := hnn.out
  subst hnn
  obtain ⟨hS1, hF1⟩ := hSd.patch rfl hp1 (hgG _ hp1)
  have HS5 := Lib.hid hS1; have HF5 := Lib.hid (HF4.out.trans ((Fr.below0 hI0 _).trans hF1))
  clear hS1 hF1 hp1 hgG hgs hgr hgl hSd hS hI0 gL hk0 HS4
  have g9 : w5.cell? ⟨p, 9, none⟩ = some (.slice (some ⟨b, off, none⟩) 3 cap) := row_cell (HF5.out.row HR0.out hpn) 9
  have hB := HF5.out.below Hb0.out Hl0.out
  have hr := Rep.ext hB hK hrc.out
  have hc := hcc.out.ext hB (hK b hKb)
  clear hB
  go_wp2_with (with_reducible refine ld rfl 136 _ rfl b _ rfl csc hc _ Tryz.underlying136 hic ?_)
  clear g9 hc
  refine (ih ec hmc (by omega) ((s3.add (opOne 10)).patch s1.list.length) (by simp only [CS.add_len, CS.patch_len]; omega) (by simp only [CS.add_slots, CS.patch_slots]; omega) _ lo c _ _ _ HS5.out K hK _ hr).mono ?_
  rintro e w6 ⟨rfl, fp6, vl6, vs6, hS1, hF1⟩
  have hbd := bd_sC N ec ((s3.add (opOne 10)).patch s1.list.length)
  obtain ⟨s6, Hs6⟩ : ∃ t_, t_ = sC N ec ((s3.add (opOne 10)).patch s1.list.length) := ⟨_, rfl⟩
  rw [← Hs6] at hS1 hbd
  simp only [CS.add_len, CS.patch_len] at hbd
  simp only [CS.add_slots, CS.patch_slots] at hbd
  replace Hs6 := Lib.hid Hs6
  have HS6 := Lib.hid hS1; have HF6 := Lib.hid (HF5.out.trans hF1)
  clear hS1 hF1 hr HS5
  go_wp2_with fail
  have hS := HS6.out
  have hI0 : Below w6.heap.size w6 w6.drew := (Below.refl _ _).drew
  have hSd := hS.below hI0
  obtain ⟨gp, capp, curp, hvp, hgl, hgr, hgs, hgG⟩ := patch_at (P := Tryz.prog) hSd.gl (k := s3.list.length) (by omega) (n := ((s6).list.length : Int)) (inR_n _ (by omega))
  subst hvp
  have gL : ∀ w', Below w6.heap.size w6 w' → w'.cell? ⟨c, 0, none⟩ = some (.slice (some ⟨gp, 0, none⟩) (s6).list.length capp) := fun w' h => (hS.below h).cell.1
  have hk0 : (s3.list.length : Nat) < (s6).list.length := by omega
  have hnn : ∃ n, n = (s6).list.length := ⟨_, rfl⟩
  obtain ⟨n, hnn⟩ := hnn
  rw [← hnn] at hgG gL hk0
  replace hnn := Lib.hid hnn
  have hk1 : ((s3.list.length : Nat) : Int) < (n : Int) := by omega
  have hk2 : ¬ ((s3.list.length : Nat) : Int) < 0 := by omega
  refine rj 13 12 (Below w6.heap.size w6) (by kernel_rfl) rfl ?_
  refine rj_seg (fuel := 1) [0, 1, 2, 3, 4, 5, 6, 7, 8, 9, 10, 11] hI0 (by kernel_rfl) rfl ?_
  simp only [pick, pD, pE]
  refine sg_fix _ rfl (fun w' hI => by have := gL w' hI; go_simp; first | rfl | rw [if_neg (by omega)]) ?_
  simp only [Act.put, pA, pB, pC]
  refine sg_fix _ rfl (fun w' hI => by have := gL w' hI; go_simp; first | rfl | rw [if_neg (by omega)]) ?_
  simp only [Act.put, pA, pB, pC]
  refine sg_fix _ rfl (fun w' hI => by have := gL w' hI; go_simp; first | rfl | rw [if_neg (by omega)]) ?_
  simp only [Act.put, pA, pB, pC]
  refine sg_fix _ rfl (fun w' hI => by have := gL w' hI; go_simp; first | rfl | rw [if_neg (by omega)]) ?_
  simp only [Act.put, pA, pB, pC]
  refine sg_fix _ rfl (fun w' hI => by have := gL w' hI; go_simp; first | rfl | rw [if_neg (by omega)]) ?_
  simp only [Act.put, pA, pB, pC]
  refine sg_fix _ rfl (fun w' hI => by have := gL w' hI; go_simp; first | rfl | rw [if_neg (by omega)]) ?_
  simp only [Act.put, pA, pB, pC]
  refine sg_fix _ rfl (fun w' hI => by have := gL w' hI; go_simp; first | rfl | rw [if_neg (by omega)]) ?_
  simp only [Act.put, pA, pB, pC]
  refine sg_fix _ rfl (fun w' hI => by have := gL w' hI; go_simp; first | rfl | rw [if_neg (by omega)]) ?_
  simp only [Act.put, pA, pB, pC]
  refine sg_fix _ rfl (fun w' hI => by have := gL w' hI; go_simp; first | rfl | rw [if_neg (by omega)]) ?_
  simp only [Act.put, pA, pB, pC]
  refine sg_fix _ rfl (fun w' hI => by have := gL w' hI; go_simp; first | rfl | rw [if_neg (by omega)]) ?_
  simp only [Act.put, pA, pB, pC]
  refine sg_fix _ rfl (fun w' hI => by have := gL w' hI; go_simp; first | rfl | rw [if_neg (by omega)]) ?_
  simp only [Act.put, pA, pB, pC]
  refine sg_fix _ rfl (fun w' hI => by have := gL w' hI; go_simp; first | rfl | rw [if_neg (by omega)]) ?_
  simp only [Act.put, pA, pB, pC]
  refine sg_nil ?_
  refine rj_one (fuel := 0) 12 (by kernel_rfl) rfl (fun K0 hK0 => ?_)
  simp only [pick, pD, pE]
  refine oj_st rfl 3 (.tmp 60) (.tmp 58) rfl gp (s3.list.length * 5 + 1) (by go_simp) (.int .i64 n) rfl infoZ1 rfl curp _ hgr hgs ?_
  intro w7 hp1
  refine hK0 _ _ (jw_done (by kernel_rfl)) (rj_end (by kernel_rfl) ?_)
  simp only [Act.put]
  replace hnn := hnn.out
  subst hnn
  obtain ⟨hS1, hF1⟩ := hSd.patch rfl hp1 (hgG _ hp1)
  have HS7 := Lib.hid hS1; have HF7 := Lib.hid (HF6.out.trans ((Fr.below0 hI0 _).trans hF1))
  clear hS1 hF1 hp1 hgG hgs hgr hgl hSd hS hI0 gL hk0 HS6
  go_wp2
  first | go_end0 | ((try simp only [Exit.inBlock, Exit.then]); refine bodyPost_ret (results_none rfl _ _ _) rfl ?_)
  have hD := HQ.out
  rw [← Hs1.out, ← Hs3.out, ← Hs6.out] at hD
  rw [hD]
  exact ⟨rfl, _, _, _, HS7.out, HF.out.trans HF7.out⟩
 ·rw [sIf_other s h3]
  have hne : ((x.fArgs.length : Int) != 3) = true := by simp; omega
  have hB0 : Below w.heap.size w (w.alloc (.cells #[.int .i64 x.fKind, .string x.fTrait, .string x.fName, .int .i64 x.fN, c4, c5, c6, c7, c8, .slice a x.fArgs.length cap, c10] 136)) := (Below.refl _ _).alloc (Nat.le_refl _) _
  have HS0 := Lib.hid (hS.below hB0)
  have HF0 := Lib.hid (Fr.below0 hB0 fp)
  have HR0 := Lib.hid (show (w.alloc (.cells #[.int .i64 x.fKind, .string x.fTrait, .string x.fName, .int .i64 x.fN, c4, c5, c6, c7, c8, .slice a x.fArgs.length cap, c10] 136)).heap[w.heap.size]? = some (.cells #[.int .i64 x.fKind, .string x.fTrait, .string x.fName, .int .i64 x.fN, c4, c5, c6, c7, c8, .slice a x.fArgs.length cap, c10] 136 (0, 0)) from alloc_at rfl)
  have hp : w.heap.size < (w.alloc (.cells #[.int .i64 x.fKind, .string x.fTrait, .string x.fName, .int .i64 x.fN, c4, c5, c6, c7, c8, .slice a x.fArgs.length cap, c10] 136)).heap.size := by simp
  have hpn : w.heap.size ∉ fp := hS.notin (Nat.le_refl _)
  have hKw : ∀ b, K b → b < w.heap.size := fun b h => Nat.lt_of_lt_of_le (hK b h) hS.lo
  have hfB := Lib.hid (show 2 < (#[vl, vs, .bool s.bad] : Array Value).size from (by simp))
  have haB := Lib.hid (show ((#[vl, vs, .bool s.bad] : Array Value).toList.take 2 ++ [Value.bool true] ++ (#[vl, vs, .bool s.bad] : Array Value).toList.drop (2 + [Value.bool true].length)).toArray = #[vl, vs, .bool true] from rfl)
  have hRB := Lib.hid HS0.out.row
  go_enter Tryz.func154, Tryz.ntmps154
  go_wp2_with (with_reducible refine stR1 rfl 4 _ _ rfl c 2 rfl (.bool true) rfl infoB1 rfl #[vl, vs, .bool s.bad] #[vl, vs, .bool true] 169 hRB.out hfB.out haB.out ?_)
  intro w2 hp2
  have hR := HS0.out.fail hp2
  go_wp2
  first | go_end0 | ((try simp only [Exit.inBlock, Exit.then]); refine bodyPost_ret (results_none rfl _ _ _) rfl ?_)
  exact ⟨rfl, fp, _, _, hR.1, HF0.out.trans hR.2⟩
theorem sLet_two {R : Rec} {x : TCore} {a b : TCore} (s : CS) (h : x.fArgs = [a, b]) : sLet R x s = ((R b (((R a s).add (opOne 4)).put ((R a s).slots ++ [x.fName]))).put ((R b (((R a s).add (opOne 4)).put ((R a s).slots ++ [x.fName]))).slots.take (R a s).slots.length)).add (opDrop 1) := by
 unfold sLet
 rw [h]
theorem sLet_other {R : Rec} {x : TCore} (s : CS) (h : ¬ x.fArgs.length = 2) : sLet R x s = s.fail := by
 unfold sLet
 split
 ·rename_i a b he
  rw [he] at h
  exact absurd rfl h
 ·rfl
set_option maxRecDepth 100000 in
set_option maxHeartbeats 4000000 in
theorem specLet_c (N : Nat) (ih : CPspec N) (x : TCore) (hx : SizeOf.sizeOf x < N + 1) : WK 153 169 (sLet (sC N)) x := by
 unfold WK
 intro hz s hl hs w lo c fp vl vs hS K hK cs h
 obtain ⟨c4, c5, c6, c7, c8, c9, c10, rfl, hKd, hTr, hNm, hNn, -, -, -, hAr, hAm⟩ := TCore.opn h
 clear h
 have hcz := core_sz x
 have hxs := TCore.lt_fArgs x
 obtain ⟨a, cap, rfl, hcc, hm, -, hE⟩ := open_sl TCore.width hAr
 unfold maxLen at hm
 clear hAr hAm
 by_cases h3 : x.fArgs.length = 2
 ·have hQ := fun t y => @sLet_two (sC N) x t y s
  rw [h3]
  generalize x.fArgs = L at *
  obtain ⟨ea, eb, rfl⟩ := len2' h3
  have HQ := Lib.hid (hQ ea eb rfl)
  clear hQ h3
  obtain ⟨b, off, rfl, hKb, csa, hca, hra⟩ := hE 0 (by simp)
  obtain ⟨b', off', hq', -, csb, hcb, hrb⟩ := hE 1 (by simp)
  simp only [Option.some.injEq, Addr.mk.injEq, and_true] at hq'
  obtain ⟨rfl, rfl⟩ := hq'
  clear hE
  simp only [List.getElem_cons_zero] at hra
  have hia : (Tryz.prog.info? 136).map (·.size) = some csa.length := by rw [(Rep.length _ _ hra).trans (TCore.width _)]; exact infoCo
  have hma : SizeOf.sizeOf ea < N := by have := List.sizeOf_lt_of_mem (show ea ∈ [ea, eb] by simp); omega
  simp only [List.getElem_cons_zero, List.getElem_cons_succ] at hrb
  have hib : (Tryz.prog.info? 136).map (·.size) = some csb.length := by rw [(Rep.length _ _ hrb).trans (TCore.width _)]; exact infoCo
  have hmb : SizeOf.sizeOf eb < N := by have := List.sizeOf_lt_of_mem (show eb ∈ [ea, eb] by simp); omega
  simp only [szs, szL, List.length_cons, List.length_nil] at hcz
  have hB0 : Below w.heap.size w (w.alloc (.cells #[.int .i64 x.fKind, .string x.fTrait, .string x.fName, .int .i64 x.fN, c4, c5, c6, c7, c8, .slice (some ⟨b, off, none⟩) 2 cap, c10] 136)) := (Below.refl _ _).alloc (Nat.le_refl _) _
  have HS0 := Lib.hid (hS.below hB0)
  have HF0 := Lib.hid (Fr.below0 hB0 fp)
  have HR0 := Lib.hid (show (w.alloc (.cells #[.int .i64 x.fKind, .string x.fTrait, .string x.fName, .int .i64 x.fN, c4, c5, c6, c7, c8, .slice (some ⟨b, off, none⟩) 2 cap, c10] 136)).heap[w.heap.size]? = some (.cells #[.int .i64 x.fKind, .string x.fTrait, .string x.fName, .int .i64 x.fN, c4, c5, c6, c7, c8, .slice (some ⟨b, off, none⟩) 2 cap, c10] 136 (0, 0)) from alloc_at rfl)
  have hp : w.heap.size < (w.alloc (.cells #[.int .i64 x.fKind, .string x.fTrait, .string x.fName, .int .i64 x.fN, c4, c5, c6, c7, c8, .slice (some ⟨b, off, none⟩) 2 cap, c10] 136)).heap.size := by simp
  have hpn : w.heap.size ∉ fp := hS.notin (Nat.le_refl _)
  have hKw : ∀ b, K b → b < w.heap.size := fun b h => Nat.lt_of_lt_of_le (hK b h) hS.lo
  have hca : Cells w b (off) csa := by simpa using hca
  replace hra := Lib.hid (Rep.ext hB0 hKw hra)
  replace hca := Lib.hid (hca.ext hB0 (hKw b hKb))
  have hcb : Cells w b (off + 11) csb := by simpa using hcb
  replace hrb := Lib.hid (Rep.ext hB0 hKw hrb)
  replace hcb := Lib.hid (hcb.ext hB0 (hKw b hKb))
  go_enter Tryz.func153, Tryz.ntmps153
  have hr := hra.out
  have hc := hca.out
  go_wp2_with (with_reducible refine ld rfl 136 _ rfl b _ rfl csa hc _ Tryz.underlying136 hia ?_)
  have Hb0 := Lib.hid HS0.out.hb
  have Hl0 := Lib.hid HS0.out.lo
  have HF := Lib.hid HF0.out
  clear hS hB0
  generalize (w.alloc (.cells #[.int .i64 x.fKind, .string x.fTrait, .string x.fName, .int .i64 x.fN, c4, c5, c6, c7, c8, .slice (some ⟨b, off, none⟩) 2 cap, c10] 136)) = w0 at *
  generalize w.heap.size = p at *
  replace HF0 := Lib.hid (Fr.refl w0 fp)
  clear hc
  refine (ih ea hma (by omega) s (by omega) (by omega) _ lo c _ _ _ HS0.out K hK _ hr).mono ?_
  rintro e w1 ⟨rfl, fp1, vl1, vs1, hS1, hF1⟩
  have hbd := bd_sC N ea s
  obtain ⟨s1, Hs1⟩ : ∃ t_, t_ = sC N ea s := ⟨_, rfl⟩
  rw [← Hs1] at hS1 hbd
  replace Hs1 := Lib.hid Hs1
  have HS1 := Lib.hid hS1; have HF1 := Lib.hid (HF0.out.trans hF1)
  clear hS1 hF1 hr HS0
  have hbd1 := hbd; clear hbd
  go_wp2_with fail
  refine (specAdd_c (opOne 4) (inR_n 4 (by decide)) (inR_n 0 (by decide)) (inR_n 0 (by decide)) (by decide) (by decide) s1 (by omega) _ lo c _ _ _ HS1.out).mono ?_
  rintro e w2 ⟨rfl, fp2, vl2, vs2, hS1, hF1⟩
  have HS2 := Lib.hid hS1; have HF2 := Lib.hid (HF1.out.trans hF1)
  clear hS1 hF1 HS1
  obtain ⟨aS, cS, hvs⟩ : ∃ a cap, vs2 = .slice a s1.slots.length cap := gl_slice HS2.out.gs
  subst hvs
  have gS := HS2.out.cell.2.1
  go_wp2_with fail
  clear gS
  have hS := HS2.out
  have hI0 : Below w2.heap.size w2 w2.drew := (Below.refl _ _).drew
  have hRp := HF2.out.row HR0.out hpn
  have gS : ∀ w', Below w2.heap.size w2 w' → w'.cell? ⟨c, 1, none⟩ = some (.slice aS s1.slots.length cS) := fun w' h => (hS.below h).cell.2.1
  have gN : ∀ w', Below w2.heap.size w2 w' → w'.cell? ⟨p, 2, none⟩ = some (.string x.fName) := fun w' h => row_cell (row_below hRp h (row_lt hRp)) 2
  have hsl : s1.slots.length ≤ 1073741824 := by omega
  have hON : Own w2 (encS x.fName) [.string x.fName] [] := Rep.own_flat (K := fun _ => True) _ _ (flatS _) (repS hNm)
  refine rj 14 13 (Below w2.heap.size w2) (by kernel_rfl) rfl ?_
  refine rj_seg (fuel := 7) [0, 2, 3, 4, 5, 7, 8] hI0 (by kernel_rfl) rfl ?_
  simp only [pick, pD, pE]
  refine sg_fix _ rfl (fun w' hI => by have := gS w' hI; have := gN w' hI; go_simp; rfl) ?_
  simp only [Act.put, pA, pB, pC]
  refine sg_fix _ rfl (fun w' hI => by have := gS w' hI; have := gN w' hI; go_simp; rfl) ?_
  simp only [Act.put, pA, pB, pC]
  refine sg_fix _ rfl (fun w' hI => by have := gS w' hI; have := gN w' hI; go_simp; rfl) ?_
  simp only [Act.put, pA, pB, pC]
  refine sg_fix _ rfl (fun w' hI => by have := gS w' hI; have := gN w' hI; go_simp; rfl) ?_
  simp only [Act.put, pA, pB, pC]
  refine sg_fix _ rfl (fun w' hI => by have := gS w' hI; have := gN w' hI; go_simp; rfl) ?_
  simp only [Act.put, pA, pB, pC]
  refine sg_fix _ rfl (fun w' hI => by have := gS w' hI; have := gN w' hI; go_simp; rfl) ?_
  simp only [Act.put, pA, pB, pC]
  refine sg_fix _ rfl (fun w' hI => by have := gS w' hI; have := gN w' hI; go_simp; rfl) ?_
  simp only [Act.put, pA, pB, pC]
  refine sg_nil ?_
  refine rj_two (fuel := 6) 1 9 (by kernel_rfl) rfl (fun K0 hK0 => ?_) (fun K0 hK0 => ?_)
  ·simp only [pick, pD, pE]
   refine oj_bs0 rfl 48 rfl Tryz.underlying48 (by kernel_rfl) ?_
   intro wa hBwa hRwa
   have hIwa := hI0.trans (hBwa.mono hI0.size)
   have hGwa : Gr wa w2.heap.size 9 1 (([] : List ByteArray).map encS) (.slice (some ⟨w2.drew.heap.size, 0, none⟩) 0 0) [] := Gr.made hRwa hI0.size
   refine hK0 _ _ (fun _ => hIwa) ?_
   simp only [Act.put, pA, pB, pC]
   refine rj_two (fuel := 5) 6 9 (by kernel_rfl) rfl (fun K1 hK1 => ?_) (fun K1 hK1 => ?_)
   ·simp only [pick, pD, pE]
    refine oj_apL (v := .slice (some ⟨w2.drew.heap.size, 0, none⟩) 0 0) rfl (.tmp 27) (.tmp 31) 48 rfl _ 16 Tryz.underlying48 zinfoN zsizeN (by decide) rfl hGwa rfl (gr_rep (hS.below hIwa).gs) encS_w flatS (by unfold maxLen; simp [CS.add_slots]; omega) (by simp [CS.add_slots]; omega) hIwa.size ?_
    intro vwb wb hGwb hkwb _
    have hIwb := hkwb.belowOf hIwa (fun b hb => (hGwa.block b (by simpa using hb)).1) hIwa.size
    refine hK1 _ _ (fun _ => hIwb) ?_
    simp only [Act.put, pA, pB, pC]
    refine rj_one (fuel := 4) 9 (by kernel_rfl) rfl (fun K2 hK2 => ?_)
    simp only [pick, pD, pE]
    refine oj_bs1 rfl 48 (.tmp 34) rfl Tryz.underlying48 zinfoN (by decide) (by decide) _ rfl [.string x.fName] rfl rfl ?_
    intro wc hBwc hCwc
    have hIwc := hIwb.trans (hBwc.mono hIwb.size)
    refine hK2 _ _ (fun _ => hIwc) ?_
    simp only [Act.put, pA, pB, pC]
    have hGz := hGwb.below hBwc
    refine rj_one (fuel := 3) 10 (by kernel_rfl) rfl (fun K4 hK4 => ?_)
    simp only [pick, pD, pE]
    refine oj_ap (v := vwb) rfl (.tmp 32) (.tmp 35) 48 rfl _ 16 Tryz.underlying48 zinfoN zsizeN (by decide) rfl hGz wb.heap.size rfl (encS_w _) hCwc (Own.keep _ _ _ hON (by simp)) (by unfold maxLen; simp [CS.add_slots]; omega) (by simp [CS.add_slots]; omega) hIwc.size ?_
    intro vy wy hGy hky _
    have hIy := hky.belowOf hIwc (fun b hb => (hGz.block b (by simpa using hb)).1) hIwc.size
    refine hK4 _ _ (fun _ => hIy) ?_
    simp only [Act.put, pA, pB, pC]
    refine rj_seg (fuel := 1) [11, 12] hIy (by kernel_rfl) rfl ?_
    simp only [pick, pD, pE]
    refine sg_fix _ rfl (fun w' hI => by go_simp; rfl) ?_
    simp only [Act.put, pA, pB, pC]
    refine sg_fix _ rfl (fun w' hI => by go_simp; rfl) ?_
    simp only [Act.put, pA, pB, pC]
    refine sg_nil ?_
    refine rj_one (fuel := 0) 13 (by kernel_rfl) rfl (fun K5 hK5 => ?_)
    simp only [pick, pD, pE]
    refine oj_st rfl 48 (.tmp 38) (.tmp 36) rfl c 1 rfl vy rfl infoLS hGy.one _ _ (hS.below hIy).row (by simp) ?_
    intro w3 hp1
    refine hK5 _ _ (jw_done (by kernel_rfl)) (rj_end (by kernel_rfl) ?_)
    simp only [Act.put]
    obtain ⟨fp3, hS1, hF1⟩ := hS.setS (l' := s1.slots ++ [x.fName]) (Below.kept' hIy _) (by simpa [CS.add_slots] using hGy.mono hS.lo) (.inr (fun g hg => (hGy.block g hg).1)) hp1
    obtain ⟨vl3, vs3, hS1⟩ : ∃ a b, Ste w3 169 173 9 lo c fp3 ((s1.add (opOne 4)).put (s1.slots ++ [x.fName])) a b := ⟨_, _, hS1⟩
    have HS3 := Lib.hid hS1; have HF3 := Lib.hid (HF2.out.trans hF1)
    clear hS1 hF1 hp1 hIy hky hGy hS hI0 gS gN hRp hsl hON
    have g9 : w3.cell? ⟨p, 9, none⟩ = some (.slice (some ⟨b, off, none⟩) 2 cap) := row_cell (HF3.out.row HR0.out hpn) 9
    have hB := HF3.out.below Hb0.out Hl0.out
    have hr := Rep.ext hB hK hrb.out
    have hc := hcb.out.ext hB (hK b hKb)
    clear hB
    go_wp2_with (with_reducible refine ld rfl 136 _ rfl b _ rfl csb hc _ Tryz.underlying136 hib ?_)
    clear g9 hc
    refine (ih eb hmb (by omega) ((s1.add (opOne 4)).put (s1.slots ++ [x.fName])) (by simp only [CS.add_len, CS.put_list]; omega) (by simp only [CS.put_slots, List.length_append, List.length_singleton]; omega) _ lo c _ _ _ HS3.out K hK _ hr).mono ?_
    rintro e w4 ⟨rfl, fp4, vl4, vs4, hS1, hF1⟩
    have hbd := bd_sC N eb ((s1.add (opOne 4)).put (s1.slots ++ [x.fName]))
    obtain ⟨s4, Hs4⟩ : ∃ t_, t_ = sC N eb ((s1.add (opOne 4)).put (s1.slots ++ [x.fName])) := ⟨_, rfl⟩
    rw [← Hs4] at hS1 hbd
    simp only [CS.add_len, CS.put_list] at hbd
    simp only [CS.put_slots, List.length_append, List.length_singleton] at hbd
    replace Hs4 := Lib.hid Hs4
    have HS4 := Lib.hid hS1; have HF4 := Lib.hid (HF3.out.trans hF1)
    clear hS1 hF1 hr HS3
    have hbd4 := hbd; clear hbd
    have hS := HS4.out
    obtain ⟨gq, cq, hvq, hcq⟩ : ∃ a cap, vs4 = .slice a s4.slots.length cap ∧ s4.slots.length ≤ cap := gs_cap hS.gs
    subst hvq
    have hwas : s1.slots.length ≤ s4.slots.length := by omega
    have hwc : s1.slots.length ≤ cq := by omega
    have hT := (hS.gs).take (by intro d hd; obtain ⟨y, -, rfl⟩ := List.mem_map.1 hd; exact encS_w y) (m := s1.slots.length) (by simpa using hwas)
    have hlt := hS.lt
    have hBq : Below w4.heap.size w4 (w4.alloc (.cells #[] 9)) := (Below.refl _ _).alloc (Nat.le_refl _) _
    have G := Lib.hid (Gr.made (w := (w4.alloc (.cells #[] 9))) (lo := w4.heap.size) (e := 9) (size := 1) (g := w4.heap.size) (alloc_at rfl) (Nat.le_refl _))
    have gS := hS.cell.2.1
    rw [← List.map_take] at hT
    have HT := Lib.hid (gr_rep (hT.below hBq))
    clear hS hT
    go_wp2_with (first | (with_reducible refine slH rfl 48 _ _ rfl Tryz.underlying48 isoN rfl rfl hwc ?_) | (with_reducible refine apf rfl _ _ 48 rfl (.string ⟨#[]⟩) 16 Tryz.underlying48 zinfoN zsizeN (by decide) rfl G.out rfl HT.out encS_w flatS (by unfold maxLen; simp; omega) (by simp; omega) (by simp) ?_))
    intro vq wq hG hB hk
    have hBo := hBq.trans hB
    have hSq := HS4.out.below hBo
    have hfA := Lib.hid (show 1 < (#[vl4, .slice gq s4.slots.length cq, .bool s4.bad] : Array Value).size from (by simp))
    have haA := Lib.hid (show ((#[vl4, .slice gq s4.slots.length cq, .bool s4.bad] : Array Value).toList.take 1 ++ [vq] ++ (#[vl4, .slice gq s4.slots.length cq, .bool s4.bad] : Array Value).toList.drop (1 + [vq].length)).toArray = #[vl4, vq, .bool s4.bad] from rfl)
    have hRA := Lib.hid hSq.row
    have HG := Lib.hid hG; have HB := Lib.hid hBo
    have hone := Lib.hid hG.one
    clear hSq hG hB hk hBo hBq G HT gS
    go_wp2_with (with_reducible refine stR1 rfl 48 _ _ rfl c 1 rfl vq rfl infoLS hone.out #[vl4, .slice gq s4.slots.length cq, .bool s4.bad] #[vl4, vq, .bool s4.bad] 169 hRA.out hfA.out haA.out ?_)
    intro w5 hp1
    obtain ⟨fp5, hS1, hF1⟩ := HS4.out.setS (l' := s4.slots.take s1.slots.length) (Below.kept' HB.out _) (by simpa using HG.out.mono HS4.out.lo) (.inr (fun g hg => (HG.out.block g hg).1)) hp1
    obtain ⟨vl5, vs5, hS1⟩ : ∃ a b, Ste w5 169 173 9 lo c fp5 (s4.put (s4.slots.take s1.slots.length)) a b := ⟨_, _, hS1⟩
    have HS5 := Lib.hid hS1; have HF5 := Lib.hid (HF4.out.trans hF1)
    clear hS1 hF1 hp1 HS4 hRA hfA haA HG HB hone hlt
    go_wp2_with fail
    refine (specAdd_c (opDrop 1) (inR_n 5 (by decide)) (inR_n 1 (by decide)) (inR_n 0 (by decide)) (by decide) (by decide) (s4.put (s4.slots.take s1.slots.length)) (by simp only [CS.put_list]; omega) _ lo c _ _ _ HS5.out).mono ?_
    rintro e w6 ⟨rfl, fp6, vl6, vs6, hS1, hF1⟩
    have HS6 := Lib.hid hS1; have HF6 := Lib.hid (HF5.out.trans hF1)
    clear hS1 hF1 HS5
    go_wp2
    first | go_end0 | ((try simp only [Exit.inBlock, Exit.then]); refine bodyPost_ret (results_none rfl _ _ _) rfl ?_)
    have hD := HQ.out
    rw [← Hs1.out, ← Hs4.out] at hD
    rw [hD]
    exact ⟨rfl, _, _, _, HS6.out, HF.out.trans HF6.out⟩
   ·simp only [pick, pD, pE]
    refine oj_bs1 rfl 48 (.tmp 34) rfl Tryz.underlying48 zinfoN (by decide) (by decide) _ rfl [.string x.fName] rfl rfl ?_
    intro wb hBwb hCwb
    have hIwb := hIwa.trans (hBwb.mono hIwa.size)
    refine hK1 _ _ (fun _ => hIwb) ?_
    simp only [Act.put, pA, pB, pC]
    refine rj_one (fuel := 4) 6 (by kernel_rfl) rfl (fun K2 hK2 => ?_)
    simp only [pick, pD, pE]
    have hGb := hGwa.below hBwb
    refine oj_apL (v := .slice (some ⟨w2.drew.heap.size, 0, none⟩) 0 0) rfl (.tmp 27) (.tmp 31) 48 rfl _ 16 Tryz.underlying48 zinfoN zsizeN (by decide) rfl hGb rfl (gr_rep (hS.below hIwb).gs) encS_w flatS (by unfold maxLen; simp [CS.add_slots]; omega) (by simp [CS.add_slots]; omega) hIwb.size ?_
    intro vwc wc hGwc hkwc _
    have hIwc := hkwc.belowOf hIwb (fun b hb => (hGb.block b (by simpa using hb)).1) hIwb.size
    refine hK2 _ _ (fun _ => hIwc) ?_
    simp only [Act.put, pA, pB, pC]
    have hCz := hCwb.mono (hkwc.other _ (cells_lt hCwb) (by simp only [Value.ownBlock, Option.toList_some, List.mem_singleton]; have := row_lt hRwa; omega))
    refine rj_one (fuel := 3) 10 (by kernel_rfl) rfl (fun K4 hK4 => ?_)
    simp only [pick, pD, pE]
    refine oj_ap (v := vwc) rfl (.tmp 32) (.tmp 35) 48 rfl _ 16 Tryz.underlying48 zinfoN zsizeN (by decide) rfl hGwc wa.heap.size rfl (encS_w _) hCz (Own.keep _ _ _ hON (by simp)) (by unfold maxLen; simp [CS.add_slots]; omega) (by simp [CS.add_slots]; omega) hIwc.size ?_
    intro vy wy hGy hky _
    have hIy := hky.belowOf hIwc (fun b hb => (hGwc.block b (by simpa using hb)).1) hIwc.size
    refine hK4 _ _ (fun _ => hIy) ?_
    simp only [Act.put, pA, pB, pC]
    refine rj_seg (fuel := 1) [11, 12] hIy (by kernel_rfl) rfl ?_
    simp only [pick, pD, pE]
    refine sg_fix _ rfl (fun w' hI => by go_simp; rfl) ?_
    simp only [Act.put, pA, pB, pC]
    refine sg_fix _ rfl (fun w' hI => by go_simp; rfl) ?_
    simp only [Act.put, pA, pB, pC]
    refine sg_nil ?_
    refine rj_one (fuel := 0) 13 (by kernel_rfl) rfl (fun K5 hK5 => ?_)
    simp only [pick, pD, pE]
    refine oj_st rfl 48 (.tmp 38) (.tmp 36) rfl c 1 rfl vy rfl infoLS hGy.one _ _ (hS.below hIy).row (by simp) ?_
    intro w3 hp1
    refine hK5 _ _ (jw_done (by kernel_rfl)) (rj_end (by kernel_rfl) ?_)
    simp only [Act.put]
    obtain ⟨fp3, hS1, hF1⟩ := hS.setS (l' := s1.slots ++ [x.fName]) (Below.kept' hIy _) (by simpa [CS.add_slots] using hGy.mono hS.lo) (.inr (fun g hg => (hGy.block g hg).1)) hp1
    obtain ⟨vl3, vs3, hS1⟩ : ∃ a b, Ste w3 169 173 9 lo c fp3 ((s1.add (opOne 4)).put (s1.slots ++ [x.fName])) a b := ⟨_, _, hS1⟩
    have HS3 := Lib.hid hS1; have HF3 := Lib.hid (HF2.out.trans hF1)
    clear hS1 hF1 hp1 hIy hky hGy hS hI0 gS gN hRp hsl hON
    have g9 : w3.cell? ⟨p, 9, none⟩ = some (.slice (some ⟨b, off, none⟩) 2 cap) := row_cell (HF3.out.row HR0.out hpn) 9
    have hB := HF3.out.below Hb0.out Hl0.out
    have hr := Rep.ext hB hK hrb.out
    have hc := hcb.out.ext hB (hK b hKb)
    clear hB
    go_wp2_with (with_reducible refine ld rfl 136 _ rfl b _ rfl csb hc _ Tryz.underlying136 hib ?_)
    clear g9 hc
    refine (ih eb hmb (by omega) ((s1.add (opOne 4)).put (s1.slots ++ [x.fName])) (by simp only [CS.add_len, CS.put_list]; omega) (by simp only [CS.put_slots, List.length_append, List.length_singleton]; omega) _ lo c _ _ _ HS3.out K hK _ hr).mono ?_
    rintro e w4 ⟨rfl, fp4, vl4, vs4, hS1, hF1⟩
    have hbd := bd_sC N eb ((s1.add (opOne 4)).put (s1.slots ++ [x.fName]))
    obtain ⟨s4, Hs4⟩ : ∃ t_, t_ = sC N eb ((s1.add (opOne 4)).put (s1.slots ++ [x.fName])) := ⟨_, rfl⟩
    rw [← Hs4] at hS1 hbd
    simp only [CS.add_len, CS.put_list] at hbd
    simp only [CS.put_slots, List.length_append, List.length_singleton] at hbd
    replace Hs4 := Lib.hid Hs4
    have HS4 := Lib.hid hS1; have HF4 := Lib.hid (HF3.out.trans hF1)
    clear hS1 hF1 hr HS3
    have hbd4 := hbd; clear hbd
    have hS := HS4.out
    obtain ⟨gq, cq, hvq, hcq⟩ : ∃ a cap, vs4 = .slice a s4.slots.length cap ∧ s4.slots.length ≤ cap := gs_cap hS.gs
    subst hvq
    have hwas : s1.slots.length ≤ s4.slots.length := by omega
    have hwc : s1.slots.length ≤ cq := by omega
    have hT := (hS.gs).take (by intro d hd; obtain ⟨y, -, rfl⟩ := List.mem_map.1 hd; exact encS_w y) (m := s1.slots.length) (by simpa using hwas)
    have hlt := hS.lt
    have hBq : Below w4.heap.size w4 (w4.alloc (.cells #[] 9)) := (Below.refl _ _).alloc (Nat.le_refl _) _
    have G := Lib.hid (Gr.made (w := (w4.alloc (.cells #[] 9))) (lo := w4.heap.size) (e := 9) (size := 1) (g := w4.heap.size) (alloc_at rfl) (Nat.le_refl _))
    have gS := hS.cell.2.1
    rw [← List.map_take] at hT
    have HT := Lib.hid (gr_rep (hT.below hBq))
    clear hS hT
    go_wp2_with (first | (with_reducible refine slH rfl 48 _ _ rfl Tryz.underlying48 isoN rfl rfl hwc ?_) | (with_reducible refine apf rfl _ _ 48 rfl (.string ⟨#[]⟩) 16 Tryz.underlying48 zinfoN zsizeN (by decide) rfl G.out rfl HT.out encS_w flatS (by unfold maxLen; simp; omega) (by simp; omega) (by simp) ?_))
    intro vq wq hG hB hk
    have hBo := hBq.trans hB
    have hSq := HS4.out.below hBo
    have hfA := Lib.hid (show 1 < (#[vl4, .slice gq s4.slots.length cq, .bool s4.bad] : Array Value).size from (by simp))
    have haA := Lib.hid (show ((#[vl4, .slice gq s4.slots.length cq, .bool s4.bad] : Array Value).toList.take 1 ++ [vq] ++ (#[vl4, .slice gq s4.slots.length cq, .bool s4.bad] : Array Value).toList.drop (1 + [vq].length)).toArray = #[vl4, vq, .bool s4.bad] from rfl)
    have hRA := Lib.hid hSq.row
    have HG := Lib.hid hG; have HB := Lib.hid hBo
    have hone := Lib.hid hG.one
    clear hSq hG hB hk hBo hBq G HT gS
    go_wp2_with (with_reducible refine stR1 rfl 48 _ _ rfl c 1 rfl vq rfl infoLS hone.out #[vl4, .slice gq s4.slots.length cq, .bool s4.bad] #[vl4, vq, .bool s4.bad] 169 hRA.out hfA.out haA.out ?_)
    intro w5 hp1
    obtain ⟨fp5, hS1, hF1⟩ := HS4.out.setS (l' := s4.slots.take s1.slots.length) (Below.kept' HB.out _) (by simpa using HG.out.mono HS4.out.lo) (.inr (fun g hg => (HG.out.block g hg).1)) hp1
    obtain ⟨vl5, vs5, hS1⟩ : ∃ a b, Ste w5 169 173 9 lo c fp5 (s4.put (s4.slots.take s1.slots.length)) a b := ⟨_, _, hS1⟩
    have HS5 := Lib.hid hS1; have HF5 := Lib.hid (HF4.out.trans hF1)
    clear hS1 hF1 hp1 HS4 hRA hfA haA HG HB hone hlt
    go_wp2_with fail
    refine (specAdd_c (opDrop 1) (inR_n 5 (by decide)) (inR_n 1 (by decide)) (inR_n 0 (by decide)) (by decide) (by decide) (s4.put (s4.slots.take s1.slots.length)) (by simp only [CS.put_list]; omega) _ lo c _ _ _ HS5.out).mono ?_
    rintro e w6 ⟨rfl, fp6, vl6, vs6, hS1, hF1⟩
    have HS6 := Lib.hid hS1; have HF6 := Lib.hid (HF5.out.trans hF1)
    clear hS1 hF1 HS5
    go_wp2
    first | go_end0 | ((try simp only [Exit.inBlock, Exit.then]); refine bodyPost_ret (results_none rfl _ _ _) rfl ?_)
    have hD := HQ.out
    rw [← Hs1.out, ← Hs4.out] at hD
    rw [hD]
    exact ⟨rfl, _, _, _, HS6.out, HF.out.trans HF6.out⟩
  ·simp only [pick, pD, pE]
   refine oj_bs1 rfl 48 (.tmp 34) rfl Tryz.underlying48 zinfoN (by decide) (by decide) _ rfl [.string x.fName] rfl rfl ?_
   intro wa hBwa hCwa
   have hIwa := hI0.trans (hBwa.mono hI0.size)
   refine hK0 _ _ (fun _ => hIwa) ?_
   simp only [Act.put, pA, pB, pC]
   refine rj_one (fuel := 5) 1 (by kernel_rfl) rfl (fun K1 hK1 => ?_)
   simp only [pick, pD, pE]
   refine oj_bs0 rfl 48 rfl Tryz.underlying48 (by kernel_rfl) ?_
   intro wb hBwb hRwb
   have hIwb := hIwa.trans (hBwb.mono hIwa.size)
   have hGwb : Gr wb w2.heap.size 9 1 (([] : List ByteArray).map encS) (.slice (some ⟨wa.heap.size, 0, none⟩) 0 0) [] := Gr.made hRwb hIwa.size
   refine hK1 _ _ (fun _ => hIwb) ?_
   simp only [Act.put, pA, pB, pC]
   refine rj_one (fuel := 4) 6 (by kernel_rfl) rfl (fun K2 hK2 => ?_)
   simp only [pick, pD, pE]
   refine oj_apL (v := .slice (some ⟨wa.heap.size, 0, none⟩) 0 0) rfl (.tmp 27) (.tmp 31) 48 rfl _ 16 Tryz.underlying48 zinfoN zsizeN (by decide) rfl hGwb rfl (gr_rep (hS.below hIwb).gs) encS_w flatS (by unfold maxLen; simp [CS.add_slots]; omega) (by simp [CS.add_slots]; omega) hIwb.size ?_
   intro vwc wc hGwc hkwc _
   have hIwc := hkwc.belowOf hIwb (fun b hb => (hGwb.block b (by simpa using hb)).1) hIwb.size
   refine hK2 _ _ (fun _ => hIwc) ?_
   simp only [Act.put, pA, pB, pC]
   have hCz := (hCwa.ext hBwb (cells_lt hCwa)).mono (hkwc.other _ (Nat.lt_of_lt_of_le (cells_lt hCwa) hBwb.size) (by simp only [Value.ownBlock, Option.toList_some, List.mem_singleton]; have := cells_lt hCwa; omega))
   refine rj_one (fuel := 3) 10 (by kernel_rfl) rfl (fun K4 hK4 => ?_)
   simp only [pick, pD, pE]
   refine oj_ap (v := vwc) rfl (.tmp 32) (.tmp 35) 48 rfl _ 16 Tryz.underlying48 zinfoN zsizeN (by decide) rfl hGwc w2.drew.heap.size rfl (encS_w _) hCz (Own.keep _ _ _ hON (by simp)) (by unfold maxLen; simp [CS.add_slots]; omega) (by simp [CS.add_slots]; omega) hIwc.size ?_
   intro vy wy hGy hky _
   have hIy := hky.belowOf hIwc (fun b hb => (hGwc.block b (by simpa using hb)).1) hIwc.size
   refine hK4 _ _ (fun _ => hIy) ?_
   simp only [Act.put, pA, pB, pC]
   refine rj_seg (fuel := 1) [11, 12] hIy (by kernel_rfl) rfl ?_
   simp only [pick, pD, pE]
   refine sg_fix _ rfl (fun w' hI => by go_simp; rfl) ?_
   simp only [Act.put, pA, pB, pC]
   refine sg_fix _ rfl (fun w' hI => by go_simp; rfl) ?_
   simp only [Act.put, pA, pB, pC]
   refine sg_nil ?_
   refine rj_one (fuel := 0) 13 (by kernel_rfl) rfl (fun K5 hK5 => ?_)
   simp only [pick, pD, pE]
   refine oj_st rfl 48 (.tmp 38) (.tmp 36) rfl c 1 rfl vy rfl infoLS hGy.one _ _ (hS.below hIy).row (by simp) ?_
   intro w3 hp1
   refine hK5 _ _ (jw_done (by kernel_rfl)) (rj_end (by kernel_rfl) ?_)
   simp only [Act.put]
   obtain ⟨fp3, hS1, hF1⟩ := hS.setS (l' := s1.slots ++ [x.fName]) (Below.kept' hIy _) (by simpa [CS.add_slots] using hGy.mono hS.lo) (.inr (fun g hg => (hGy.block g hg).1)) hp1
   obtain ⟨vl3, vs3, hS1⟩ : ∃ a b, Ste w3 169 173 9 lo c fp3 ((s1.add (opOne 4)).put (s1.slots ++ [x.fName])) a b := ⟨_, _, hS1⟩
   have HS3 := Lib.hid hS1; have HF3 := Lib.hid (HF2.out.trans hF1)
   clear hS1 hF1 hp1 hIy hky hGy hS hI0 gS gN hRp hsl hON
   have g9 : w3.cell? ⟨p, 9, none⟩ = some (.slice (some ⟨b, off, none⟩) 2 cap) := row_cell (HF3.out.row HR0.out hpn) 9
   have hB := HF3.out.below Hb0.out Hl0.out
   have hr := Rep.ext hB hK hrb.out
   have hc := hcb.out.ext hB (hK b hKb)
   clear hB
   go_wp2_with (with_reducible refine ld rfl 136 _ rfl b _ rfl csb hc _ Tryz.underlying136 hib ?_)
   clear g9 hc
   refine (ih eb hmb (by omega) ((s1.add (opOne 4)).put (s1.slots ++ [x.fName])) (by simp only [CS.add_len, CS.put_list]; omega) (by simp only [CS.put_slots, List.length_append, List.length_singleton]; omega) _ lo c _ _ _ HS3.out K hK _ hr).mono ?_
   rintro e w4 ⟨rfl, fp4, vl4, vs4, hS1, hF1⟩
   have hbd := bd_sC N eb ((s1.add (opOne 4)).put (s1.slots ++ [x.fName]))
   obtain ⟨s4, Hs4⟩ : ∃ t_, t_ = sC N eb ((s1.add (opOne 4)).put (s1.slots ++ [x.fName])) := ⟨_, rfl⟩
   rw [← Hs4] at hS1 hbd
   simp only [CS.add_len, CS.put_list] at hbd
   simp only [CS.put_slots, List.length_append, List.length_singleton] at hbd
   replace Hs4 := Lib.hid Hs4
   have HS4 := Lib.hid hS1; have HF4 := Lib.hid (HF3.out.trans hF1)
   clear hS1 hF1 hr HS3
   have hbd4 := hbd; clear hbd
   have hS := HS4.out
   obtain ⟨gq, cq, hvq, hcq⟩ : ∃ a cap, vs4 = .slice a s4.slots.length cap ∧ s4.slots.length ≤ cap := gs_cap hS.gs
   subst hvq
   have hwas : s1.slots.length ≤ s4.slots.length := by omega
   have hwc : s1.slots.length ≤ cq := by omega
   have hT := (hS.gs).take (by intro d hd; obtain ⟨y, -, rfl⟩ := List.mem_map.1 hd; exact encS_w y) (m := s1.slots.length) (by simpa using hwas)
   have hlt := hS.lt
   have hBq : Below w4.heap.size w4 (w4.alloc (.cells #[] 9)) := (Below.refl _ _).alloc (Nat.le_refl _) _
   have G := Lib.hid (Gr.made (w := (w4.alloc (.cells #[] 9))) (lo := w4.heap.size) (e := 9) (size := 1) (g := w4.heap.size) (alloc_at rfl) (Nat.le_refl _))
   have gS := hS.cell.2.1
   rw [← List.map_take] at hT
   have HT := Lib.hid (gr_rep (hT.below hBq))
   clear hS hT
   go_wp2_with (first | (with_reducible refine slH rfl 48 _ _ rfl Tryz.underlying48 isoN rfl rfl hwc ?_) | (with_reducible refine apf rfl _ _ 48 rfl (.string ⟨#[]⟩) 16 Tryz.underlying48 zinfoN zsizeN (by decide) rfl G.out rfl HT.out encS_w flatS (by unfold maxLen; simp; omega) (by simp; omega) (by simp) ?_))
   intro vq wq hG hB hk
   have hBo := hBq.trans hB
   have hSq := HS4.out.below hBo
   have hfA := Lib.hid (show 1 < (#[vl4, .slice gq s4.slots.length cq, .bool s4.bad] : Array Value).size from (by simp))
   have haA := Lib.hid (show ((#[vl4, .slice gq s4.slots.length cq, .bool s4.bad] : Array Value).toList.take 1 ++ [vq] ++ (#[vl4, .slice gq s4.slots.length cq, .bool s4.bad] : Array Value).toList.drop (1 + [vq].length)).toArray = #[vl4, vq, .bool s4.bad] from rfl)
   have hRA := Lib.hid hSq.row
   have HG := Lib.hid hG; have HB := Lib.hid hBo
   have hone := Lib.hid hG.one
   clear hSq hG hB hk hBo hBq G HT gS
   go_wp2_with (with_reducible refine stR1 rfl 48 _ _ rfl c 1 rfl vq rfl infoLS hone.out #[vl4, .slice gq s4.slots.length cq, .bool s4.bad] #[vl4, vq, .bool s4.bad] 169 hRA.out hfA.out haA.out ?_)
   intro w5 hp1
   obtain ⟨fp5, hS1, hF1⟩ := HS4.out.setS (l' := s4.slots.take s1.slots.length) (Below.kept' HB.out _) (by simpa using HG.out.mono HS4.out.lo) (.inr (fun g hg => (HG.out.block g hg).1)) hp1
   obtain ⟨vl5, vs5, hS1⟩ : ∃ a b, Ste w5 169 173 9 lo c fp5 (s4.put (s4.slots.take s1.slots.length)) a b := ⟨_, _, hS1⟩
   have HS5 := Lib.hid hS1; have HF5 := Lib.hid (HF4.out.trans hF1)
   clear hS1 hF1 hp1 HS4 hRA hfA haA HG HB hone hlt
   go_wp2_with fail
   refine (specAdd_c (opDrop 1) (inR_n 5 (by decide)) (inR_n 1 (by decide)) (inR_n 0 (by decide)) (by decide) (by decide) (s4.put (s4.slots.take s1.slots.length)) (by simp only [CS.put_list]; omega) _ lo c _ _ _ HS5.out).mono ?_
   rintro e w6 ⟨rfl, fp6, vl6, vs6, hS1, hF1⟩
   have HS6 := Lib.hid hS1; have HF6 := Lib.hid (HF5.out.trans hF1)
   clear hS1 hF1 HS5
   go_wp2
   first | go_end0 | ((try simp only [Exit.inBlock, Exit.then]); refine bodyPost_ret (results_none rfl _ _ _) rfl ?_)
   have hD := HQ.out
   rw [← Hs1.out, ← Hs4.out] at hD
   rw [hD]
   exact ⟨rfl, _, _, _, HS6.out, HF.out.trans HF6.out⟩
 ·rw [sLet_other s h3]
  have hne : ((x.fArgs.length : Int) != 2) = true := by simp; omega
  have hB0 : Below w.heap.size w (w.alloc (.cells #[.int .i64 x.fKind, .string x.fTrait, .string x.fName, .int .i64 x.fN, c4, c5, c6, c7, c8, .slice a x.fArgs.length cap, c10] 136)) := (Below.refl _ _).alloc (Nat.le_refl _) _
  have HS0 := Lib.hid (hS.below hB0)
  have HF0 := Lib.hid (Fr.below0 hB0 fp)
  have HR0 := Lib.hid (show (w.alloc (.cells #[.int .i64 x.fKind, .string x.fTrait, .string x.fName, .int .i64 x.fN, c4, c5, c6, c7, c8, .slice a x.fArgs.length cap, c10] 136)).heap[w.heap.size]? = some (.cells #[.int .i64 x.fKind, .string x.fTrait, .string x.fName, .int .i64 x.fN, c4, c5, c6, c7, c8, .slice a x.fArgs.length cap, c10] 136 (0, 0)) from alloc_at rfl)
  have hp : w.heap.size < (w.alloc (.cells #[.int .i64 x.fKind, .string x.fTrait, .string x.fName, .int .i64 x.fN, c4, c5, c6, c7, c8, .slice a x.fArgs.length cap, c10] 136)).heap.size := by simp
  have hpn : w.heap.size ∉ fp := hS.notin (Nat.le_refl _)
  have hKw : ∀ b, K b → b < w.heap.size := fun b h => Nat.lt_of_lt_of_le (hK b h) hS.lo
  have hfB := Lib.hid (show 2 < (#[vl, vs, .bool s.bad] : Array Value).size from (by simp))
  have haB := Lib.hid (show ((#[vl, vs, .bool s.bad] : Array Value).toList.take 2 ++ [Value.bool true] ++ (#[vl, vs, .bool s.bad] : Array Value).toList.drop (2 + [Value.bool true].length)).toArray = #[vl, vs, .bool true] from rfl)
  have hRB := Lib.hid HS0.out.row
  go_enter Tryz.func153, Tryz.ntmps153
  go_wp2_with (with_reducible refine stR1 rfl 4 _ _ rfl c 2 rfl (.bool true) rfl infoB1 rfl #[vl, vs, .bool s.bad] #[vl, vs, .bool true] 169 hRB.out hfB.out haB.out ?_)
  intro w2 hp2
  have hR := HS0.out.fail hp2
  go_wp2
  first | go_end0 | ((try simp only [Exit.inBlock, Exit.then]); refine bodyPost_ret (results_none rfl _ _ _) rfl ?_)
  exact ⟨rfl, fp, _, _, hR.1, HF0.out.trans hR.2⟩
set_option maxRecDepth 100000 in
set_option maxHeartbeats 4000000 in
theorem specCase_c (N : Nat) (ih : CPspec N) (x : TCore) (hx : SizeOf.sizeOf x < N + 1) : WKc 156 169 (sCase (sC N)) x := by
 unfold WKc
 intro hz s hl hs w lo c fp vl vs hS K hK cs h
 obtain ⟨c4, c5, c6, c7, c8, c9, c10, rfl, hKd, hTr, hNm, hNn, -, -, -, hAr, hAm⟩ := TCore.opn h
 clear h hAr hTr hNm hNn hKd
 have hcz := core_sz x
 have hxs := TCore.lt_fArms x
 obtain ⟨a, cap, rfl, hcc, hm, -, hE⟩ := open_sl TCoreArm.width hAm
 unfold maxLen at hm
 clear hAm
 have HQ0 := Lib.hid (show sCase (sC N) x s = cEnds (sArms (sC N) x.fArms [] s).1 (sArms (sC N) x.fArms [] s).2 from rfl)
 rw [HQ0.out]
 have hlen : x.fArms.length ≤ 1048576 := by unfold szs at hcz; omega
 generalize x.fArms = L at *
 have HXs := Lib.hid hxs; have Hcz := Lib.hid hcz
 clear hxs hcz
 have hBa : Below w.heap.size w (w.alloc (.cells #[.int .i64 x.fKind, .string x.fTrait, .string x.fName, .int .i64 x.fN, c4, c5, c6, c7, c8, c9, .slice a L.length cap] 136)) := (Below.refl _ _).alloc (Nat.le_refl _) _
 have hBb : Below (w.alloc (.cells #[.int .i64 x.fKind, .string x.fTrait, .string x.fName, .int .i64 x.fN, c4, c5, c6, c7, c8, c9, .slice a L.length cap] 136)).heap.size (w.alloc (.cells #[.int .i64 x.fKind, .string x.fTrait, .string x.fName, .int .i64 x.fN, c4, c5, c6, c7, c8, c9, .slice a L.length cap] 136)) ((w.alloc (.cells #[.int .i64 x.fKind, .string x.fTrait, .string x.fName, .int .i64 x.fN, c4, c5, c6, c7, c8, c9, .slice a L.length cap] 136)).alloc (.cells #[] 3)) := (Below.refl _ _).alloc (Nat.le_refl _) _
 have hBW := hBa.trans (hBb.mono hBa.size)
 have HS0 := Lib.hid (hS.below hBW)
 have HR0 := Lib.hid (row_below (show (w.alloc (.cells #[.int .i64 x.fKind, .string x.fTrait, .string x.fName, .int .i64 x.fN, c4, c5, c6, c7, c8, c9, .slice a L.length cap] 136)).heap[w.heap.size]? = some (.cells #[.int .i64 x.fKind, .string x.fTrait, .string x.fName, .int .i64 x.fN, c4, c5, c6, c7, c8, c9, .slice a L.length cap] 136 (0, 0)) from alloc_at rfl) hBb (by simp))
 have HG0 : Hid (Gr ((w.alloc (.cells #[.int .i64 x.fKind, .string x.fTrait, .string x.fName, .int .i64 x.fN, c4, c5, c6, c7, c8, c9, .slice a L.length cap] 136)).alloc (.cells #[] 3)) (w.heap.size + 1) 3 1 (([] : List Nat).map encN) (.slice (some ⟨w.heap.size + 1, 0, none⟩) 0 0) []) := Lib.hid (Gr.made (w := ((w.alloc (.cells #[.int .i64 x.fKind, .string x.fTrait, .string x.fName, .int .i64 x.fN, c4, c5, c6, c7, c8, c9, .slice a L.length cap] 136)).alloc (.cells #[] 3))) (alloc_at (by simp)) (Nat.le_refl _))
 have hnf : w.heap.size + 1 ∉ fp := hS.notin (by omega)
 have hpn : w.heap.size ∉ fp := hS.notin (Nat.le_refl _)
 have hp : w.heap.size + 1 < ((w.alloc (.cells #[.int .i64 x.fKind, .string x.fTrait, .string x.fName, .int .i64 x.fN, c4, c5, c6, c7, c8, c9, .slice a L.length cap] 136)).alloc (.cells #[] 3)).heap.size := by simp
 have hlo := hS.lo
 have hKw : ∀ b, K b → b < w.heap.size := fun b h => Nat.lt_of_lt_of_le (hK b h) hlo
 have HF0 := Lib.hid (Fr.below0 hBW fp)
 have Hb0 := Lib.hid hS.hb
 clear hS hBa hBb hBW
 go_enter Tryz.func156, Tryz.ntmps156
 go_wp2
 go_loopw [4, 5] (fun o i wr => ∃ (ev : Value) (n : Nat) (E : List Nat) (t : CS) (fp' : List Nat) (vl' vs' : Value), ev = o ∧ n ≤ L.length ∧ i = .int .i64 n ∧ Hid (sArms (sC N) (L.drop n) E t = sArms (sC N) L [] s) ∧ Hid (Ste wr 169 173 9 lo c fp' t vl' vs') ∧ Hid (Fr w wr fp fp') ∧ Hid (wr.heap[w.heap.size]? = some (.cells #[.int .i64 x.fKind, .string x.fTrait, .string x.fName, .int .i64 x.fN, c4, c5, c6, c7, c8, c9, .slice a L.length cap] 136 (0, 0))) ∧ w.heap.size ∉ fp' ∧ w.heap.size + 1 < wr.heap.size ∧ Hid (Gr wr (w.heap.size + 1) 3 1 (E.map encN) ev []) ∧ (∀ g, ev.ownBlock = some g → g ∉ fp') ∧ E.length = n ∧ (∀ k ∈ E, k < t.list.length) ∧ t.list.length + 4 * szs TCoreArm.sz (L.drop n) ≤ 1073741824 ∧ t.slots.length + szs TCoreArm.sz (L.drop n) ≤ 1073741824) (fun _ i _ => L.length - (intOf i).toNat)
 case atStart => exact ⟨_, 0, [], s, fp, _, _, rfl, Nat.zero_le _, rfl, Lib.hid rfl, HS0, HF0, HR0, hpn, hp, HG0, by intro g hg; simp only [Value.ownBlock, Option.some.injEq] at hg; subst hg; exact hnf, rfl, by simp, by simpa using hl, by simpa using hs⟩
 case round =>
  clear hl hs hnf HG0 HS0 HF0 HR0 hp hpn
  obtain ⟨ev, n, E, t, fp0, vl0, vs0, rfl, hn, rfl, HE, HSr, HFr, HRr, hpr, hpz, HGr, hev, hEn, hEk, hl, hs⟩ := hrel
  have hRr := HRr.out
  have gA : wr.cell? ⟨w.heap.size, 10, none⟩ = some (.slice a L.length cap) := row_cell hRr 10
  by_cases hlt : n < L.length
  ·obtain ⟨b, off, rfl, hKb, cs, hcs, hr⟩ := hE n hlt
   have hB := HFr.out.below Hb0.out hlo
   have hr' := Rep.ext hB hK hr
   have hcs' := hcs.ext hB (hK b hKb)
   have hl0 := (Rep.length _ _ hr').trans (TCoreArm.width _)
   have Hl0' := Lib.hid hl0
   have hi : (Tryz.prog.info? 242).map (·.size) = some cs.length := by rw [hl0]; exact infoArm
   have hone0 := Rep.one _ _ hr'
   have hmem : L[n] ∈ L := List.getElem_mem hlt
   have hsz : TCoreArm.sz L[n] ≤ 1048576 := by have := szL_le TCoreArm.sz hmem; have := Hcz.out; unfold szs at this; omega
   have hsm : SizeOf.sizeOf L[n].fBody < N := by have := List.sizeOf_lt_of_mem hmem; have := TCoreArm.lt_fBody L[n]; have := HXs.out; omega
   rw [szs_drop hlt] at hl hs
   have hdr : n + 1 < L.length ↔ ¬ L.drop (n + 1) = [] := by rw [List.drop_eq_nil_iff]; omega
   have HQ := Lib.hid (show ∀ e u, sArms (sC N) (L.drop n) e u = sArms (sC N) (L.drop (n + 1)) (e ++ [(sArm (sC N) L[n] u).list.length - 1]) (if L.drop (n + 1) = [] then sArm (sC N) L[n] u else (sArm (sC N) L[n] u).patch u.list.length) from fun e u => by rw [List.drop_eq_getElem_cons hlt, sArms])
   have hav := arm_sz L[n]
   clear hmem hl0 hE hcs hr
   generalize L[n] = m at *
   have hq1 : wr.heap.size = wr.heap.size := rfl
   go_wp2_with (first | (with_reducible refine ld rfl 242 _ rfl b _ rfl cs hcs' _ Tryz.underlying242 hi ?_) | (with_reducible refine stA rfl 242 _ _ rfl wr.heap.size 0 rfl cs rfl hi hone0 _ 242 (alloc_at rfl) (by rw [Hl0'.out]; decide) ?_))
   intro w1 hst
   have hB1 : Below wr.heap.size wr w1 := hst.below ((Below.refl _ _).alloc (Nat.le_refl _) _) (Nat.le_refl _)
   have hC1 := hst.at_
   clear hst hq1
   have hr1 := Rep.ext hB1 (fun b h => Nat.lt_of_lt_of_le (hK b h) HSr.out.lo) hr'
   obtain ⟨v1, d2, d3, d4, d5, d6, d7, d8, d9, d10, d11, d12, rfl, hCo, hVr, hBo⟩ := TCoreArm.opn hr1
   obtain ⟨av, capv, rfl, hcv, hmv, -, -⟩ := open_sl encS_w hVr
   unfold maxLen at hmv
   have hib : (Tryz.prog.info? 136).map (·.size) = some ([d2, d3, d4, d5, d6, d7, d8, d9, d10, d11, d12] : List Value).length := infoCo
   have HX := Lib.hid hC1
   have HS1 := Lib.hid (HSr.out.below hB1)
   have HFb := Lib.hid (HFr.out.trans (Fr.below0 hB1 fp0))
   have HF1 := Lib.hid (Fr.refl w1 fp0)
   have hR1 := row_below hRr hB1 (row_lt hRr)
   have HG1 := Lib.hid (HGr.out.below hB1)
   have hpz1 := Nat.lt_of_lt_of_le hpz hB1.size
   have hqn : wr.heap.size ∉ fp0 := HSr.out.notin (Nat.le_refl _)
   have hq1 := cells_lt hC1
   have Hb1 := Lib.hid HS1.out.hb
   have Hl1 := Lib.hid HS1.out.lo
   have HR1 := Lib.hid hR1
   clear hr1 hr' hcs' hone0 hi hC1 hB hB1 HSr HFr HGr HRr hRr gA hR1 Hl0' hpz
   generalize wr.heap.size = q at *
   have hCq := HX.out.mono (HF1.out.kept.other q hq1 hqn)
   have hBq := HF1.out.below Hb1.out Hl1.out
   have g1 : w1.cell? ⟨q, 1, none⟩ = some (.slice av m.fVars.length capv) := by simpa using hCq 1 _ rfl
   have g0 : w1.cell? ⟨q, 0, none⟩ = some (.string m.fConstructor) := by simpa using hCq 0 _ rfl
   go_wp2_with fail
   clear g0 g1 hCq hBq
   refine (specAdd_c (opTest m) (inR_n 9 (by decide)) inR_m1 (inR_n _ (by omega)) sz0 hCo t (by omega) _ lo c _ _ _ HS1.out).mono ?_
   rintro e w2 ⟨rfl, fp2, vl2, vs2, hS1, hF1⟩
   have HS2 := Lib.hid hS1; have HF2 := Lib.hid (HF1.out.trans hF1)
   clear hS1 hF1 HS1
   obtain ⟨aS, cS, hvs⟩ : ∃ a cap, vs2 = .slice a t.slots.length cap := gl_slice HS2.out.gs
   subst hvs
   have gS := HS2.out.cell.2.1
   go_wp2_with fail
   clear gS
   have hCq := HX.out.mono (HF2.out.kept.other q hq1 hqn)
   have hBq := HF2.out.below Hb1.out Hl1.out
   have hS := HS2.out
   have hI0 : Below w2.heap.size w2 w2.drew := (Below.refl _ _).drew
   have gS : ∀ w', Below w2.heap.size w2 w' → w'.cell? ⟨c, 1, none⟩ = some (.slice aS t.slots.length cS) := fun w' h => (hS.below h).cell.2.1
   have gV : ∀ w', Below w2.heap.size w2 w' → w'.cell? ⟨q, 1, none⟩ = some (.slice av m.fVars.length capv) := fun w' h => by simpa using (hCq.ext h (cells_lt hCq)) 1 _ rfl
   have hRV : Rep w2 K (.sl (m.fVars.map encS)) [.slice av m.fVars.length capv] := Rep.ext hBq hK hVr
   have hsl : t.slots.length + m.fVars.length ≤ 1073741824 := by omega
   refine rj 13 12 (Below w2.heap.size w2) (by kernel_rfl) rfl ?_
   refine rj_seg (fuel := 6) [0, 2, 3, 4, 5, 7, 8] hI0 (by kernel_rfl) rfl ?_
   simp only [pick, pD, pE]
   refine sg_fix _ rfl (fun w' hI => by have := gS w' hI; have := gV w' hI; go_simp; rfl) ?_
   simp only [Act.put, pA, pB, pC]
   refine sg_fix _ rfl (fun w' hI => by have := gS w' hI; have := gV w' hI; go_simp; rfl) ?_
   simp only [Act.put, pA, pB, pC]
   refine sg_fix _ rfl (fun w' hI => by have := gS w' hI; have := gV w' hI; go_simp; rfl) ?_
   simp only [Act.put, pA, pB, pC]
   refine sg_fix _ rfl (fun w' hI => by have := gS w' hI; have := gV w' hI; go_simp; rfl) ?_
   simp only [Act.put, pA, pB, pC]
   refine sg_fix _ rfl (fun w' hI => by have := gS w' hI; have := gV w' hI; go_simp; rfl) ?_
   simp only [Act.put, pA, pB, pC]
   refine sg_fix _ rfl (fun w' hI => by have := gS w' hI; have := gV w' hI; go_simp; rfl) ?_
   simp only [Act.put, pA, pB, pC]
   refine sg_fix _ rfl (fun w' hI => by have := gS w' hI; have := gV w' hI; go_simp; rfl) ?_
   simp only [Act.put, pA, pB, pC]
   refine sg_nil ?_
   refine rj_one (fuel := 5) 1 (by kernel_rfl) rfl (fun K0 hK0 => ?_)
   simp only [pick, pD, pE]
   refine oj_bs0 rfl 48 rfl Tryz.underlying48 (by kernel_rfl) ?_
   intro wa hBwa hRwa
   have hIwa := hI0.trans (hBwa.mono hI0.size)
   have hGwa : Gr wa w2.heap.size 9 1 (([] : List ByteArray).map encS) (.slice (some ⟨w2.drew.heap.size, 0, none⟩) 0 0) [] := Gr.made hRwa hI0.size
   refine hK0 _ _ (fun _ => hIwa) ?_
   simp only [Act.put, pA, pB, pC]
   refine rj_one (fuel := 4) 6 (by kernel_rfl) rfl (fun K1 hK1 => ?_)
   simp only [pick, pD, pE]
   refine oj_apL (v := .slice (some ⟨w2.drew.heap.size, 0, none⟩) 0 0) rfl (.tmp 37) (.tmp 41) 48 rfl _ 16 Tryz.underlying48 zinfoN zsizeN (by decide) rfl hGwa rfl (gr_rep (hS.below hIwa).gs) encS_w flatS (by unfold maxLen; simp [CS.add_slots]; omega) (by simp [CS.add_slots]; omega) hIwa.size ?_
   intro vwb wb hGwb hkwb _
   have hIwb := hkwb.belowOf hIwa (fun b hb => (hGwa.block b (by simpa using hb)).1) hIwa.size
   refine hK1 _ _ (fun _ => hIwb) ?_
   simp only [Act.put, pA, pB, pC]
   refine rj_one (fuel := 3) 9 (by kernel_rfl) rfl (fun K2 hK2 => ?_)
   simp only [pick, pD, pE]
   refine oj_apL (v := vwb) rfl (.tmp 42) (.tmp 44) 48 rfl _ 16 Tryz.underlying48 zinfoN zsizeN (by decide) rfl hGwb rfl (Rep.ext hIwb (fun b h => Nat.lt_of_lt_of_le (hK b h) hS.lo) hRV) encS_w flatS (by unfold maxLen; simp [CS.add_slots]; omega) (by simp [CS.add_slots]; omega) hIwb.size ?_
   intro vwc wc hGwc hkwc _
   have hIwc := hkwc.belowOf hIwb (fun b hb => (hGwb.block b (by simpa using hb)).1) hIwb.size
   refine hK2 _ _ (fun _ => hIwc) ?_
   simp only [Act.put, pA, pB, pC]
   refine rj_seg (fuel := 1) [10, 11] hIwc (by kernel_rfl) rfl ?_
   simp only [pick, pD, pE]
   refine sg_fix _ rfl (fun w' hI => by go_simp; rfl) ?_
   simp only [Act.put, pA, pB, pC]
   refine sg_fix _ rfl (fun w' hI => by go_simp; rfl) ?_
   simp only [Act.put, pA, pB, pC]
   refine sg_nil ?_
   refine rj_one (fuel := 0) 12 (by kernel_rfl) rfl (fun K3 hK3 => ?_)
   simp only [pick, pD, pE]
   refine oj_st rfl 48 (.tmp 47) (.tmp 45) rfl c 1 rfl vwc rfl infoLS hGwc.one _ _ (hS.below hIwc).row (by simp) ?_
   intro w3 hp1
   refine hK3 _ _ (jw_done (by kernel_rfl)) (rj_end (by kernel_rfl) ?_)
   simp only [Act.put]
   obtain ⟨fp3, hS1, hF1⟩ := hS.setS (l' := t.slots ++ m.fVars) (Below.kept' hIwc _) (by simpa [CS.add_slots] using hGwc.mono hS.lo) (.inr (fun g hg => (hGwc.block g hg).1)) hp1
   obtain ⟨vl3, vs3, hS1⟩ : ∃ a b, Ste w3 169 173 9 lo c fp3 ((t.add (opTest m)).put (t.slots ++ m.fVars)) a b := ⟨_, _, hS1⟩
   have HS3 := Lib.hid hS1; have HF3 := Lib.hid (HF2.out.trans hF1)
   clear hS1 hF1 hp1 hIwa hIwb hIwc hGwa hGwb hGwc hkwb hkwc hBwa hRwa hS hI0 gS gV hRV hsl
   clear hCq hBq
   have hCq := HX.out.mono (HF3.out.kept.other q hq1 hqn)
   have hBq := HF3.out.below Hb1.out Hl1.out
   have hc : Cells w3 q 2 [d2, d3, d4, d5, d6, d7, d8, d9, d10, d11, d12] := fun j u hu => by have := hCq (j + 2) u hu; rwa [show 0 + (j + 2) = 2 + j by omega] at this
   have hr := Rep.ext hBq hK hBo
   clear hCq hBq
   go_wp2_with (with_reducible refine ld rfl 136 _ rfl q _ rfl [d2, d3, d4, d5, d6, d7, d8, d9, d10, d11, d12] hc _ Tryz.underlying136 hib ?_)
   clear hc
   refine (ih m.fBody hsm (by omega) ((t.add (opTest m)).put (t.slots ++ m.fVars)) (by simp only [CS.add_len, CS.put_list]; omega) (by simp only [CS.put_slots, List.length_append]; omega) _ lo c _ _ _ HS3.out K hK _ hr).mono ?_
   rintro e w4 ⟨rfl, fp4, vl4, vs4, hS1, hF1⟩
   have hbd := bd_sC N m.fBody ((t.add (opTest m)).put (t.slots ++ m.fVars))
   obtain ⟨s4, Hs4⟩ : ∃ t_, t_ = sC N m.fBody ((t.add (opTest m)).put (t.slots ++ m.fVars)) := ⟨_, rfl⟩
   rw [← Hs4] at hS1 hbd
   simp only [CS.add_len, CS.put_list] at hbd
   simp only [CS.put_slots, List.length_append] at hbd
   replace Hs4 := Lib.hid Hs4
   have HS4 := Lib.hid hS1; have HF4 := Lib.hid (HF3.out.trans hF1)
   clear hS1 hF1 hr HS3
   have hbd4 := hbd; clear hbd
   have hS := HS4.out
   obtain ⟨gq, cq, hvq, hcq⟩ : ∃ a cap, vs4 = .slice a s4.slots.length cap ∧ s4.slots.length ≤ cap := gs_cap hS.gs
   subst hvq
   have hwas : t.slots.length ≤ s4.slots.length := by omega
   have hwc : t.slots.length ≤ cq := by omega
   have hT := (hS.gs).take (by intro d hd; obtain ⟨y, -, rfl⟩ := List.mem_map.1 hd; exact encS_w y) (m := t.slots.length) (by simpa using hwas)
   have hlt := hS.lt
   have hBq : Below w4.heap.size w4 (w4.alloc (.cells #[] 9)) := (Below.refl _ _).alloc (Nat.le_refl _) _
   have G := Lib.hid (Gr.made (w := (w4.alloc (.cells #[] 9))) (lo := w4.heap.size) (e := 9) (size := 1) (g := w4.heap.size) (alloc_at rfl) (Nat.le_refl _))
   have gS := hS.cell.2.1
   rw [← List.map_take] at hT
   have HT := Lib.hid (gr_rep (hT.below hBq))
   clear hS hT
   go_wp2_with (first | (with_reducible refine slH rfl 48 _ _ rfl Tryz.underlying48 isoN rfl rfl hwc ?_) | (with_reducible refine apf rfl _ _ 48 rfl (.string ⟨#[]⟩) 16 Tryz.underlying48 zinfoN zsizeN (by decide) rfl G.out rfl HT.out encS_w flatS (by unfold maxLen; simp; omega) (by simp; omega) (by simp) ?_))
   intro vq wq hG hB hk
   have hBo := hBq.trans hB
   have hSq := HS4.out.below hBo
   have hfA := Lib.hid (show 1 < (#[vl4, .slice gq s4.slots.length cq, .bool s4.bad] : Array Value).size from (by simp))
   have haA := Lib.hid (show ((#[vl4, .slice gq s4.slots.length cq, .bool s4.bad] : Array Value).toList.take 1 ++ [vq] ++ (#[vl4, .slice gq s4.slots.length cq, .bool s4.bad] : Array Value).toList.drop (1 + [vq].length)).toArray = #[vl4, vq, .bool s4.bad] from rfl)
   have hRA := Lib.hid hSq.row
   have HG := Lib.hid hG; have HB := Lib.hid hBo
   have hone := Lib.hid hG.one
   clear hSq hG hB hk hBo hBq G HT gS
   go_wp2_with (with_reducible refine stR1 rfl 48 _ _ rfl c 1 rfl vq rfl infoLS hone.out #[vl4, .slice gq s4.slots.length cq, .bool s4.bad] #[vl4, vq, .bool s4.bad] 169 hRA.out hfA.out haA.out ?_)
   intro w5 hp1
   obtain ⟨fp5, hS1, hF1⟩ := HS4.out.setS (l' := s4.slots.take t.slots.length) (Below.kept' HB.out _) (by simpa using HG.out.mono HS4.out.lo) (.inr (fun g hg => (HG.out.block g hg).1)) hp1
   obtain ⟨vl5, vs5, hS1⟩ : ∃ a b, Ste w5 169 173 9 lo c fp5 (s4.put (s4.slots.take t.slots.length)) a b := ⟨_, _, hS1⟩
   have HS5 := Lib.hid hS1; have HF5 := Lib.hid (HF4.out.trans hF1)
   clear hS1 hF1 hp1 HS4 hRA hfA haA HG HB hone hlt
   have hCq := HX.out.mono (HF5.out.kept.other q hq1 hqn)
   have hBq := HF5.out.below Hb1.out Hl1.out
   have g1 : w5.cell? ⟨q, 1, none⟩ = some (.slice av m.fVars.length capv) := by simpa using hCq 1 _ rfl
   go_wp2_with fail
   clear g1 hCq hBq
   refine (specAdd_c (opDrop m.fVars.length) (inR_n 5 (by decide)) (inR_n _ (by omega)) (inR_n 0 (by decide)) sz0 sz0 (s4.put (s4.slots.take t.slots.length)) (by simp only [CS.put_list]; omega) _ lo c _ _ _ HS5.out).mono ?_
   rintro e w6 ⟨rfl, fp6, vl6, vs6, hS1, hF1⟩
   have HS6 := Lib.hid hS1; have HF6 := Lib.hid (HF5.out.trans hF1)
   clear hS1 hF1 HS5
   go_wp2_with fail
   refine (specAdd_c (opOne 10) (inR_n 10 (by decide)) (inR_n 0 (by decide)) (inR_n 0 (by decide)) (by decide) (by decide) ((s4.put (s4.slots.take t.slots.length)).add (opDrop m.fVars.length)) (by simp only [CS.add_len, CS.put_list]; omega) _ lo c _ _ _ HS6.out).mono ?_
   rintro e w7 ⟨rfl, fp7, vl7, vs7, hS1, hF1⟩
   have HS7 := Lib.hid hS1; have HF7 := Lib.hid (HF6.out.trans hF1)
   clear hS1 hF1 HS6
   have hj : ((s4.put (s4.slots.take t.slots.length)).add (opDrop m.fVars.length)).list.length = s4.list.length + 1 := by simp only [CS.add_len, CS.put_list]
   rw [hj]
   have HG7 := Lib.hid (HG1.out.kept HF7.out.kept hev (by simp))
   have hev7 : ∀ g, ev.ownBlock = some g → g ∉ fp7 := fun g hg => HF7.out.notin (HG1.out.block g hg).2 (hev g hg)
   have hp7 : w.heap.size ∉ fp7 := HF7.out.notin (row_lt HR1.out) hpr
   go_wp2_with (with_reducible refine bs1 rfl 292 _ rfl Tryz.underlying292 zinfoZ (by decide) (by decide) (.int .i64 ((s4.list.length + 1 : Nat) : Int)) rfl [.int .i64 ((s4.list.length + 1 : Nat) : Int)] rfl rfl ?_)
   intro w8 hB8 hR8
   have HG8 := Lib.hid (HG7.out.below hB8)
   have hC8 : Cells w8 w7.heap.size 0 [.int .i64 ((s4.list.length + 1 : Nat) : Int)] := row_cells hR8
   have HO8 := Lib.hid (show OwnS w8 [encN (s4.list.length + 1)] [.int .i64 ((s4.list.length + 1 : Nat) : Int)] [] from ownS1 (Rep.own_flat (K := fun _ => True) _ _ (flatI _) (repI (inR_n _ (by omega)))))
   have HC8 := Lib.hid hC8
   have hel : (E.map encN).length ≤ 1073741824 := by rw [List.length_map]; omega
   have hlo8 : w.heap.size + 1 ≤ w8.heap.size := by have := hB8.size; have := HF7.out.kept.size; omega
   have hm8 : [encN (s4.list.length + 1)].length = 1 := rfl
   have hw8 : ∀ d ∈ [encN (s4.list.length + 1)], d.width = 1 := by intro d hd; simp only [List.mem_singleton] at hd; subst hd; exact encI_w _
   clear hC8 hR8 HG7
   go_wp2_with (with_reducible refine apF rfl _ _ 292 rfl (.int .i64 0) 8 Tryz.underlying292 zinfoZ zsizeZ (by decide) rfl HG8.out w7.heap.size 0 1 1 rfl (es := [encN (s4.list.length + 1)]) hm8 hw8 HC8.out HO8.out (by unfold maxLen; omega) (by omega) hlo8 ?_)
   intro ev9 w9 hG9 hk9 ho9
   have hB7 : Below w7.heap.size w7 w8 := hB8
   have hev8 : ∀ b ∈ ev.ownBlock.toList, b ∉ fp7 ∧ w.heap.size + 1 ≤ b := fun b hb => ⟨hev7 b (by simpa using hb), (HG8.out.block b (by simpa using hb)).1⟩
   have HS9 := Lib.hid ((HS7.out.below hB7).kept hk9 (fun b hb => (hev8 b hb).1))
   have HF9 := Lib.hid (((HFb.out.trans HF7.out).trans (Fr.below0 hB7 fp7)).other hk9 (fun b hb => by have := (hev8 b hb).2; omega))
   have HR9 := Lib.hid ((hk9.other _ (Nat.lt_of_lt_of_le (row_lt (HF7.out.row HR1.out hpr)) hB7.size) (fun q => by have := (hev8 _ q).2; omega)).trans (row_below (HF7.out.row HR1.out hpr) hB7 (row_lt (HF7.out.row HR1.out hpr))))
   have HG9 : Hid (Gr w9 (w.heap.size + 1) 3 1 ((E ++ [s4.list.length + 1]).map encN) ev9 []) := Lib.hid (by rw [List.map_append]; exact hG9)
   have hev9 : ∀ g, ev9.ownBlock = some g → g ∉ fp7 := fun g hg => by
    rcases ho9 with ho9 | ho9
    ·exact hev7 g (by rw [← ho9]; exact hg)
    ·rw [ho9] at hg
     simp only [Option.some.injEq] at hg
     exact HS7.out.notin (by have := hB7.size; omega)
   have hpz9 : w.heap.size + 1 < w9.heap.size := by have := hk9.size; have := hB7.size; have := HF7.out.kept.size; omega
   have HA := Lib.hid (show sArm (sC N) m t = (((s4.put (s4.slots.take t.slots.length)).add (opDrop m.fVars.length)).add (opOne 10)) from by unfold sArm; rw [← Hs4.out])
   have hal : (((s4.put (s4.slots.take t.slots.length)).add (opDrop m.fVars.length)).add (opOne 10)).list.length - 1 = s4.list.length + 1 := by simp only [CS.add_len, CS.put_list]; omega
   have HN : Hid (sArms (sC N) (L.drop (n + 1)) (E ++ [s4.list.length + 1]) (if L.drop (n + 1) = [] then (((s4.put (s4.slots.take t.slots.length)).add (opDrop m.fVars.length)).add (opOne 10)) else (((s4.put (s4.slots.take t.slots.length)).add (opDrop m.fVars.length)).add (opOne 10)).patch t.list.length) = sArms (sC N) L [] s) := Lib.hid (by rw [← HE.out, HQ.out, HA.out, hal])
   have gA : w9.cell? ⟨w.heap.size, 10, none⟩ = some (.slice (some ⟨b, off, none⟩) L.length cap) := row_cell HR9.out 10
   clear hG9 hk9 ho9 hB7 hev8 hB8 HG8 HC8 HO8 hel hlo8 hm8 hw8 hev7 HS7 HF7 HF1 HFb HG1 HR1 HX hj hal HA HQ HE
   by_cases hl2 : n + 1 < L.length
   ·have HN2 := Lib.hid (show _ from by have := HN.out; rw [if_neg (show ¬ L.drop (n + 1) = [] from by rw [List.drop_eq_nil_iff]; omega)] at this; exact this)
    have d1 : ((n : Int) < (L.length : Int) - 1) := by omega
    go_wp2_with fail
    clear gA
    have hS := HS9.out
    have hI0 : Below w9.heap.size w9 w9.drew := (Below.refl _ _).drew
    have hSd := hS.below hI0
    obtain ⟨gp, capp, curp, hvp, hgl, hgr, hgs, hgG⟩ := patch_at (P := Tryz.prog) hSd.gl (k := t.list.length) (by simp only [CS.add_len, CS.put_list]; omega) (n := (((((s4.put (s4.slots.take t.slots.length)).add (opDrop m.fVars.length)).add (opOne 10))).list.length : Int)) (inR_n _ (by simp only [CS.add_len, CS.put_list]; omega))
    subst hvp
    have gL : ∀ w', Below w9.heap.size w9 w' → w'.cell? ⟨c, 0, none⟩ = some (.slice (some ⟨gp, 0, none⟩) ((((s4.put (s4.slots.take t.slots.length)).add (opDrop m.fVars.length)).add (opOne 10))).list.length capp) := fun w' h => (hS.below h).cell.1
    have hk0 : (t.list.length : Nat) < ((((s4.put (s4.slots.take t.slots.length)).add (opDrop m.fVars.length)).add (opOne 10))).list.length := by simp only [CS.add_len, CS.put_list]; omega
    have hnn : ∃ n, n = ((((s4.put (s4.slots.take t.slots.length)).add (opDrop m.fVars.length)).add (opOne 10))).list.length := ⟨_, rfl⟩
    obtain ⟨n, hnn⟩ := hnn
    rw [← hnn] at hgG gL hk0
    replace hnn := Lib.hid hnn
    have hk1 : ((t.list.length : Nat) : Int) < (n : Int) := by omega
    have hk2 : ¬ ((t.list.length : Nat) : Int) < 0 := by omega
    refine rj 13 12 (Below w9.heap.size w9) (by kernel_rfl) rfl ?_
    refine rj_seg (fuel := 1) [0, 1, 2, 3, 4, 5, 6, 7, 8, 9, 10, 11] hI0 (by kernel_rfl) rfl ?_
    simp only [pick, pD, pE]
    refine sg_fix _ rfl (fun w' hI => by have := gL w' hI; go_simp; first | rfl | rw [if_neg (by omega)]) ?_
    simp only [Act.put, pA, pB, pC]
    refine sg_fix _ rfl (fun w' hI => by have := gL w' hI; go_simp; first | rfl | rw [if_neg (by omega)]) ?_
    simp only [Act.put, pA, pB, pC]
    refine sg_fix _ rfl (fun w' hI => by have := gL w' hI; go_simp; first | rfl | rw [if_neg (by omega)]) ?_
    simp only [Act.put, pA, pB, pC]
    refine sg_fix _ rfl (fun w' hI => by have := gL w' hI; go_simp; first | rfl | rw [if_neg (by omega)]) ?_
    simp only [Act.put, pA, pB, pC]
    refine sg_fix _ rfl (fun w' hI => by have := gL w' hI; go_simp; first | rfl | rw [if_neg (by omega)]) ?_
    simp only [Act.put, pA, pB, pC]
    refine sg_fix _ rfl (fun w' hI => by have := gL w' hI; go_simp; first | rfl | rw [if_neg (by omega)]) ?_
    simp only [Act.put, pA, pB, pC]
    refine sg_fix _ rfl (fun w' hI => by have := gL w' hI; go_simp; first | rfl | rw [if_neg (by omega)]) ?_
    simp only [Act.put, pA, pB, pC]
    refine sg_fix _ rfl (fun w' hI => by have := gL w' hI; go_simp; first | rfl | rw [if_neg (by omega)]) ?_
    simp only [Act.put, pA, pB, pC]
    refine sg_fix _ rfl (fun w' hI => by have := gL w' hI; go_simp; first | rfl | rw [if_neg (by omega)]) ?_
    simp only [Act.put, pA, pB, pC]
    refine sg_fix _ rfl (fun w' hI => by have := gL w' hI; go_simp; first | rfl | rw [if_neg (by omega)]) ?_
    simp only [Act.put, pA, pB, pC]
    refine sg_fix _ rfl (fun w' hI => by have := gL w' hI; go_simp; first | rfl | rw [if_neg (by omega)]) ?_
    simp only [Act.put, pA, pB, pC]
    refine sg_fix _ rfl (fun w' hI => by have := gL w' hI; go_simp; first | rfl | rw [if_neg (by omega)]) ?_
    simp only [Act.put, pA, pB, pC]
    refine sg_nil ?_
    refine rj_one (fuel := 0) 12 (by kernel_rfl) rfl (fun K0 hK0 => ?_)
    simp only [pick, pD, pE]
    refine oj_st rfl 3 (.tmp 92) (.tmp 90) rfl gp (t.list.length * 5 + 1) (by go_simp) (.int .i64 n) rfl infoZ1 rfl curp _ hgr hgs ?_
    intro w10 hp1
    refine hK0 _ _ (jw_done (by kernel_rfl)) (rj_end (by kernel_rfl) ?_)
    simp only [Act.put]
    replace hnn := hnn.out
    subst hnn
    obtain ⟨hS1, hF1⟩ := hSd.patch rfl hp1 (hgG _ hp1)
    have HS10 := Lib.hid hS1; have HF10 := Lib.hid (HF9.out.trans ((Fr.below0 hI0 _).trans hF1)); have HP10 := Lib.hid ((Fr.below0 hI0 _).trans hF1)
    clear hS1 hF1 hp1 hgG hgs hgr hgl hSd hS hI0 gL hk0 HS9
    have HG10 := Lib.hid (HG9.out.kept HP10.out.kept hev9 (by simp))
    have HR10 := Lib.hid (HP10.out.row HR9.out hp7)
    have hpz10 := Nat.lt_of_lt_of_le hpz9 HP10.out.kept.size
    clear HG9 HR9 hpz9 HP10
    go_wp2
    go_roundw
    case rel => exact ⟨_, n + 1, _, _, fp7, _, _, rfl, hlt, by go_num, HN2, HS10, HF10, HR10, hp7, hpz10, HG10, hev9, by rw [List.length_append, List.length_singleton, hEn], by
     intro k hk
     simp only [CS.patch_len, CS.add_len, CS.put_list]
     rcases List.mem_append.1 hk with hk | hk
     ·have := hEk k hk; omega
     ·simp only [List.mem_singleton] at hk; omega, by simp only [CS.patch_len, CS.add_len, CS.put_list]; omega, by simp only [CS.patch_slots, CS.add_slots, CS.put_slots, List.length_take]; omega⟩
    case measure => simp [intOf]; omega
   ·have HN2 := Lib.hid (show _ from by have := HN.out; rw [if_pos (show L.drop (n + 1) = [] from by rw [List.drop_eq_nil_iff]; omega)] at this; exact this)
    have d1 : ¬ ((n : Int) < (L.length : Int) - 1) := by omega
    go_wp2
    go_roundw
    case rel => exact ⟨_, n + 1, _, _, fp7, _, _, rfl, hlt, by go_num, HN2, HS9, HF9, HR9, hp7, hpz9, HG9, hev9, by rw [List.length_append, List.length_singleton, hEn], by
     intro k hk
     simp only [CS.add_len, CS.put_list]
     rcases List.mem_append.1 hk with hk | hk
     ·have := hEk k hk; omega
     ·simp only [List.mem_singleton] at hk; omega, by simp only [CS.add_len, CS.put_list]; omega, by simp only [CS.add_slots, CS.put_slots, List.length_take]; omega⟩
    case measure => simp [intOf]; omega
  ·obtain rfl : n = L.length := by omega
   have hE1 := HE.out
   rw [List.drop_length, sArms_nil] at hE1
   have HE1 := Lib.hid hE1
   clear HE HQ0 hE1 hE
   obtain ⟨ae, ce, rfl⟩ := gl_slice HGr.out
   have hEl : E.length ≤ 1048576 := by omega
   clear hEn
   go_wp2
   rename World => wf
   go_loopw [9] (fun i wx => ∃ (k : Nat) (u : CS) (fp2 : List Nat) (vl2 vs2 : Value), k ≤ E.length ∧ i = .int .i64 k ∧ Hid (cEnds (E.drop k) u = cEnds E t) ∧ Hid (Ste wx 169 173 9 lo c fp2 u vl2 vs2) ∧ Hid (Fr wf wx fp0 fp2) ∧ u.list.length = t.list.length) (fun i _ => E.length - (intOf i).toNat)
   case atStart => exact ⟨0, t, fp0, _, _, Nat.zero_le _, rfl, Lib.hid rfl, HSr, Lib.hid (Fr.refl _ _), rfl⟩
   case round =>
    clear HSr
    obtain ⟨k, u, fp1, vl1, vs1, hk, rfl, HE, HS1, HF1, hul⟩ := hrel
    by_cases hlt2 : k < E.length
    ·obtain ⟨ge, ce', hve, -⟩ := gr_leaf (enc := encN) (fun n => .int .i64 (n : Int)) (fun _ => rfl) HGr.out hlt2
     simp only [Value.slice.injEq, true_and] at hve
     obtain ⟨rfl, rfl⟩ := hve
     have hpG := HGr.out.kept HF1.out.kept hev (by simp)
     have HG1 := Lib.hid hpG
     have HQ := Lib.hid (show ∀ x, cEnds (E.drop k) x = cEnds (E.drop (k + 1)) (x.patch E[k]) from fun x => by rw [List.drop_eq_getElem_cons hlt2, cEnds_cons])
     have hkl := hEk _ (List.getElem_mem hlt2)
     have HL := Lib.hid (show ∀ w', Below wr.heap.size wr w' → w'.cell? ⟨ge, k, none⟩ = some (.int .i64 (E[k] : Nat)) from fun w' h => by
      obtain ⟨g2, c2, hv2, h2⟩ := gr_leaf (enc := encN) (fun n => .int .i64 (n : Int)) (fun _ => rfl) (hpG.below h) hlt2
      simp only [Value.slice.injEq, true_and, Option.some.injEq, Addr.mk.injEq, and_true] at hv2
      rw [hv2.1]
      exact h2)
     clear hpG
     generalize E[k] = j at *
     go_wp2_with fail
     have hS := HS1.out
     have hI0 : Below wr.heap.size wr wr.drew := (Below.refl _ _).drew
     have gE := HL.out
     have hSd := hS.below hI0
     obtain ⟨gp, capp, curp, hvp, hgl, hgr, hgs, hgG⟩ := patch_at (P := Tryz.prog) hSd.gl (k := j) (by omega) (n := ((u).list.length : Int)) (inR_n _ (by omega))
     subst hvp
     have gL : ∀ w', Below wr.heap.size wr w' → w'.cell? ⟨c, 0, none⟩ = some (.slice (some ⟨gp, 0, none⟩) (u).list.length capp) := fun w' h => (hS.below h).cell.1
     have hk0 : (j : Nat) < (u).list.length := by omega
     have hnn : ∃ n, n = (u).list.length := ⟨_, rfl⟩
     obtain ⟨n, hnn⟩ := hnn
     rw [← hnn] at hgG gL hk0
     replace hnn := Lib.hid hnn
     have hk1 : ((j : Nat) : Int) < (n : Int) := by omega
     have hk2 : ¬ ((j : Nat) : Int) < 0 := by omega
     refine rj 16 15 (Below wr.heap.size wr) (by kernel_rfl) rfl ?_
     refine rj_seg (fuel := 1) [0, 1, 2, 3, 4, 5, 6, 7, 8, 9, 10, 11, 12, 13, 14] hI0 (by kernel_rfl) rfl ?_
     simp only [pick, pD, pE]
     refine sg_fix _ rfl (fun w' hI => by have := gE w' hI; have := gL w' hI; go_simp; first | rfl | rw [if_neg (by omega)]) ?_
     simp only [Act.put, pA, pB, pC]
     refine sg_fix _ rfl (fun w' hI => by have := gE w' hI; have := gL w' hI; go_simp; first | rfl | rw [if_neg (by omega)]) ?_
     simp only [Act.put, pA, pB, pC]
     refine sg_fix _ rfl (fun w' hI => by have := gE w' hI; have := gL w' hI; go_simp; first | rfl | rw [if_neg (by omega)]) ?_
     simp only [Act.put, pA, pB, pC]
     refine sg_fix _ rfl (fun w' hI => by have := gE w' hI; have := gL w' hI; go_simp; first | rfl | rw [if_neg (by omega)]) ?_
     simp only [Act.put, pA, pB, pC]
     refine sg_fix _ rfl (fun w' hI => by have := gE w' hI; have := gL w' hI; go_simp; first | rfl | rw [if_neg (by omega)]) ?_
     simp only [Act.put, pA, pB, pC]
     refine sg_fix _ rfl (fun w' hI => by have := gE w' hI; have := gL w' hI; go_simp; first | rfl | rw [if_neg (by omega)]) ?_
     simp only [Act.put, pA, pB, pC]
     refine sg_fix _ rfl (fun w' hI => by have := gE w' hI; have := gL w' hI; go_simp; first | rfl | rw [if_neg (by omega)]) ?_
     simp only [Act.put, pA, pB, pC]
     refine sg_fix _ rfl (fun w' hI => by have := gE w' hI; have := gL w' hI; go_simp; first | rfl | rw [if_neg (by omega)]) ?_
     simp only [Act.put, pA, pB, pC]
     refine sg_fix _ rfl (fun w' hI => by have := gE w' hI; have := gL w' hI; go_simp; first | rfl | rw [if_neg (by omega)]) ?_
     simp only [Act.put, pA, pB, pC]
     refine sg_fix _ rfl (fun w' hI => by have := gE w' hI; have := gL w' hI; go_simp; first | rfl | rw [if_neg (by omega)]) ?_
     simp only [Act.put, pA, pB, pC]
     refine sg_fix _ rfl (fun w' hI => by have := gE w' hI; have := gL w' hI; go_simp; first | rfl | rw [if_neg (by omega)]) ?_
     simp only [Act.put, pA, pB, pC]
     refine sg_fix _ rfl (fun w' hI => by have := gE w' hI; have := gL w' hI; go_simp; first | rfl | rw [if_neg (by omega)]) ?_
     simp only [Act.put, pA, pB, pC]
     refine sg_fix _ rfl (fun w' hI => by have := gE w' hI; have := gL w' hI; go_simp; first | rfl | rw [if_neg (by omega)]) ?_
     simp only [Act.put, pA, pB, pC]
     refine sg_fix _ rfl (fun w' hI => by have := gE w' hI; have := gL w' hI; go_simp; first | rfl | rw [if_neg (by omega)]) ?_
     simp only [Act.put, pA, pB, pC]
     refine sg_fix _ rfl (fun w' hI => by have := gE w' hI; have := gL w' hI; go_simp; first | rfl | rw [if_neg (by omega)]) ?_
     simp only [Act.put, pA, pB, pC]
     refine sg_nil ?_
     refine rj_one (fuel := 0) 15 (by kernel_rfl) rfl (fun K0 hK0 => ?_)
     simp only [pick, pD, pE]
     refine oj_st rfl 3 (.tmp 113) (.tmp 111) rfl gp (j * 5 + 1) (by go_simp) (.int .i64 n) rfl infoZ1 rfl curp _ hgr hgs ?_
     intro w2 hp1
     refine hK0 _ _ (jw_done (by kernel_rfl)) (rj_end (by kernel_rfl) ?_)
     simp only [Act.put]
     replace hnn := hnn.out
     subst hnn
     obtain ⟨hS1, hF1⟩ := hSd.patch rfl hp1 (hgG _ hp1)
     have HS2 := Lib.hid hS1; have HF2 := Lib.hid (HF1.out.trans ((Fr.below0 hI0 _).trans hF1))
     clear hS1 hF1 hp1 hgG hgs hgr hgl hSd hS hI0 gL hk0 HS1
     have hul2 : (u.patch j).list.length = t.list.length := (CS.patch_len _ _).trans hul
     go_wp2
     go_roundw
     case rel => exact ⟨k + 1, u.patch j, _, _, _, hlt2, by go_num, Lib.hid ((HQ.out u).symm.trans HE.out), HS2, HF2, hul2⟩
     case measure => simp [intOf]; omega
    ·obtain rfl : k = E.length := by omega
     have hE0 := HE.out
     rw [List.drop_length, cEnds_nil] at hE0
     have hfin : cEnds (sArms (sC N) L [] s).1 (sArms (sC N) L [] s).2 = u := by rw [← HE1.out]; exact hE0.symm
     have Hfin := Lib.hid hfin
     clear hfin hE0
     go_wp2
     first | go_end0 | ((try simp only [Exit.inBlock, Exit.then]); refine bodyPost_ret (results_none rfl _ _ _) rfl ?_)
     rw [Hfin.out]
     exact ⟨rfl, fp1, vl1, vs1, HS1.out, HFr.out.trans HF1.out⟩
theorem infoCoL (c4 c5 c6 c7 c8 c9 c10 : Value) (x : TCore) : (Tryz.prog.info? 136).map (·.size) = some ([.int .i64 x.fKind, .string x.fTrait, .string x.fName, .int .i64 x.fN, c4, c5, c6, c7, c8, c9, c10] : List Value).length := infoCo
set_option maxRecDepth 100000 in
set_option maxHeartbeats 4000000 in
theorem stepspecCore (N : Nat) (ih : CPspec N) : CPspec (N + 1) := by
 intro x hx
 unfold WK
 intro hz s hl hs w lo c fp vl vs hS K hK cs h
 have Hrep := Lib.hid h
 obtain ⟨c4, c5, c6, c7, c8, c9, c10, rfl, hKd, hTr, hNm, hNn, -, -, -, hAr, -⟩ := TCore.opn h
 clear h
 have hcz := core_sz x
 obtain ⟨a, cap, rfl, hcc, hm, -, -⟩ := open_sl TCore.width hAr
 unfold maxLen at hm
 have hB0 : Below w.heap.size w (w.alloc (.cells #[.int .i64 x.fKind, .string x.fTrait, .string x.fName, .int .i64 x.fN, c4, c5, c6, c7, c8, .slice a x.fArgs.length cap, c10] 136)) := (Below.refl _ _).alloc (Nat.le_refl _) _
 have hKw : ∀ b, K b → b < w.heap.size := fun b h => Nat.lt_of_lt_of_le (hK b h) hS.lo
 have HS0 := Lib.hid (hS.below hB0)
 have HF0 := Lib.hid (Fr.below0 hB0 fp)
 have hR0 : (w.alloc (.cells #[.int .i64 x.fKind, .string x.fTrait, .string x.fName, .int .i64 x.fN, c4, c5, c6, c7, c8, .slice a x.fArgs.length cap, c10] 136)).heap[w.heap.size]? = some (.cells #[.int .i64 x.fKind, .string x.fTrait, .string x.fName, .int .i64 x.fN, c4, c5, c6, c7, c8, .slice a x.fArgs.length cap, c10] 136 (0, 0)) := alloc_at rfl
 have HR0 := Lib.hid hR0
 have hC0 : Cells (w.alloc (.cells #[.int .i64 x.fKind, .string x.fTrait, .string x.fName, .int .i64 x.fN, c4, c5, c6, c7, c8, .slice a x.fArgs.length cap, c10] 136)) w.heap.size 0 [.int .i64 x.fKind, .string x.fTrait, .string x.fName, .int .i64 x.fN, c4, c5, c6, c7, c8, .slice a x.fArgs.length cap, c10] := row_cells hR0
 have hpn : w.heap.size ∉ fp := hS.notin (Nat.le_refl _)
 have HA := Lib.hid (Rep.ext hB0 hKw hAr)
 replace Hrep := Lib.hid (Rep.ext hB0 hKw Hrep.out)
 have hi := infoCoL c4 c5 c6 c7 c8 (.slice a x.fArgs.length cap) c10 x
 have Hb0 := Lib.hid HS0.out.hb
 have Hl0 := Lib.hid HS0.out.lo
 have Hxa := Lib.hid (show ∀ y ∈ x.fArgs, SizeOf.sizeOf y < N from fun y hy => by have := List.sizeOf_lt_of_mem hy; have := TCore.lt_fArgs x; omega)
 have hza : szs TCore.sz x.fArgs ≤ 1048576 := by omega
 have Hba := Lib.hid (bd_args (bd_sC N) x.fArgs s)
 have hla : x.fArgs.length ≤ 1048576 := by unfold szs at hza; omega
 show Calls _ _ _ _ fun e w' => e = .returned (.tuple #[]) ∧ Done w w' 169 173 9 lo c fp (sCore (sC N) x s)
 clear hR0 hB0 hAr
 by_cases k1 : x.fKind = 1
 ·have hq : sCore (sC N) x s = s.add (instr 1 x.fN 0 ⟨#[]⟩ ⟨#[]⟩) := by unfold sCore; rw [if_pos k1]
  rw [hq]
  clear hq
  have b1 : (x.fKind == 1) = true := by simpa using k1
  have Hk1 := Lib.hid k1; clear k1
  have HG0 := Lib.hid (Fr.refl (w.alloc (.cells #[.int .i64 x.fKind, .string x.fTrait, .string x.fName, .int .i64 x.fN, c4, c5, c6, c7, c8, .slice a x.fArgs.length cap, c10] 136)) fp)
  go_enter Tryz.func94, Tryz.ntmps94
  go_wp2_with fail
  refine (specAdd_c (instr 1 x.fN 0 ⟨#[]⟩ ⟨#[]⟩) (inR_n 1 (by decide)) hNn (inR_n 0 (by decide)) sz0 sz0 s (by omega) _ lo c _ _ _ HS0.out).mono ?_
  rintro e w1 ⟨rfl, fp1, vl1, vs1, hS1, hF1⟩
  have HS1 := Lib.hid hS1; have HG1 := Lib.hid (HG0.out.trans hF1)
  clear hS1 hF1 HS0
  go_wp2
  first | go_end0 | ((try simp only [Exit.inBlock, Exit.then]); refine bodyPost_ret (results_none rfl _ _ _) rfl ?_)
  exact ⟨rfl, fp1, vl1, vs1, HS1.out, HF0.out.trans HG1.out⟩
 have b1 : (x.fKind == 1) = false := by simpa using k1
 by_cases k2 : x.fKind = 2
 ·have hq : sCore (sC N) x s = s.add (instr 2 (if x.fN = 1 then 1 else 0) 0 ⟨#[]⟩ ⟨#[]⟩) := by unfold sCore; rw [if_neg k1, if_pos k2]
  rw [hq]
  clear hq
  have b2 : (x.fKind == 2) = true := by simpa using k2
  have Hk2 := Lib.hid k2; clear k2
  have HG0 := Lib.hid (Fr.refl (w.alloc (.cells #[.int .i64 x.fKind, .string x.fTrait, .string x.fName, .int .i64 x.fN, c4, c5, c6, c7, c8, .slice a x.fArgs.length cap, c10] 136)) fp)
  by_cases hn1 : x.fN = 1
  ·rw [if_pos hn1]
   have b0 : (x.fN == 1) = true := by simpa using hn1
   clear hn1
   go_enter Tryz.func94, Tryz.ntmps94
   go_wp2_with fail
   refine (specAdd_c (instr 2 1 0 ⟨#[]⟩ ⟨#[]⟩) (inR_n 2 (by decide)) (inR_n 1 (by decide)) (inR_n 0 (by decide)) sz0 sz0 s (by omega) _ lo c _ _ _ HS0.out).mono ?_
   rintro e w1 ⟨rfl, fp1, vl1, vs1, hS1, hF1⟩
   have HS1 := Lib.hid hS1; have HG1 := Lib.hid (HG0.out.trans hF1)
   clear hS1 hF1 HS0
   go_wp2
   first | go_end0 | ((try simp only [Exit.inBlock, Exit.then]); refine bodyPost_ret (results_none rfl _ _ _) rfl ?_)
   exact ⟨rfl, fp1, vl1, vs1, HS1.out, HF0.out.trans HG1.out⟩
  ·rw [if_neg hn1]
   have b0 : (x.fN == 1) = false := by simpa using hn1
   clear hn1
   go_enter Tryz.func94, Tryz.ntmps94
   go_wp2_with fail
   refine (specAdd_c (instr 2 0 0 ⟨#[]⟩ ⟨#[]⟩) (inR_n 2 (by decide)) (inR_n 0 (by decide)) (inR_n 0 (by decide)) sz0 sz0 s (by omega) _ lo c _ _ _ HS0.out).mono ?_
   rintro e w1 ⟨rfl, fp1, vl1, vs1, hS1, hF1⟩
   have HS1 := Lib.hid hS1; have HG1 := Lib.hid (HG0.out.trans hF1)
   clear hS1 hF1 HS0
   go_wp2
   first | go_end0 | ((try simp only [Exit.inBlock, Exit.then]); refine bodyPost_ret (results_none rfl _ _ _) rfl ?_)
   exact ⟨rfl, fp1, vl1, vs1, HS1.out, HF0.out.trans HG1.out⟩
 have b2 : (x.fKind == 2) = false := by simpa using k2
 by_cases k3 : x.fKind = 3
 ·have hq : sCore (sC N) x s = (slotS x.fName s).add (instr 3 (slotN x.fName s) 0 ⟨#[]⟩ ⟨#[]⟩) := by unfold sCore; rw [if_neg k1, if_neg k2, if_pos k3]; exact sVar_eq _ _
  rw [hq]
  clear hq
  have b3 : (x.fKind == 3) = true := by simpa using k3
  have Hk3 := Lib.hid k3; clear k3
  have HG0 := Lib.hid (Fr.refl (w.alloc (.cells #[.int .i64 x.fKind, .string x.fTrait, .string x.fName, .int .i64 x.fN, c4, c5, c6, c7, c8, .slice a x.fArgs.length cap, c10] 136)) fp)
  go_enter Tryz.func94, Tryz.ntmps94
  go_wp2_with fail
  refine (specSlot_c x.fName s (by omega) _ lo c _ _ _ HS0.out).mono ?_
  rintro e w1 ⟨rfl, fp1, vl1, vs1, hS1, hF1⟩
  have hsn := slotN_le x.fName s
  have hsl := slotS_list x.fName s
  obtain ⟨s1, Hs1⟩ : ∃ t_, t_ = slotS x.fName s := ⟨_, rfl⟩
  rw [← Hs1] at hS1 hsl
  have hll : s1.list.length ≤ 1073741824 := by rw [hsl]; omega
  clear hsl
  replace Hs1 := Lib.hid Hs1
  have HS1 := Lib.hid hS1; have HG1 := Lib.hid hF1
  clear hS1 hF1
  go_wp2_with fail
  refine (specAdd_c (instr 3 (slotN x.fName s : Nat) 0 ⟨#[]⟩ ⟨#[]⟩) (inR_n 3 (by decide)) (inR_n _ (by omega)) (inR_n 0 (by decide)) sz0 sz0 s1 (by omega) _ lo c _ _ _ HS1.out).mono ?_
  rintro e w2 ⟨rfl, fp2, vl2, vs2, hS1, hF1⟩
  have HS2 := Lib.hid hS1; have HG2 := Lib.hid (HG1.out.trans hF1)
  clear hS1 hF1 HS1
  go_wp2
  first | go_end0 | ((try simp only [Exit.inBlock, Exit.then]); refine bodyPost_ret (results_none rfl _ _ _) rfl ?_)
  rw [← Hs1.out]
  exact ⟨rfl, fp2, vl2, vs2, HS2.out, HF0.out.trans HG2.out⟩
 have b3 : (x.fKind == 3) = false := by simpa using k3
 by_cases k8 : x.fKind = 8
 ·have hq : sCore (sC N) x s = sLet (sC N) x s := by unfold sCore; rw [if_neg k1, if_neg k2, if_neg k3, if_pos k8]
  rw [hq]
  clear hq
  have b8 : (x.fKind == 8) = true := by simpa using k8
  have Hk8 := Lib.hid k8; clear k8
  go_enter Tryz.func94, Tryz.ntmps94
  go_wp2_with (with_reducible refine ld rfl 136 _ rfl w.heap.size 0 rfl [.int .i64 x.fKind, .string x.fTrait, .string x.fName, .int .i64 x.fN, c4, c5, c6, c7, c8, .slice a x.fArgs.length cap, c10] hC0 _ Tryz.underlying136 hi ?_)
  refine (specLet_c N ih x hx hz s hl hs _ lo c _ _ _ HS0.out K hK _ Hrep.out).mono ?_
  rintro e w1 ⟨rfl, hD⟩
  go_wp2
  first | go_end0 | ((try simp only [Exit.inBlock, Exit.then]); refine bodyPost_ret (results_none rfl _ _ _) rfl ?_)
  obtain ⟨fp1, vl1, vs1, hS1, hF1⟩ := hD
  exact ⟨rfl, fp1, vl1, vs1, hS1, HF0.out.trans hF1⟩
 have b8 : (x.fKind == 8) = false := by simpa using k8
 by_cases k9 : x.fKind = 9
 ·have hq : sCore (sC N) x s = sIf (sC N) x s := by unfold sCore; rw [if_neg k1, if_neg k2, if_neg k3, if_neg k8, if_pos k9]
  rw [hq]
  clear hq
  have b9 : (x.fKind == 9) = true := by simpa using k9
  have Hk9 := Lib.hid k9; clear k9
  go_enter Tryz.func94, Tryz.ntmps94
  go_wp2_with (with_reducible refine ld rfl 136 _ rfl w.heap.size 0 rfl [.int .i64 x.fKind, .string x.fTrait, .string x.fName, .int .i64 x.fN, c4, c5, c6, c7, c8, .slice a x.fArgs.length cap, c10] hC0 _ Tryz.underlying136 hi ?_)
  refine (specIf_c N ih x hx hz s hl hs _ lo c _ _ _ HS0.out K hK _ Hrep.out).mono ?_
  rintro e w1 ⟨rfl, hD⟩
  go_wp2
  first | go_end0 | ((try simp only [Exit.inBlock, Exit.then]); refine bodyPost_ret (results_none rfl _ _ _) rfl ?_)
  obtain ⟨fp1, vl1, vs1, hS1, hF1⟩ := hD
  exact ⟨rfl, fp1, vl1, vs1, hS1, HF0.out.trans hF1⟩
 have b9 : (x.fKind == 9) = false := by simpa using k9
 by_cases k7 : x.fKind = 7
 ·have hq : sCore (sC N) x s = sCase (sC N) x (cArgs (sC N) x.fArgs s) := by unfold sCore; rw [if_neg k1, if_neg k2, if_neg k3, if_neg k8, if_neg k9, if_pos k7]
  rw [hq]
  clear hq
  have b7 : (x.fKind == 7) = true := by simpa using k7
  have Hk7 := Lib.hid k7; clear k7
  go_enter Tryz.func94, Tryz.ntmps94
  go_wp2_with fail
  refine (specArgs_c N ih x.fArgs Hxa.out hza s (by omega) (by omega) _ lo c _ _ _ HS0.out K hK _ HA.out).mono ?_
  rintro e w1 ⟨rfl, fp1, vl1, vs1, hS1, hF1⟩
  have hba := Hba.out
  obtain ⟨s1, Hs1⟩ : ∃ t_, t_ = cArgs (sC N) x.fArgs s := ⟨_, rfl⟩
  rw [← Hs1] at hS1 hba
  replace Hs1 := Lib.hid Hs1
  have HS1 := Lib.hid hS1; have hF1' := hF1
  have HG1 := Lib.hid hF1
  clear hS1 hF1 Hba
  have hBB := HG1.out.below Hb0.out Hl0.out
  have HC1 := Lib.hid (Rep.ext hBB hK Hrep.out)
  have hR1 := HG1.out.row HR0.out hpn
  have hC0 : Cells w1 w.heap.size 0 [.int .i64 x.fKind, .string x.fTrait, .string x.fName, .int .i64 x.fN, c4, c5, c6, c7, c8, .slice a x.fArgs.length cap, c10] := row_cells hR1
  clear hBB hF1' hR1
  go_wp2_with (with_reducible refine ld rfl 136 _ rfl w.heap.size 0 rfl [.int .i64 x.fKind, .string x.fTrait, .string x.fName, .int .i64 x.fN, c4, c5, c6, c7, c8, .slice a x.fArgs.length cap, c10] hC0 _ Tryz.underlying136 hi ?_)
  refine (specCase_c N ih x hx hz s1 (by omega) (by omega) _ lo c _ _ _ HS1.out K hK _ HC1.out).mono ?_
  rintro e w2 ⟨rfl, hD⟩
  go_wp2
  first | go_end0 | ((try simp only [Exit.inBlock, Exit.then]); refine bodyPost_ret (results_none rfl _ _ _) rfl ?_)
  rw [← Hs1.out]
  obtain ⟨fp2, vl2, vs2, hS2, hF2⟩ := hD
  exact ⟨rfl, fp2, vl2, vs2, hS2, HF0.out.trans (HG1.out.trans hF2)⟩
 have b7 : (x.fKind == 7) = false := by simpa using k7
 by_cases k4 : x.fKind = 4
 ·have hq : sCore (sC N) x s = (cArgs (sC N) x.fArgs s).add (opOf x) := by unfold sCore; rw [if_neg (by omega), if_neg (by omega), if_neg (by omega), if_neg (by omega), if_neg (by omega), if_neg (by omega), if_pos (show isOp x.fKind by unfold isOp; omega)]
  rw [hq]
  clear hq
  have b4 : (x.fKind == 4) = true := by simpa using k4
  have ho : opOf x = instr 6 x.fN (x.fArgs.length : Nat) ⟨#[]⟩ ⟨#[]⟩ := by unfold opOf; rw [if_neg (by omega), if_neg (by omega), if_neg (by omega), if_neg (by omega)]
  rw [ho]
  clear ho
  have Hk4 := Lib.hid k4; clear k4
  go_enter Tryz.func94, Tryz.ntmps94
  go_wp2_with fail
  refine (specArgs_c N ih x.fArgs Hxa.out hza s (by omega) (by omega) _ lo c _ _ _ HS0.out K hK _ HA.out).mono ?_
  rintro e w1 ⟨rfl, fp1, vl1, vs1, hS1, hF1⟩
  have hba := Hba.out
  obtain ⟨s1, Hs1⟩ : ∃ t_, t_ = cArgs (sC N) x.fArgs s := ⟨_, rfl⟩
  rw [← Hs1] at hS1 hba
  replace Hs1 := Lib.hid Hs1
  have HS1 := Lib.hid hS1; have hF1' := hF1
  have HG1 := Lib.hid hF1
  clear hS1 hF1 Hba
  have g1 : w1.cell? ⟨w.heap.size, 1, none⟩ = some (.string x.fTrait) := row_cell (HG1.out.row HR0.out hpn) 1
  have g2 : w1.cell? ⟨w.heap.size, 2, none⟩ = some (.string x.fName) := row_cell (HG1.out.row HR0.out hpn) 2
  have g3 : w1.cell? ⟨w.heap.size, 3, none⟩ = some (.int .i64 x.fN) := row_cell (HG1.out.row HR0.out hpn) 3
  have g9 : w1.cell? ⟨w.heap.size, 9, none⟩ = some (.slice a x.fArgs.length cap) := row_cell (HG1.out.row HR0.out hpn) 9
  clear hF1'
  go_wp2_with fail
  refine (specAdd_c (instr 6 x.fN (x.fArgs.length : Nat) ⟨#[]⟩ ⟨#[]⟩) (inR_n 6 (by decide)) hNn (inR_n _ (by omega)) sz0 sz0 s1 (by omega) _ lo c _ _ _ HS1.out).mono ?_
  rintro e w2 ⟨rfl, fp2, vl2, vs2, hS1, hF1⟩
  have HS2 := Lib.hid hS1; have HG2 := Lib.hid (HG1.out.trans hF1)
  clear hS1 hF1 HS1
  go_wp2
  first | go_end0 | ((try simp only [Exit.inBlock, Exit.then]); refine bodyPost_ret (results_none rfl _ _ _) rfl ?_)
  rw [← Hs1.out]
  exact ⟨rfl, fp2, vl2, vs2, HS2.out, HF0.out.trans HG2.out⟩
 have b4 : (x.fKind == 4) = false := by simpa using k4
 by_cases k5 : x.fKind = 5
 ·have hq : sCore (sC N) x s = (cArgs (sC N) x.fArgs s).add (opOf x) := by unfold sCore; rw [if_neg (by omega), if_neg (by omega), if_neg (by omega), if_neg (by omega), if_neg (by omega), if_neg (by omega), if_pos (show isOp x.fKind by unfold isOp; omega)]
  rw [hq]
  clear hq
  have b5 : (x.fKind == 5) = true := by simpa using k5
  by_cases hn1 : x.fN = -1
  ·have ho : opOf x = instr 7 0 (x.fArgs.length : Nat) x.fTrait x.fName := by unfold opOf; rw [if_neg (by omega), if_neg (by omega), if_neg (by omega), if_pos (by omega)]
   rw [ho]
   clear ho
   have b0 : (x.fN == -1) = true := by simpa using hn1
   clear hn1
   have Hk5 := Lib.hid k5; clear k5
   go_enter Tryz.func94, Tryz.ntmps94
   go_wp2_with fail
   refine (specArgs_c N ih x.fArgs Hxa.out hza s (by omega) (by omega) _ lo c _ _ _ HS0.out K hK _ HA.out).mono ?_
   rintro e w1 ⟨rfl, fp1, vl1, vs1, hS1, hF1⟩
   have hba := Hba.out
   obtain ⟨s1, Hs1⟩ : ∃ t_, t_ = cArgs (sC N) x.fArgs s := ⟨_, rfl⟩
   rw [← Hs1] at hS1 hba
   replace Hs1 := Lib.hid Hs1
   have HS1 := Lib.hid hS1; have hF1' := hF1
   have HG1 := Lib.hid hF1
   clear hS1 hF1 Hba
   have g1 : w1.cell? ⟨w.heap.size, 1, none⟩ = some (.string x.fTrait) := row_cell (HG1.out.row HR0.out hpn) 1
   have g2 : w1.cell? ⟨w.heap.size, 2, none⟩ = some (.string x.fName) := row_cell (HG1.out.row HR0.out hpn) 2
   have g3 : w1.cell? ⟨w.heap.size, 3, none⟩ = some (.int .i64 x.fN) := row_cell (HG1.out.row HR0.out hpn) 3
   have g9 : w1.cell? ⟨w.heap.size, 9, none⟩ = some (.slice a x.fArgs.length cap) := row_cell (HG1.out.row HR0.out hpn) 9
   clear hF1'
   go_wp2_with fail
   refine (specAdd_c (instr 7 0 (x.fArgs.length : Nat) x.fTrait x.fName) (inR_n 7 (by decide)) (inR_n 0 (by decide)) (inR_n _ (by omega)) hTr hNm s1 (by omega) _ lo c _ _ _ HS1.out).mono ?_
   rintro e w2 ⟨rfl, fp2, vl2, vs2, hS1, hF1⟩
   have HS2 := Lib.hid hS1; have HG2 := Lib.hid (HG1.out.trans hF1)
   clear hS1 hF1 HS1
   go_wp2
   first | go_end0 | ((try simp only [Exit.inBlock, Exit.then]); refine bodyPost_ret (results_none rfl _ _ _) rfl ?_)
   rw [← Hs1.out]
   exact ⟨rfl, fp2, vl2, vs2, HS2.out, HF0.out.trans HG2.out⟩
  ·have ho : opOf x = instr 6 x.fN (x.fArgs.length : Nat) ⟨#[]⟩ ⟨#[]⟩ := by unfold opOf; rw [if_neg (by omega), if_neg (by omega), if_neg (by omega), if_neg (by omega)]
   rw [ho]
   clear ho
   have b0 : (x.fN == -1) = false := by simpa using hn1
   clear hn1
   have Hk5 := Lib.hid k5; clear k5
   go_enter Tryz.func94, Tryz.ntmps94
   go_wp2_with fail
   refine (specArgs_c N ih x.fArgs Hxa.out hza s (by omega) (by omega) _ lo c _ _ _ HS0.out K hK _ HA.out).mono ?_
   rintro e w1 ⟨rfl, fp1, vl1, vs1, hS1, hF1⟩
   have hba := Hba.out
   obtain ⟨s1, Hs1⟩ : ∃ t_, t_ = cArgs (sC N) x.fArgs s := ⟨_, rfl⟩
   rw [← Hs1] at hS1 hba
   replace Hs1 := Lib.hid Hs1
   have HS1 := Lib.hid hS1; have hF1' := hF1
   have HG1 := Lib.hid hF1
   clear hS1 hF1 Hba
   have g1 : w1.cell? ⟨w.heap.size, 1, none⟩ = some (.string x.fTrait) := row_cell (HG1.out.row HR0.out hpn) 1
   have g2 : w1.cell? ⟨w.heap.size, 2, none⟩ = some (.string x.fName) := row_cell (HG1.out.row HR0.out hpn) 2
   have g3 : w1.cell? ⟨w.heap.size, 3, none⟩ = some (.int .i64 x.fN) := row_cell (HG1.out.row HR0.out hpn) 3
   have g9 : w1.cell? ⟨w.heap.size, 9, none⟩ = some (.slice a x.fArgs.length cap) := row_cell (HG1.out.row HR0.out hpn) 9
   clear hF1'
   go_wp2_with fail
   refine (specAdd_c (instr 6 x.fN (x.fArgs.length : Nat) ⟨#[]⟩ ⟨#[]⟩) (inR_n 6 (by decide)) hNn (inR_n _ (by omega)) sz0 sz0 s1 (by omega) _ lo c _ _ _ HS1.out).mono ?_
   rintro e w2 ⟨rfl, fp2, vl2, vs2, hS1, hF1⟩
   have HS2 := Lib.hid hS1; have HG2 := Lib.hid (HG1.out.trans hF1)
   clear hS1 hF1 HS1
   go_wp2
   first | go_end0 | ((try simp only [Exit.inBlock, Exit.then]); refine bodyPost_ret (results_none rfl _ _ _) rfl ?_)
   rw [← Hs1.out]
   exact ⟨rfl, fp2, vl2, vs2, HS2.out, HF0.out.trans HG2.out⟩
 have b5 : (x.fKind == 5) = false := by simpa using k5
 by_cases k6 : x.fKind = 6
 ·have hq : sCore (sC N) x s = (cArgs (sC N) x.fArgs s).add (opOf x) := by unfold sCore; rw [if_neg (by omega), if_neg (by omega), if_neg (by omega), if_neg (by omega), if_neg (by omega), if_neg (by omega), if_pos (show isOp x.fKind by unfold isOp; omega)]
  rw [hq]
  clear hq
  have b6 : (x.fKind == 6) = true := by simpa using k6
  have ho : opOf x = instr 8 0 (x.fArgs.length : Nat) ⟨#[]⟩ x.fName := by unfold opOf; rw [if_pos k6]
  rw [ho]
  clear ho
  have Hk6 := Lib.hid k6; clear k6
  go_enter Tryz.func94, Tryz.ntmps94
  go_wp2_with fail
  refine (specArgs_c N ih x.fArgs Hxa.out hza s (by omega) (by omega) _ lo c _ _ _ HS0.out K hK _ HA.out).mono ?_
  rintro e w1 ⟨rfl, fp1, vl1, vs1, hS1, hF1⟩
  have hba := Hba.out
  obtain ⟨s1, Hs1⟩ : ∃ t_, t_ = cArgs (sC N) x.fArgs s := ⟨_, rfl⟩
  rw [← Hs1] at hS1 hba
  replace Hs1 := Lib.hid Hs1
  have HS1 := Lib.hid hS1; have hF1' := hF1
  have HG1 := Lib.hid hF1
  clear hS1 hF1 Hba
  have g1 : w1.cell? ⟨w.heap.size, 1, none⟩ = some (.string x.fTrait) := row_cell (HG1.out.row HR0.out hpn) 1
  have g2 : w1.cell? ⟨w.heap.size, 2, none⟩ = some (.string x.fName) := row_cell (HG1.out.row HR0.out hpn) 2
  have g3 : w1.cell? ⟨w.heap.size, 3, none⟩ = some (.int .i64 x.fN) := row_cell (HG1.out.row HR0.out hpn) 3
  have g9 : w1.cell? ⟨w.heap.size, 9, none⟩ = some (.slice a x.fArgs.length cap) := row_cell (HG1.out.row HR0.out hpn) 9
  clear hF1'
  go_wp2_with fail
  refine (specAdd_c (instr 8 0 (x.fArgs.length : Nat) ⟨#[]⟩ x.fName) (inR_n 8 (by decide)) (inR_n 0 (by decide)) (inR_n _ (by omega)) sz0 hNm s1 (by omega) _ lo c _ _ _ HS1.out).mono ?_
  rintro e w2 ⟨rfl, fp2, vl2, vs2, hS1, hF1⟩
  have HS2 := Lib.hid hS1; have HG2 := Lib.hid (HG1.out.trans hF1)
  clear hS1 hF1 HS1
  go_wp2
  first | go_end0 | ((try simp only [Exit.inBlock, Exit.then]); refine bodyPost_ret (results_none rfl _ _ _) rfl ?_)
  rw [← Hs1.out]
  exact ⟨rfl, fp2, vl2, vs2, HS2.out, HF0.out.trans HG2.out⟩
 have b6 : (x.fKind == 6) = false := by simpa using k6
 by_cases k10 : x.fKind = 10
 ·have hq : sCore (sC N) x s = (cArgs (sC N) x.fArgs s).add (opOf x) := by unfold sCore; rw [if_neg (by omega), if_neg (by omega), if_neg (by omega), if_neg (by omega), if_neg (by omega), if_neg (by omega), if_pos (show isOp x.fKind by unfold isOp; omega)]
  rw [hq]
  clear hq
  have b10 : (x.fKind == 10) = true := by simpa using k10
  have ho : opOf x = instr 12 0 0 ⟨#[]⟩ x.fName := by unfold opOf; rw [if_neg (by omega), if_pos k10]
  rw [ho]
  clear ho
  have Hk10 := Lib.hid k10; clear k10
  go_enter Tryz.func94, Tryz.ntmps94
  go_wp2_with fail
  refine (specArgs_c N ih x.fArgs Hxa.out hza s (by omega) (by omega) _ lo c _ _ _ HS0.out K hK _ HA.out).mono ?_
  rintro e w1 ⟨rfl, fp1, vl1, vs1, hS1, hF1⟩
  have hba := Hba.out
  obtain ⟨s1, Hs1⟩ : ∃ t_, t_ = cArgs (sC N) x.fArgs s := ⟨_, rfl⟩
  rw [← Hs1] at hS1 hba
  replace Hs1 := Lib.hid Hs1
  have HS1 := Lib.hid hS1; have hF1' := hF1
  have HG1 := Lib.hid hF1
  clear hS1 hF1 Hba
  have g1 : w1.cell? ⟨w.heap.size, 1, none⟩ = some (.string x.fTrait) := row_cell (HG1.out.row HR0.out hpn) 1
  have g2 : w1.cell? ⟨w.heap.size, 2, none⟩ = some (.string x.fName) := row_cell (HG1.out.row HR0.out hpn) 2
  have g3 : w1.cell? ⟨w.heap.size, 3, none⟩ = some (.int .i64 x.fN) := row_cell (HG1.out.row HR0.out hpn) 3
  have g9 : w1.cell? ⟨w.heap.size, 9, none⟩ = some (.slice a x.fArgs.length cap) := row_cell (HG1.out.row HR0.out hpn) 9
  clear hF1'
  go_wp2_with fail
  refine (specAdd_c (instr 12 0 0 ⟨#[]⟩ x.fName) (inR_n 12 (by decide)) (inR_n 0 (by decide)) (inR_n 0 (by decide)) sz0 hNm s1 (by omega) _ lo c _ _ _ HS1.out).mono ?_
  rintro e w2 ⟨rfl, fp2, vl2, vs2, hS1, hF1⟩
  have HS2 := Lib.hid hS1; have HG2 := Lib.hid (HG1.out.trans hF1)
  clear hS1 hF1 HS1
  go_wp2
  first | go_end0 | ((try simp only [Exit.inBlock, Exit.then]); refine bodyPost_ret (results_none rfl _ _ _) rfl ?_)
  rw [← Hs1.out]
  exact ⟨rfl, fp2, vl2, vs2, HS2.out, HF0.out.trans HG2.out⟩
 have b10 : (x.fKind == 10) = false := by simpa using k10
 by_cases k11 : x.fKind = 11
 ·have hq : sCore (sC N) x s = (cArgs (sC N) x.fArgs s).add (opOf x) := by unfold sCore; rw [if_neg (by omega), if_neg (by omega), if_neg (by omega), if_neg (by omega), if_neg (by omega), if_neg (by omega), if_pos (show isOp x.fKind by unfold isOp; omega)]
  rw [hq]
  clear hq
  have b11 : (x.fKind == 11) = true := by simpa using k11
  have ho : opOf x = instr 13 x.fN 0 ⟨#[]⟩ x.fTrait := by unfold opOf; rw [if_neg (by omega), if_neg (by omega), if_pos k11]
  rw [ho]
  clear ho
  have Hk11 := Lib.hid k11; clear k11
  go_enter Tryz.func94, Tryz.ntmps94
  go_wp2_with fail
  refine (specArgs_c N ih x.fArgs Hxa.out hza s (by omega) (by omega) _ lo c _ _ _ HS0.out K hK _ HA.out).mono ?_
  rintro e w1 ⟨rfl, fp1, vl1, vs1, hS1, hF1⟩
  have hba := Hba.out
  obtain ⟨s1, Hs1⟩ : ∃ t_, t_ = cArgs (sC N) x.fArgs s := ⟨_, rfl⟩
  rw [← Hs1] at hS1 hba
  replace Hs1 := Lib.hid Hs1
  have HS1 := Lib.hid hS1; have hF1' := hF1
  have HG1 := Lib.hid hF1
  clear hS1 hF1 Hba
  have g1 : w1.cell? ⟨w.heap.size, 1, none⟩ = some (.string x.fTrait) := row_cell (HG1.out.row HR0.out hpn) 1
  have g2 : w1.cell? ⟨w.heap.size, 2, none⟩ = some (.string x.fName) := row_cell (HG1.out.row HR0.out hpn) 2
  have g3 : w1.cell? ⟨w.heap.size, 3, none⟩ = some (.int .i64 x.fN) := row_cell (HG1.out.row HR0.out hpn) 3
  have g9 : w1.cell? ⟨w.heap.size, 9, none⟩ = some (.slice a x.fArgs.length cap) := row_cell (HG1.out.row HR0.out hpn) 9
  clear hF1'
  go_wp2_with fail
  refine (specAdd_c (instr 13 x.fN 0 ⟨#[]⟩ x.fTrait) (inR_n 13 (by decide)) hNn (inR_n 0 (by decide)) sz0 hTr s1 (by omega) _ lo c _ _ _ HS1.out).mono ?_
  rintro e w2 ⟨rfl, fp2, vl2, vs2, hS1, hF1⟩
  have HS2 := Lib.hid hS1; have HG2 := Lib.hid (HG1.out.trans hF1)
  clear hS1 hF1 HS1
  go_wp2
  first | go_end0 | ((try simp only [Exit.inBlock, Exit.then]); refine bodyPost_ret (results_none rfl _ _ _) rfl ?_)
  rw [← Hs1.out]
  exact ⟨rfl, fp2, vl2, vs2, HS2.out, HF0.out.trans HG2.out⟩
 have b11 : (x.fKind == 11) = false := by simpa using k11
 have hq : sCore (sC N) x s = s.fail := by unfold sCore; rw [if_neg (by omega), if_neg (by omega), if_neg (by omega), if_neg (by omega), if_neg (by omega), if_neg (by omega), if_neg (show ¬ isOp x.fKind by unfold isOp; omega)]
 rw [hq]
 clear hq
 clear k1 k2 k3 k8 k9 k7 k4 k5 k6 k10 k11
 have hfB := Lib.hid (show 2 < (#[vl, vs, .bool s.bad] : Array Value).size from (by simp))
 have haB := Lib.hid (show ((#[vl, vs, .bool s.bad] : Array Value).toList.take 2 ++ [Value.bool true] ++ (#[vl, vs, .bool s.bad] : Array Value).toList.drop (2 + [Value.bool true].length)).toArray = #[vl, vs, .bool true] from rfl)
 have hRB := Lib.hid HS0.out.row
 go_enter Tryz.func94, Tryz.ntmps94
 go_wp2_with (with_reducible refine stR1 rfl 4 _ _ rfl c 2 rfl (.bool true) rfl infoB1 rfl #[vl, vs, .bool s.bad] #[vl, vs, .bool true] 169 hRB.out hfB.out haB.out ?_)
 intro w2 hp2
 have hR := HS0.out.fail hp2
 go_wp2
 first | go_end0 | ((try simp only [Exit.inBlock, Exit.then]); refine bodyPost_ret (results_none rfl _ _ _) rfl ?_)
 exact ⟨rfl, fp, _, _, hR.1, HF0.out.trans hR.2⟩
theorem CPspec_all : ∀ N : Nat, CPspec N
 | 0 => fun _ h => absurd h (Nat.not_lt_zero _)
 | N + 1 => stepspecCore N (CPspec_all N)
theorem specCore_c (x : TCore) : WK 94 169 (sC (SizeOf.sizeOf x + 1)) x := CPspec_all (SizeOf.sizeOf x + 1) x (Nat.lt_succ_self _)
end Go.Proofs.YtkmiecgcibjkbaaGreat
