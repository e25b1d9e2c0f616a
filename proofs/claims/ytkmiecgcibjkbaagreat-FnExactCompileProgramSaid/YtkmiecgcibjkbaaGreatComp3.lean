/- Compiling a body: the impl's functions, each walked once. Condition: sizes. -/
import Derived.Test.YtkmiecgcibjkbaaGreatComp2
namespace Go.Proofs.YtkmiecgcibjkbaaGreat
open Go.RowKit
set_option maxRecDepth 100000 in
set_option maxHeartbeats 4000000 in
theorem implAdd_c (x : TInstr) (hO : InR x.fOp) (hA : InR x.fA) (hB : InR x.fB) (hT : x.fTrait.size ≤ maxLen) (hN : x.fName.size ≤ maxLen) (s : CS) (hl : s.list.length ≤ 1073741824) :
  ∀ (w : World) (lo c : Nat) (fp : List Nat) (vl vs : Value) (_ : Ste w 179 173 9 lo c fp s vl vs),
  Calls Tryz.prog 100 #[.pointer (some ⟨c, 0, none⟩), .agg #[.int .i64 x.fOp, .int .i64 x.fA, .int .i64 x.fB, .string x.fTrait, .string x.fName]] w fun e w' => e = .returned (.int .i64 s.list.length) ∧ Done w w' 179 173 9 lo c fp (s.add x) := by
 intro w lo c fp vl vs hS
 have hB0 : Below w.heap.size w (w.alloc (.cells #[.int .i64 x.fOp, .int .i64 x.fA, .int .i64 x.fB, .string x.fTrait, .string x.fName] 173)) := (Below.refl _ _).alloc (Nat.le_refl _) _
 have HS := Lib.hid (hS.below hB0)
 have HF := Lib.hid (Fr.below0 hB0 fp)
 have HC := Lib.hid (row_cells (cs := [.int .i64 x.fOp, .int .i64 x.fA, .int .i64 x.fB, .string x.fTrait, .string x.fName]) (show (w.alloc (.cells #[.int .i64 x.fOp, .int .i64 x.fA, .int .i64 x.fB, .string x.fTrait, .string x.fName] 173)).heap[w.heap.size]? = some (.cells #[.int .i64 x.fOp, .int .i64 x.fA, .int .i64 x.fB, .string x.fTrait, .string x.fName] 173 (0, 0)) from alloc_at rfl))
 have hp : w.heap.size < (w.alloc (.cells #[.int .i64 x.fOp, .int .i64 x.fA, .int .i64 x.fB, .string x.fTrait, .string x.fName] 173)).heap.size := by simp
 have HO := Lib.hid (TInstr.mk_own (w := w) (x := x) hO hA hB hT hN)
 clear hS hB0 hO hA hB hT hN
 go_enter Tryz.func100, Tryz.ntmps100
 go_wp2_with fail
 generalize (w.alloc (.cells #[.int .i64 x.fOp, .int .i64 x.fA, .int .i64 x.fB, .string x.fTrait, .string x.fName] 173)) = w1 at *
 generalize w.heap.size = p at *
 have hS := HS.out
 have hI0 : Below w1.heap.size w1 w1.drew := (Below.refl _ _).drew
 have gL : ∀ w', Below w1.heap.size w1 w' → w'.cell? ⟨c, 0, none⟩ = some vl := fun w' h => (hS.below h).cell.1
 have gX : ∀ w', Below w1.heap.size w1 w' → Cells w' p 0 [.int .i64 x.fOp, .int .i64 x.fA, .int .i64 x.fB, .string x.fTrait, .string x.fName] := fun w' h => HC.out.ext h hp
 refine rj 11 7 (Below w1.heap.size w1) (by kernel_rfl) rfl ?_
 refine rj_free (fuel := 7) [0, 1, 2, 3] hI0 (by kernel_rfl) rfl ?_
 simp only [pick, pD, pE]
 refine sg_fix _ rfl (fun w' hI => by go_simp; rfl) ?_
 simp only [Act.put, pA, pB, pC]
 refine sg_fix _ rfl (fun w' hI => by go_simp; rfl) ?_
 simp only [Act.put, pA, pB, pC]
 refine sg_fix _ rfl (fun w' hI => by go_simp; rfl) ?_
 simp only [Act.put, pA, pB, pC]
 refine sg_fix _ rfl (fun w' hI => by go_simp; rfl) ?_
 simp only [Act.put, pA, pB, pC]
 refine sg_nil ?_
 refine rj_seg (fuel := 5) [4, 5] hI0 (by kernel_rfl) rfl ?_
 simp only [pick, pD, pE]
 refine sg_fix _ rfl (fun w' hI => by have := gL w' hI; go_simp; rfl) ?_
 simp only [Act.put, pA, pB, pC]
 refine sg_fix _ rfl (fun w' hI => run_ld 173 (.tmp 3) rfl p 0 rfl _ (gX w' hI) _ Tryz.underlying173 infoI5) ?_
 simp only [Act.put, pA, pB, pC]
 refine sg_nil ?_
 refine rj_one (fuel := 4) 6 (by kernel_rfl) rfl (fun K0 hK0 => ?_)
 simp only [pick, pD, pE]
 refine oj_bs1 rfl 79 (.tmp 10) rfl Tryz.underlying79 zinfoI (by decide) (by decide) _ rfl [.int .i64 x.fOp, .int .i64 x.fA, .int .i64 x.fB, .string x.fTrait, .string x.fName] rfl rfl ?_
 intro w2 hB2 hC2
 have hI2 := hI0.trans (hB2.mono hI0.size)
 refine hK0 _ _ (fun _ => hI2) ?_
 simp only [Act.put, pA, pB, pC]
 have hS2 := hS.below hI2
 refine rj_one (fuel := 3) 7 (by kernel_rfl) rfl (fun K1 hK1 => ?_)
 simp only [pick, pD, pE]
 refine oj_ap (v := vl) rfl (.tmp 9) (.tmp 11) 79 rfl _ 56 Tryz.underlying79 zinfoI zsizeI (by decide) rfl hS2.gl w1.drew.heap.size rfl (TInstr.width x) hC2 HO.out (by unfold maxLen; simp; omega) (by simp; omega) hS2.lo ?_
 intro vl' w3 hG3 hk3 ho3
 refine hK1 _ _ (jw_done (by kernel_rfl)) ?_
 simp only [Act.put, pA, pB, pC]
 refine rj_free' (fuel := 1) [8, 9] (by kernel_rfl) rfl ?_
 simp only [pick, pD, pE]
 refine sg_fix _ rfl (fun w' hI => by go_simp; rfl) ?_
 simp only [Act.put, pA, pB, pC]
 refine sg_fix _ rfl (fun w' hI => by go_simp; rfl) ?_
 simp only [Act.put, pA, pB, pC]
 refine sg_nil ?_
 refine rj_one (fuel := 0) 10 (by kernel_rfl) rfl (fun K2 hK2 => ?_)
 simp only [pick, pD, pE]
 have hR3 : w3.heap[c]? = some (.cells #[vl, vs, .bool s.bad] 179 (0, 0)) := (hk3.other c hS2.lt (fun q => (hS2.hl c (by simpa using q)).2 rfl)).trans hS2.row
 refine oj_st rfl 79 (.tmp 14) (.tmp 12) rfl c 0 rfl _ rfl infoLI hG3.one _ _ hR3 (by simp) ?_
 intro w4 hp4
 refine hK2 _ _ (jw_done (by kernel_rfl)) (rj_end (by kernel_rfl) ?_)
 simp only [Act.put]
 obtain ⟨fp4, hS4, hF4⟩ := hS2.setL (l' := s.list ++ [x]) hk3 (by simpa using hG3) (ho3.imp id (fun q => ⟨_, q, Nat.le_refl _⟩)) hp4
 have hF := HF.out.trans ((Fr.below0 hI2 fp).trans hF4)
 obtain ⟨a5, cap5, rfl⟩ := gl_slice hS4.gl
 have g0 := hS4.cell.1
 go_wp2
 go_ret
 exact ⟨ret_int (by simp), fp4, _, _, hS4, hF⟩
def CPimpl (N : Nat) : Prop := ∀ x : TCore, SizeOf.sizeOf x < N → WK 99 179 (iC N) x
set_option maxRecDepth 100000 in
set_option maxHeartbeats 4000000 in
theorem implArgs_c (N : Nat) (ih : CPimpl N) (l : List TCore) (hx : ∀ y ∈ l, SizeOf.sizeOf y < N) (hz : szs TCore.sz l ≤ 1048576) (s : CS) (hl : s.list.length + 4 * szs TCore.sz l ≤ 1073741824) (hs : s.slots.length + szs TCore.sz l ≤ 1073741824) :
  ∀ (w : World) (lo c : Nat) (fp : List Nat) (vl vs : Value) (_ : Ste w 179 173 9 lo c fp s vl vs) (K : Nat → Prop) (_ : ∀ b, K b → b < lo) (v : Value) (_ : Rep w K (.sl (l.map TCore.enc)) [v]),
  Calls Tryz.prog 162 #[.pointer (some ⟨c, 0, none⟩), v] w fun e w' => e = .returned (.tuple #[]) ∧ Done w w' 179 173 9 lo c fp (cArgs (iC N) l s) := by
 intro w lo c fp vl vs hS K hK v h
 have hlen : l.length ≤ 1048576 := by unfold szs at hz; omega
 have Hz := Lib.hid hz; clear hz
 have Hx := Lib.hid hx; clear hx
 obtain ⟨a, cap, rfl, hc, hm, -, hE⟩ := open_sl TCore.width h
 unfold maxLen at hm
 clear h
 have hHb := hS.hb
 have hHl := hS.lo
 have HS := Lib.hid hS; clear hS
 go_enter Tryz.func162, Tryz.ntmps162
 go_wp2
 go_loopw [8] (fun i wr => ∃ (n : Nat) (s' : CS) (fp' : List Nat) (vl' vs' : Value), n ≤ l.length ∧ i = .int .i64 n ∧ Hid (cArgs (iC N) (l.drop n) s' = cArgs (iC N) l s) ∧ Hid (Ste wr 179 173 9 lo c fp' s' vl' vs') ∧ Hid (Fr w wr fp fp') ∧ s'.list.length + 4 * szs TCore.sz (l.drop n) ≤ 1073741824 ∧ s'.slots.length + szs TCore.sz (l.drop n) ≤ 1073741824) (fun i _ => l.length - (intOf i).toNat)
 case atStart => exact ⟨0, s, fp, _, _, Nat.zero_le _, rfl, Lib.hid rfl, HS, Lib.hid (Fr.refl _ _), by simpa using hl, by simpa using hs⟩
 case round =>
  clear HS hl hs
  obtain ⟨n, s', fp', vl', vs', hn, rfl, HE, HS, HF, hl, hs⟩ := hrel
  by_cases hlt : n < l.length
  ·obtain ⟨b, off, rfl, hKb, cs, hcs, hr⟩ := hE n hlt
   have hB := HF.out.below hHb hHl
   have hr' := Rep.ext hB hK hr
   have hcs' := hcs.ext hB (hK b hKb)
   have hl0 := (Rep.length _ _ hr').trans (TCore.width _)
   have Hl0 := Lib.hid hl0
   have hi : (Tryz.prog.info? 136).map (·.size) = some cs.length := by rw [hl0]; exact infoCo
   have hone0 := Rep.one _ _ hr'
   have hmem : l[n] ∈ l := List.getElem_mem hlt
   have Hb := Lib.hid (show TCore.sz l[n] ≤ 1048576 from (by have := szL_le TCore.sz hmem; have := Hz.out; unfold szs at this; omega))
   have Hn := Lib.hid (Hx.out _ hmem)
   rw [szs_drop hlt] at hl hs
   have HQ := Lib.hid (show ∀ t, cArgs (iC N) (l.drop n) t = cArgs (iC N) (l.drop (n + 1)) (iC N l[n] t) from fun t => by rw [List.drop_eq_getElem_cons hlt, cArgs_cons])
   have hbd := bd_iC N l[n] s'
   clear hmem hl0 hE hcs hr
   generalize l[n] = x at *
   have Hbd := Lib.hid hbd; clear hbd
   go_wp2_with (first | (with_reducible refine ld rfl 136 _ rfl b _ rfl cs hcs' _ Tryz.underlying136 hi ?_) | (with_reducible refine stA rfl 136 _ _ rfl wr.heap.size 0 rfl cs rfl hi hone0 _ 136 (alloc_at rfl) (by rw [Hl0.out]; decide) ?_))
   intro w0 hst0
   have hB1 : Below wr.heap.size wr w0 := hst0.below ((Below.refl _ _).alloc (Nat.le_refl _) _) (Nat.le_refl _)
   have hC0 := hst0.at_
   clear hst0
   have HS0 := Lib.hid (HS.out.below hB1)
   have hr0 := Rep.ext hB1 (fun b h => Nat.lt_of_lt_of_le (hK b h) (HS.out.lo)) hr'
   have HF0 := Lib.hid (HF.out.trans (Fr.below0 hB1 fp'))
   clear hB1 HS HF hr' hcs'
   go_wp2_with (with_reducible refine ld rfl 136 _ rfl wr.heap.size _ rfl cs hC0 _ Tryz.underlying136 hi ?_)
   refine (ih x Hn.out Hb.out s' (by omega) (by omega) _ lo c fp' vl' vs' HS0.out K hK _ hr0).mono ?_
   rintro e w1 ⟨rfl, fp1, vl1, vs1, hS1, hF1⟩
   have HS1 := Lib.hid hS1; have HF1 := Lib.hid (HF0.out.trans hF1); clear hS1 hF1
   go_wp2
   go_roundw
   case rel => exact ⟨n + 1, _, fp1, vl1, vs1, hlt, by go_num, Lib.hid ((HQ.out _).symm.trans HE.out), HS1, HF1, by have := Hbd.out; omega, by have := Hbd.out; omega⟩
   case measure => simp [intOf]; omega
  ·obtain rfl : n = l.length := by omega
   have hE0 := HE.out
   rw [List.drop_length, cArgs_nil] at hE0
   subst hE0
   go_wp2
   first | go_end0 | ((try simp only [Exit.inBlock, Exit.then]); refine bodyPost_ret (results_none rfl _ _ _) rfl ?_)
   exact ⟨rfl, fp', vl', vs', HS.out, HF.out⟩
set_option maxRecDepth 100000 in
set_option maxHeartbeats 4000000 in
theorem implDrop_c (n : Nat) (s : CS) (hl : s.list.length ≤ 1073741824) (hs : s.slots.length ≤ 1073741824) (hn : n ≤ s.slots.length) :
  ∀ (w : World) (lo c : Nat) (fp : List Nat) (vl vs : Value) (_ : Ste w 179 173 9 lo c fp s vl vs),
  Calls Tryz.prog 164 #[.pointer (some ⟨c, 0, none⟩), .int .i64 (n : Int)] w fun e w' => e = .returned (.tuple #[]) ∧ Done w w' 179 173 9 lo c fp (iDrop n s) := by
 intro w lo c fp vl vs hS
 have HS0 := Lib.hid hS
 have HF0 := Lib.hid (Fr.refl w fp)
 clear hS
 go_enter Tryz.func164, Tryz.ntmps164
 go_wp2_with fail
 refine (implAdd_c (opDrop n) (inR_n 5 (by decide)) (inR_n _ (by omega)) (inR_n 0 (by decide)) sz0 sz0 s (by omega) w lo c _ _ _ HS0.out).mono ?_
 rintro e w1 ⟨rfl, fp1, vl1, vs1, hS1, hF1⟩
 have HS1 := Lib.hid hS1; have HF1 := Lib.hid (HF0.out.trans hF1)
 clear hS1 hF1 HS0
 go_wp2_with fail
 have hS := HS1.out
 obtain ⟨aS, cS, hvs, hcs⟩ : ∃ a cap, vs1 = .slice a s.slots.length cap ∧ s.slots.length ≤ cap := gs_cap hS.gs
 subst hvs
 have hI0 : Below w1.heap.size w1 w1.drew := (Below.refl _ _).drew
 have gS : ∀ w', Below w1.heap.size w1 w' → w'.cell? ⟨c, 1, none⟩ = some (.slice aS s.slots.length cS) := fun w' h => (hS.below h).cell.2.1
 have hcn : s.slots.length - n ≤ cS := by omega
 refine rj 16 15 (Below w1.heap.size w1) (by kernel_rfl) rfl ?_
 refine rj_seg (fuel := 1) [0, 1, 2, 3, 4, 5, 6, 7, 8, 9, 10, 11, 12, 13, 14] hI0 (by kernel_rfl) rfl ?_
 simp only [pick, pD, pE]
 refine sg_fix _ rfl (fun w' hI => by have := gS w' hI; go_simp; rfl) ?_
 simp only [Act.put, pA, pB, pC]
 refine sg_fix _ rfl (fun w' hI => by have := gS w' hI; go_simp; rfl) ?_
 simp only [Act.put, pA, pB, pC]
 refine sg_fix _ rfl (fun w' hI => by have := gS w' hI; go_simp; rfl) ?_
 simp only [Act.put, pA, pB, pC]
 refine sg_fix _ rfl (fun w' hI => by have := gS w' hI; go_simp; rfl) ?_
 simp only [Act.put, pA, pB, pC]
 refine sg_fix _ rfl (fun w' hI => by have := gS w' hI; go_simp; rfl) ?_
 simp only [Act.put, pA, pB, pC]
 refine sg_fix _ rfl (fun w' hI => by have := gS w' hI; go_simp; rfl) ?_
 simp only [Act.put, pA, pB, pC]
 refine sg_fix _ rfl (fun w' hI => by have := gS w' hI; go_simp; rfl) ?_
 simp only [Act.put, pA, pB, pC]
 refine sg_fix _ rfl (fun w' hI => by have := gS w' hI; go_simp; rfl) ?_
 simp only [Act.put, pA, pB, pC]
 refine sg_fix _ rfl (fun w' hI => by have := gS w' hI; go_simp; rfl) ?_
 simp only [Act.put, pA, pB, pC]
 refine sg_fix _ rfl (fun w' hI => by have := gS w' hI; go_simp; rfl) ?_
 simp only [Act.put, pA, pB, pC]
 refine sg_fix _ rfl (fun w' hI => by have := gS w' hI; go_simp; rfl) ?_
 simp only [Act.put, pA, pB, pC]
 refine sg_fix (.int .i64 ((s.slots.length - n : Nat) : Int)) rfl (fun w' hI => by have hwr := IntKind.wrap_i64 ((s.slots.length : Int) - (n : Int)); go_simp; first | rfl | (congr 2; omega)) ?_
 simp only [Act.put, pA, pB, pC]
 refine sg_fix _ rfl (fun w' hI => run_slH rfl 48 _ _ rfl Tryz.underlying48 isoN rfl rfl hcn) ?_
 simp only [Act.put, pA, pB, pC]
 refine sg_fix _ rfl (fun w' hI => by go_simp; rfl) ?_
 simp only [Act.put, pA, pB, pC]
 refine sg_fix _ rfl (fun w' hI => by go_simp; rfl) ?_
 simp only [Act.put, pA, pB, pC]
 refine sg_nil ?_
 refine rj_one (fuel := 0) 15 (by kernel_rfl) rfl (fun K0 hK0 => ?_)
 simp only [pick, pD, pE]
 refine oj_st rfl 48 (.tmp 22) (.tmp 20) rfl c 1 rfl (.slice aS (s.slots.length - n) cS) rfl infoLS rfl _ _ (hS.below hI0).row (by simp) ?_
 intro w2 hp1
 refine hK0 _ _ (jw_done (by kernel_rfl)) (rj_end (by kernel_rfl) ?_)
 simp only [Act.put]
 obtain ⟨fp2, hS1, hF1⟩ := hS.setS (vs' := .slice aS (s.slots.length - n) cS) (l' := s.slots.take (s.slots.length - n)) (Below.kept' hI0 _) (by
  have := (hS.gs.below hI0).take (by intro d hd; obtain ⟨y, -, rfl⟩ := List.mem_map.1 hd; exact encS_w y) (m := s.slots.length - n) (by simp [CS.add_slots])
  rw [← List.map_take] at this
  exact this) (.inl (by cases aS with | none => rfl | some ad => rfl)) hp1
 go_wp2
 first | go_end0 | ((try simp only [Exit.inBlock, Exit.then]); refine bodyPost_ret (results_none rfl _ _ _) rfl ?_)
 exact ⟨rfl, fp2, _, _, hS1, HF1.out.trans hF1⟩
set_option maxRecDepth 100000 in
set_option maxHeartbeats 4000000 in
theorem implIf_c (N : Nat) (ih : CPimpl N) (x : TCore) (hx : SizeOf.sizeOf x < N + 1) : WK 165 179 (sIf (iC N)) x := by
 unfold WK
 intro hz s hl hs w lo c fp vl vs hS K hK cs h
 obtain ⟨c4, c5, c6, c7, c8, c9, c10, rfl, hKd, hTr, hNm, hNn, -, -, -, hAr, hAm⟩ := TCore.opn h
 clear h
 have hcz := core_sz x
 have hxs := TCore.lt_fArgs x
 obtain ⟨a, cap, rfl, hcc, hm, -, hE⟩ := open_sl TCore.width hAr
 unfold maxLen at hm
 clear hAr hAm
 by_cases h3 : x.fArgs.length = 3
 ·have hQ := fun t y z => @sIf_three (iC N) x t y z s
  rw [h3]
  generalize x.fArgs = L at *
  obtain ⟨ea, eb, ec, rfl⟩ := len3' h3
  have HQ := Lib.hid (hQ ea eb ec rfl)
  clear hQ h3
  obtain ⟨b, off, rfl, hKb, csa, hca, hra⟩ := hE 0 (by simp)
  obtain ⟨b', off', hq', -, csb, hcb, hrb⟩ := hE 1 (by simp)
  simp only [Option.some.injEq, Addr.mk.injEq, and_true] at hq'
  obtain ⟨rfl, rfl⟩ := hq'
  obtain ⟨b', off', hq', -, csc, hcc, hrc⟩ := hE 2 (by simp)
  simp only [Option.some.injEq, Addr.mk.injEq, and_true] at hq'
  obtain ⟨rfl, rfl⟩ := hq'
  clear hE
  simp only [List.getElem_cons_zero] at hra
  have hia : (Tryz.prog.info? 136).map (·.size) = some csa.length := by rw [(Rep.length _ _ hra).trans (TCore.width _)]; exact infoCo
  have hma : SizeOf.sizeOf ea < N := by have := List.sizeOf_lt_of_mem (show ea ∈ [ea, eb, ec] by simp); omega
  simp only [List.getElem_cons_zero, List.getElem_cons_succ] at hrb
  have hib : (Tryz.prog.info? 136).map (·.size) = some csb.length := by rw [(Rep.length _ _ hrb).trans (TCore.width _)]; exact infoCo
  have hmb : SizeOf.sizeOf eb < N := by have := List.sizeOf_lt_of_mem (show eb ∈ [ea, eb, ec] by simp); omega
  simp only [List.getElem_cons_zero, List.getElem_cons_succ] at hrc
  have hic : (Tryz.prog.info? 136).map (·.size) = some csc.length := by rw [(Rep.length _ _ hrc).trans (TCore.width _)]; exact infoCo
  have hmc : SizeOf.sizeOf ec < N := by have := List.sizeOf_lt_of_mem (show ec ∈ [ea, eb, ec] by simp); omega
  simp only [szs, szL, List.length_cons, List.length_nil] at hcz
  have hB0 : Below w.heap.size w (w.alloc (.cells #[.int .i64 x.fKind, .string x.fTrait, .string x.fName, .int .i64 x.fN, c4, c5, c6, c7, c8, .slice (some ⟨b, off, none⟩) 3 cap, c10] 136)) := (Below.refl _ _).alloc (Nat.le_refl _) _
  have HS0 := Lib.hid (hS.below hB0)
  have HF0 := Lib.hid (Fr.below0 hB0 fp)
  have HR0 := Lib.hid (show (w.alloc (.cells #[.int .i64 x.fKind, .string x.fTrait, .string x.fName, .int .i64 x.fN, c4, c5, c6, c7, c8, .slice (some ⟨b, off, none⟩) 3 cap, c10] 136)).heap[w.heap.size]? = some (.cells #[.int .i64 x.fKind, .string x.fTrait, .string x.fName, .int .i64 x.fN, c4, c5, c6, c7, c8, .slice (some ⟨b, off, none⟩) 3 cap, c10] 136 (0, 0)) from alloc_at rfl)
  have hp : w.heap.size < (w.alloc (.cells #[.int .i64 x.fKind, .string x.fTrait, .string x.fName, .int .i64 x.fN, c4, c5, c6, c7, c8, .slice (some ⟨b, off, none⟩) 3 cap, c10] 136)).heap.size := by simp
  have hpn : w.heap.size ∉ fp := hS.notin (Nat.le_refl _)
  have hKw : ∀ b, K b → b < w.heap.size := fun b h => Nat.lt_of_lt_of_le (hK b h) hS.lo
  have hca : Cells w b (off) csa := by simpa using hca
  replace hra := Lib.hid (Rep.ext hB0 hKw hra)
  replace hca := Lib.hid (hca.ext hB0 (hKw b hKb))
  have hcb : Cells w b (off + 11) csb := by simpa using hcb
  replace hrb := Lib.hid (Rep.ext hB0 hKw hrb)
  replace hcb := Lib.hid (hcb.ext hB0 (hKw b hKb))
  have hcc : Cells w b (off + 22) csc := by simpa using hcc
  replace hrc := Lib.hid (Rep.ext hB0 hKw hrc)
  replace hcc := Lib.hid (hcc.ext hB0 (hKw b hKb))
  go_enter Tryz.func165, Tryz.ntmps165
  have hr := hra.out
  have hc := hca.out
  go_wp2_with (with_reducible refine ld rfl 136 _ rfl b _ rfl csa hc _ Tryz.underlying136 hia ?_)
  have Hb0 := Lib.hid HS0.out.hb
  have Hl0 := Lib.hid HS0.out.lo
  have HF := Lib.hid HF0.out
  clear hS hB0
  generalize (w.alloc (.cells #[.int .i64 x.fKind, .string x.fTrait, .string x.fName, .int .i64 x.fN, c4, c5, c6, c7, c8, .slice (some ⟨b, off, none⟩) 3 cap, c10] 136)) = w0 at *
  generalize w.heap.size = p at *
  replace HF0 := Lib.hid (Fr.refl w0 fp)
  clear hc
  refine (ih ea hma (by omega) s (by omega) (by omega) _ lo c _ _ _ HS0.out K hK _ hr).mono ?_
  rintro e w1 ⟨rfl, fp1, vl1, vs1, hS1, hF1⟩
  have hbd := bd_iC N ea s
  obtain ⟨s1, Hs1⟩ : ∃ t_, t_ = iC N ea s := ⟨_, rfl⟩
  rw [← Hs1] at hS1 hbd
  replace Hs1 := Lib.hid Hs1
  have HS1 := Lib.hid hS1; have HF1 := Lib.hid (HF0.out.trans hF1)
  clear hS1 hF1 hr HS0
  go_wp2_with fail
  refine (implAdd_c (opOne 11) (inR_n 11 (by decide)) (inR_n 0 (by decide)) (inR_n 0 (by decide)) (by decide) (by decide) s1 (by omega) _ lo c _ _ _ HS1.out).mono ?_
  rintro e w2 ⟨rfl, fp2, vl2, vs2, hS1, hF1⟩
  have HS2 := Lib.hid hS1; have HF2 := Lib.hid (HF1.out.trans hF1)
  clear hS1 hF1 HS1
  have g9 : w2.cell? ⟨p, 9, none⟩ = some (.slice (some ⟨b, off, none⟩) 3 cap) := row_cell (HF2.out.row HR0.out hpn) 9
  have hB := HF2.out.below Hb0.out Hl0.out
  have hr := Rep.ext hB hK hrb.out
  have hc := hcb.out.ext hB (hK b hKb)
  clear hB
  go_wp2_with (with_reducible refine ld rfl 136 _ rfl b _ rfl csb hc _ Tryz.underlying136 hib ?_)
  clear g9 hc
  refine (ih eb hmb (by omega) (s1.add (opOne 11)) (by simp only [CS.add_len]; omega) (by simp only [CS.add_slots]; omega) _ lo c _ _ _ HS2.out K hK _ hr).mono ?_
  rintro e w3 ⟨rfl, fp3, vl3, vs3, hS1, hF1⟩
  have hbd := bd_iC N eb (s1.add (opOne 11))
  obtain ⟨s3, Hs3⟩ : ∃ t_, t_ = iC N eb (s1.add (opOne 11)) := ⟨_, rfl⟩
  rw [← Hs3] at hS1 hbd
  simp only [CS.add_len] at hbd
  simp only [CS.add_slots] at hbd
  replace Hs3 := Lib.hid Hs3
  have HS3 := Lib.hid hS1; have HF3 := Lib.hid (HF2.out.trans hF1)
  clear hS1 hF1 hr HS2
  go_wp2_with fail
  refine (implAdd_c (opOne 10) (inR_n 10 (by decide)) (inR_n 0 (by decide)) (inR_n 0 (by decide)) (by decide) (by decide) s3 (by omega) _ lo c _ _ _ HS3.out).mono ?_
  rintro e w4 ⟨rfl, fp4, vl4, vs4, hS1, hF1⟩
  have HS4 := Lib.hid hS1; have HF4 := Lib.hid (HF3.out.trans hF1)
  clear hS1 hF1 HS3
  go_wp2_with fail
  have hS := HS4.out
  have hI0 : Below w4.heap.size w4 w4.drew := (Below.refl _ _).drew
  have hSd := hS.below hI0
  obtain ⟨gp, capp, curp, hvp, hgl, hgr, hgs, hgG⟩ := patch_at (P := Tryz.prog) hSd.gl (k := s1.list.length) (by simp only [CS.add_len]; omega) (n := ((s3.add (opOne 10)).list.length : Int)) (inR_n _ (by simp only [CS.add_len]; omega))
  subst hvp
  have gL : ∀ w', Below w4.heap.size w4 w' → w'.cell? ⟨c, 0, none⟩ = some (.slice (some ⟨gp, 0, none⟩) (s3.add (opOne 10)).list.length capp) := fun w' h => (hS.below h).cell.1
  have hk0 : (s1.list.length : Nat) < (s3.add (opOne 10)).list.length := by simp only [CS.add_len]; omega
  have hnn : ∃ n, n = (s3.add (opOne 10)).list.length := ⟨_, rfl⟩
  obtain ⟨n, hnn⟩ := hnn
  rw [← hnn] at hgG gL hk0
  replace hnn := Lib.hid hnn
  have hk1 : ((s1.list.length : Nat) : Int) < (n : Int) := by omega
  have hk2 : ¬ ((s1.list.length : Nat) : Int) < 0 := by omega
  refine rj 13 12 (Below w4.heap.size w4) (by kernel_rfl) rfl ?_
  refine rj_seg (fuel := 1) [0, 1, 2, 3, 4, 5, 6, 7, 8, 9, 10, 11] hI0 (by kernel_rfl) rfl ?_
  simp only [pick, pD, pE]
  refine sg_fix _ rfl (fun w' hI => by have := gL w' hI; go_simp; first | rfl | rw [if_neg (by omega)]) ?_
  simp only [Act.put, pA, pB, pC]
  refine sg_fix _ rfl (fun w' hI => by have := gL w' hI; go_simp; first | rfl | rw [if_neg (by omega)]) ?_
  simp only [Act.put, pA, pB, pC]
  refine sg_fix _ rfl (fun w' hI => by have := gL w' hI; go_simp; first | rfl | rw [if_neg (by omega)]) ?_
  simp only [Act.put, pA, pB, pC]
  refine sg_fix _ rfl (fun w' hI => by have := gL w' hI; go_simp; first | rfl | rw [if_neg (by omega)]) ?_
  simp only [Act.put, pA, pB, pC]
  refine sg_fix _ rfl (fun w' hI => by have := gL w' hI; go_simp; first | rfl | rw [if_neg (by omega)]) ?_
  simp only [Act.put, pA, pB, pC]
  refine sg_fix _ rfl (fun w' hI => by have := gL w' hI; go_simp; first | rfl | rw [if_neg (by omega)]) ?_
  simp only [Act.put, pA, pB, pC]
  refine sg_fix _ rfl (fun w' hI => by have := gL w' hI; go_simp; first | rfl | rw [if_neg (by omega)]) ?_
  simp only [Act.put, pA, pB, pC]
  refine sg_fix _ rfl (fun w' hI => by have := gL w' hI; go_simp; first | rfl | rw [if_neg (by omega)]) ?_
  simp only [Act.put, pA, pB, pC]
  refine sg_fix _ rfl (fun w' hI => by have := gL w' hI; go_simp; first | rfl | rw [if_neg (by omega)]) ?_
  simp only [Act.put, pA, pB, pC]
  refine sg_fix _ rfl (fun w' hI => by have := gL w' hI; go_simp; first | rfl | rw [if_neg (by omega)]) ?_
  simp only [Act.put, pA, pB, pC]
  refine sg_fix _ rfl (fun w' hI => by have := gL w' hI; go_simp; first | rfl | rw [if_neg (by omega)]) ?_
  simp only [Act.put, pA, pB, pC]
  refine sg_fix _ rfl (fun w' hI => by have := gL w' hI; go_simp; first | rfl | rw [if_neg (by omega)]) ?_
  simp only [Act.put, pA, pB, pC]
  refine sg_nil ?_
  refine rj_one (fuel := 0) 12 (by kernel_rfl) rfl (fun K0 hK0 => ?_)
  simp only [pick, pD, pE]
  refine oj_st rfl 3 (.tmp 42) (.tmp 40) rfl gp (s1.list.length * 5 + 1) (by go_simp) (.int .i64 n) rfl infoZ1 rfl curp _ hgr hgs ?_
  intro w5 hp1
  refine hK0 _ _ (jw_done (by kernel_rfl)) (rj_end (by kernel_rfl) ?_)
  simp only [Act.put]
  replace hnn := hnn.out
  subst hnn
  obtain ⟨hS1, hF1⟩ := hSd.patch rfl hp1 (hgG _ hp1)
  have HS5 := Lib.hid hS1; have HF5 := Lib.hid (HF4.out.trans ((Fr.below0 hI0 _).trans hF1))
  clear hS1 hF1 hp1 hgG hgs hgr hgl hSd hS hI0 gL hk0 HS4
  have g9 : w5.cell? ⟨p, 9, none⟩ = some (.slice (some ⟨b, off, none⟩) 3 cap) := row_cell (HF5.out.row HR0.out hpn) 9
  have hB := HF5.out.below Hb0.out Hl0.out
  have hr := Rep.ext hB hK hrc.out
  have hc := hcc.out.ext hB (hK b hKb)
  clear hB
  go_wp2_with (with_reducible refine ld rfl 136 _ rfl b _ rfl csc hc _ Tryz.underlying136 hic ?_)
  clear g9 hc
  refine (ih ec hmc (by omega) ((s3.add (opOne 10)).patch s1.list.length) (by simp only [CS.add_len, CS.patch_len]; omega) (by simp only [CS.add_slots, CS.patch_slots]; omega) _ lo c _ _ _ HS5.out K hK _ hr).mono ?_
  rintro e w6 ⟨rfl, fp6, vl6, vs6, hS1, hF1⟩
  have hbd := bd_iC N ec ((s3.add (opOne 10)).patch s1.list.length)
  obtain ⟨s6, Hs6⟩ : ∃ t_, t_ = iC N ec ((s3.add (opOne 10)).patch s1.list.length) := ⟨_, rfl⟩
  rw [← Hs6] at hS1 hbd
  simp only [CS.add_len, CS.patch_len] at hbd
  simp only [CS.add_slots, CS.patch_slots] at hbd
  replace Hs6 := Lib.hid Hs6
  have HS6 := Lib.hid hS1; have HF6 := Lib.hid (HF5.out.trans hF1)
  clear hS1 hF1 hr HS5
  go_wp2_with fail
  have hS := HS6.out
  have hI0 : Below w6.heap.size w6 w6.drew := (Below.refl _ _).drew
  have hSd := hS.below hI0
  obtain ⟨gp, capp, curp, hvp, hgl, hgr, hgs, hgG⟩ := patch_at (P := Tryz.prog) hSd.gl (k := s3.list.length) (by omega) (n := ((s6).list.length : Int)) (inR_n _ (by omega))
  subst hvp
  have gL : ∀ w', Below w6.heap.size w6 w' → w'.cell? ⟨c, 0, none⟩ = some (.slice (some ⟨gp, 0, none⟩) (s6).list.length capp) := fun w' h => (hS.below h).cell.1
  have hk0 : (s3.list.length : Nat) < (s6).list.length := by omega
  have hnn : ∃ n, n = (s6).list.length := ⟨_, rfl⟩
  obtain ⟨n, hnn⟩ := hnn
  rw [← hnn] at hgG gL hk0
  replace hnn := Lib.hid hnn
  have hk1 : ((s3.list.length : Nat) : Int) < (n : Int) := by omega
  have hk2 : ¬ ((s3.list.length : Nat) : Int) < 0 := by omega
  refine rj 13 12 (Below w6.heap.size w6) (by kernel_rfl) rfl ?_
  refine rj_seg (fuel := 1) [0, 1, 2, 3, 4, 5, 6, 7, 8, 9, 10, 11] hI0 (by kernel_rfl) rfl ?_
  simp only [pick, pD, pE]
  refine sg_fix _ rfl (fun w' hI => by have := gL w' hI; go_simp; first | rfl | rw [if_neg (by omega)]) ?_
  simp only [Act.put, pA, pB, pC]
  refine sg_fix _ rfl (fun w' hI => by have := gL w' hI; go_simp; first | rfl | rw [if_neg (by omega)]) ?_
  simp only [Act.put, pA, pB, pC]
  refine sg_fix _ rfl (fun w' hI => by have := gL w' hI; go_simp; first | rfl | rw [if_neg (by omega)]) ?_
  simp only [Act.put, pA, pB, pC]
  refine sg_fix _ rfl (fun w' hI => by have := gL w' hI; go_simp; first | rfl | rw [if_neg (by omega)]) ?_
  simp only [Act.put, pA, pB, pC]
  refine sg_fix _ rfl (fun w' hI => by have := gL w' hI; go_simp; first | rfl | rw [if_neg (by omega)]) ?_
  simp only [Act.put, pA, pB, pC]
  refine sg_fix _ rfl (fun w' hI => by have := gL w' hI; go_simp; first | rfl | rw [if_neg (by omega)]) ?_
  simp only [Act.put, pA, pB, pC]
  refine sg_fix _ rfl (fun w' hI => by have := gL w' hI; go_simp; first | rfl | rw [if_neg (by omega)]) ?_
  simp only [Act.put, pA, pB, pC]
  refine sg_fix _ rfl (fun w' hI => by have := gL w' hI; go_simp; first | rfl | rw [if_neg (by omega)]) ?_
  simp only [Act.put, pA, pB, pC]
  refine sg_fix _ rfl (fun w' hI => by have := gL w' hI; go_simp; first | rfl | rw [if_neg (by omega)]) ?_
  simp only [Act.put, pA, pB, pC]
  refine sg_fix _ rfl (fun w' hI => by have := gL w' hI; go_simp; first | rfl | rw [if_neg (by omega)]) ?_
  simp only [Act.put, pA, pB, pC]
  refine sg_fix _ rfl (fun w' hI => by have := gL w' hI; go_simp; first | rfl | rw [if_neg (by omega)]) ?_
  simp only [Act.put, pA, pB, pC]
  refine sg_fix _ rfl (fun w' hI => by have := gL w' hI; go_simp; first | rfl | rw [if_neg (by omega)]) ?_
  simp only [Act.put, pA, pB, pC]
  refine sg_nil ?_
  refine rj_one (fuel := 0) 12 (by kernel_rfl) rfl (fun K0 hK0 => ?_)
  simp only [pick, pD, pE]
  refine oj_st rfl 3 (.tmp 60) (.tmp 58) rfl gp (s3.list.length * 5 + 1) (by go_simp) (.int .i64 n) rfl infoZ1 rfl curp _ hgr hgs ?_
  intro w7 hp1
  refine hK0 _ _ (jw_done (by kernel_rfl)) (rj_end (by kernel_rfl) ?_)
  simp only [Act.put]
  replace hnn := hnn.out
  subst hnn
  obtain ⟨hS1, hF1⟩ := hSd.patch rfl hp1 (hgG _ hp1)
  have HS7 := Lib.hid hS1; have HF7 := Lib.hid (HF6.out.trans ((Fr.below0 hI0 _).trans hF1))
  clear hS1 hF1 hp1 hgG hgs hgr hgl hSd hS hI0 gL hk0 HS6
  go_wp2
  first | go_end0 | ((try simp only [Exit.inBlock, Exit.then]); refine bodyPost_ret (results_none rfl _ _ _) rfl ?_)
  have hD := HQ.out
  rw [← Hs1.out, ← Hs3.out, ← Hs6.out] at hD
  rw [hD]
  exact ⟨rfl, _, _, _, HS7.out, HF.out.trans HF7.out⟩
 ·rw [sIf_other s h3]
  have hne : ((x.fArgs.length : Int) != 3) = true := by simp; omega
  have hB0 : Below w.heap.size w (w.alloc (.cells #[.int .i64 x.fKind, .string x.fTrait, .string x.fName, .int .i64 x.fN, c4, c5, c6, c7, c8, .slice a x.fArgs.length cap, c10] 136)) := (Below.refl _ _).alloc (Nat.le_refl _) _
  have HS0 := Lib.hid (hS.below hB0)
  have HF0 := Lib.hid (Fr.below0 hB0 fp)
  have HR0 := Lib.hid (show (w.alloc (.cells #[.int .i64 x.fKind, .string x.fTrait, .string x.fName, .int .i64 x.fN, c4, c5, c6, c7, c8, .slice a x.fArgs.length cap, c10] 136)).heap[w.heap.size]? = some (.cells #[.int .i64 x.fKind, .string x.fTrait, .string x.fName, .int .i64 x.fN, c4, c5, c6, c7, c8, .slice a x.fArgs.length cap, c10] 136 (0, 0)) from alloc_at rfl)
  have hp : w.heap.size < (w.alloc (.cells #[.int .i64 x.fKind, .string x.fTrait, .string x.fName, .int .i64 x.fN, c4, c5, c6, c7, c8, .slice a x.fArgs.length cap, c10] 136)).heap.size := by simp
  have hpn : w.heap.size ∉ fp := hS.notin (Nat.le_refl _)
  have hKw : ∀ b, K b → b < w.heap.size := fun b h => Nat.lt_of_lt_of_le (hK b h) hS.lo
  have hfB := Lib.hid (show 2 < (#[vl, vs, .bool s.bad] : Array Value).size from (by simp))
  have haB := Lib.hid (show ((#[vl, vs, .bool s.bad] : Array Value).toList.take 2 ++ [Value.bool true] ++ (#[vl, vs, .bool s.bad] : Array Value).toList.drop (2 + [Value.bool true].length)).toArray = #[vl, vs, .bool true] from rfl)
  have hRB := Lib.hid HS0.out.row
  go_enter Tryz.func165, Tryz.ntmps165
  go_wp2_with (with_reducible refine stR1 rfl 4 _ _ rfl c 2 rfl (.bool true) rfl infoB1 rfl #[vl, vs, .bool s.bad] #[vl, vs, .bool true] 179 hRB.out hfB.out haB.out ?_)
  intro w2 hp2
  have hR := HS0.out.fail hp2
  go_wp2
  first | go_end0 | ((try simp only [Exit.inBlock, Exit.then]); refine bodyPost_ret (results_none rfl _ _ _) rfl ?_)
  exact ⟨rfl, fp, _, _, hR.1, HF0.out.trans hR.2⟩
set_option maxRecDepth 100000 in
set_option maxHeartbeats 4000000 in
theorem implCase_c (N : Nat) (ih : CPimpl N) (x : TCore) (hx : SizeOf.sizeOf x < N + 1) : WK 166 179 (fun x s => iCase (iC N) x (cArgs (iC N) x.fArgs s)) x := by
 unfold WK
 intro hz s hl hs w lo c fp vl vs hS K hK cs h
 obtain ⟨c4, c5, c6, c7, c8, c9, c10, rfl, hKd, hTr, hNm, hNn, -, -, -, hAr, hAm⟩ := TCore.opn h
 clear h hTr hNm hNn hKd
 have hcz := core_sz x
 have hxs := TCore.lt_fArms x
 obtain ⟨a, cap, rfl, hcc, hm, -, hE⟩ := open_sl TCoreArm.width hAm
 unfold maxLen at hm
 clear hAm
 have hba := bd_args (bd_iC N) x.fArgs s
 have Hxa := Lib.hid (show ∀ y ∈ x.fArgs, SizeOf.sizeOf y < N from fun y hy => by have := List.sizeOf_lt_of_mem hy; have := TCore.lt_fArgs x; omega)
 show Calls _ _ _ _ fun e w' => e = .returned (.tuple #[]) ∧ Done w w' 179 173 9 lo c fp (iCase (iC N) x (cArgs (iC N) x.fArgs s))
 obtain ⟨sA, HsA⟩ : ∃ t_, t_ = cArgs (iC N) x.fArgs s := ⟨_, rfl⟩
 rw [← HsA] at hba ⊢
 have HQ0 := Lib.hid (show ∀ E t, iArms (iC N) x.fArms [] sA = (E, t) → iCase (iC N) x sA = (match E with | some e => cEnds e t | none => t) from fun E t h => by unfold iCase; rw [h]; cases E <;> rfl)
 have HsA2 := Lib.hid HsA
 clear HsA
 obtain ⟨GS, hGS⟩ : ∃ t_, t_ = iCase (iC N) x sA := ⟨_, rfl⟩
 rw [← hGS] at HQ0 ⊢
 clear hGS
 have hlen : x.fArms.length ≤ 1048576 := by unfold szs at hcz; omega
 obtain ⟨aA, capA, rfl, -, -, -, -⟩ := open_sl TCore.width hAr
 have HA := Lib.hid hAr; clear hAr
 have hzA : szs TCore.sz x.fArgs ≤ 1048576 := by omega
 have hl1 : sA.list.length + 4 * szs TCoreArm.sz x.fArms ≤ 1073741824 := by omega
 have hs1 : sA.slots.length + szs TCoreArm.sz x.fArms ≤ 1073741824 := by omega
 have hlA : s.list.length + 4 * szs TCore.sz x.fArgs ≤ 1073741824 := by omega
 have hsA : s.slots.length + szs TCore.sz x.fArgs ≤ 1073741824 := by omega
 have HARG := fun w1 fp1 vl1 vs1 K hK v hS h => (implArgs_c N ih x.fArgs Hxa.out hzA s hlA hsA w1 lo c fp1 vl1 vs1 hS K hK v h)
 rw [← HsA2.out] at HARG
 clear hlA hsA hl hs hzA hba HsA2 Hxa
 generalize x.fArms = L at *
 generalize hlg : x.fArgs.length = lA at *
 have HXs := Lib.hid hxs; have Hcz := Lib.hid hcz
 clear hxs hcz hlg
 have hBa : Below w.heap.size w (w.alloc (.cells #[.int .i64 x.fKind, .string x.fTrait, .string x.fName, .int .i64 x.fN, c4, c5, c6, c7, c8, .slice aA lA capA, .slice a L.length cap] 136)) := (Below.refl _ _).alloc (Nat.le_refl _) _
 have HS0 := Lib.hid (hS.below hBa)
 have HRa := Lib.hid (show (w.alloc (.cells #[.int .i64 x.fKind, .string x.fTrait, .string x.fName, .int .i64 x.fN, c4, c5, c6, c7, c8, .slice aA lA capA, .slice a L.length cap] 136)).heap[w.heap.size]? = some (.cells #[.int .i64 x.fKind, .string x.fTrait, .string x.fName, .int .i64 x.fN, c4, c5, c6, c7, c8, .slice aA lA capA, .slice a L.length cap] 136 (0, 0)) from alloc_at rfl)
 have hlo := hS.lo
 have hKw : ∀ b, K b → b < w.heap.size := fun b h => Nat.lt_of_lt_of_le (hK b h) hlo
 have HAa := Lib.hid (Rep.ext hBa hKw HA.out)
 have HFa := Lib.hid (Fr.below0 hBa fp)
 have Hb0 := Lib.hid hS.hb
 have hpn : w.heap.size ∉ fp := hS.notin (Nat.le_refl _)
 have HARG' := Lib.hid HARG
 clear hS hBa HA HARG
 go_enter Tryz.func166, Tryz.ntmps166
 go_wp2_with fail
 refine (HARG'.out _ _ _ _ K hK _ HS0.out HAa.out).mono ?_
 rintro e w0 ⟨rfl, fp0, vl0, vs0, hS1, hF1⟩
 have hRz := hF1.row HRa.out hpn
 have gA : w0.cell? ⟨w.heap.size, 10, none⟩ = some (.slice a L.length cap) := row_cell hRz 10
 have hp0 : w.heap.size ∉ fp0 := hF1.notin (row_lt HRa.out) hpn
 have hBb : Below w0.heap.size w0 (w0.alloc (.cells #[] 3)) := (Below.refl _ _).alloc (Nat.le_refl _) _
 have HSb := Lib.hid (hS1.below hBb)
 have HFb := Lib.hid ((HFa.out.trans hF1).trans (Fr.below0 hBb fp0))
 have HRb := Lib.hid (row_below hRz hBb (row_lt hRz))
 have hpz0 : w.heap.size + 1 < (w0.alloc (.cells #[] 3)).heap.size := by have := row_lt hRz; simp; omega
 have HGb : Hid (Gr (w0.alloc (.cells #[] 3)) (w.heap.size + 1) 3 1 (([] : List Nat).map encN) (.slice (some ⟨w0.heap.size, 0, none⟩) 0 0) []) := Lib.hid (Gr.made (alloc_at rfl) (by have := row_lt hRz; omega))
 have hnf : w0.heap.size ∉ fp0 := hS1.notin (Nat.le_refl _)
 have hpw : w.heap.size < w0.heap.size := row_lt hRz
 clear hS1 hF1 hRz hBb HFa HAa HS0 HARG' hpn HRa
 go_wp2
 go_loopw [4, 18] (fun o i wr => ∃ (ev : Value) (n : Nat) (E : List Nat) (t : CS) (fp' : List Nat) (vl' vs' : Value), ev = o ∧ n ≤ L.length ∧ i = .int .i64 n ∧ Hid (iArms (iC N) (L.drop n) E t = iArms (iC N) L [] sA) ∧ Hid (Ste wr 179 173 9 lo c fp' t vl' vs') ∧ Hid (Fr w wr fp fp') ∧ Hid (wr.heap[w.heap.size]? = some (.cells #[.int .i64 x.fKind, .string x.fTrait, .string x.fName, .int .i64 x.fN, c4, c5, c6, c7, c8, .slice aA lA capA, .slice a L.length cap] 136 (0, 0))) ∧ w.heap.size ∉ fp' ∧ w.heap.size + 1 < wr.heap.size ∧ Hid (Gr wr (w.heap.size + 1) 3 1 (E.map encN) ev []) ∧ (∀ g, ev.ownBlock = some g → g ∉ fp') ∧ E.length = n ∧ (∀ k ∈ E, k < t.list.length) ∧ t.list.length + 4 * szs TCoreArm.sz (L.drop n) ≤ 1073741824 ∧ t.slots.length + szs TCoreArm.sz (L.drop n) ≤ 1073741824) (fun _ i _ => L.length - (intOf i).toNat)
 case atStart => exact ⟨_, 0, [], sA, fp0, _, _, rfl, Nat.zero_le _, rfl, Lib.hid rfl, HSb, HFb, HRb, hp0, hpz0, HGb, by intro g hg; simp only [Value.ownBlock, Option.some.injEq] at hg; subst hg; exact hnf, rfl, by simp, by simpa using hl1, by simpa using hs1⟩
 case round =>
  clear hl1 hs1 hnf HGb HSb HFb HRb hp0 hpz0 gA
  obtain ⟨ev, n, E, t, fp0, vl0, vs0, rfl, hn, rfl, HE, HSr, HFr, HRr, hpr, hpz, HGr, hev, hEn, hEk, hl, hs⟩ := hrel
  have hRr := HRr.out
  by_cases hlt : n < L.length
  ·obtain ⟨b, off, rfl, hKb, cs, hcs, hr⟩ := hE n hlt
   have hB := HFr.out.below Hb0.out hlo
   have hr' := Rep.ext hB hK hr
   have hcs' := hcs.ext hB (hK b hKb)
   have hl0 := (Rep.length _ _ hr').trans (TCoreArm.width _)
   have Hl0' := Lib.hid hl0
   have hi : (Tryz.prog.info? 242).map (·.size) = some cs.length := by rw [hl0]; exact infoArm
   have hone0 := Rep.one _ _ hr'
   have hmem : L[n] ∈ L := List.getElem_mem hlt
   have hsz : TCoreArm.sz L[n] ≤ 1048576 := by have := szL_le TCoreArm.sz hmem; have := Hcz.out; unfold szs at this; omega
   have hsm : SizeOf.sizeOf L[n].fBody < N := by have := List.sizeOf_lt_of_mem hmem; have := TCoreArm.lt_fBody L[n]; have := HXs.out; omega
   rw [szs_drop hlt] at hl hs
   have HQb := Lib.hid (show ∀ e u, (iArmB (iC N) L[n] u).bad = true → iArms (iC N) (L.drop n) e u = (none, iArmB (iC N) L[n] u) from fun e u h => by rw [List.drop_eq_getElem_cons hlt, iArms_bad _ _ _ _ _ h])
   have HQ := Lib.hid (show ∀ e u, (iArmB (iC N) L[n] u).bad = false → iArms (iC N) (L.drop n) e u = iArms (iC N) (L.drop (n + 1)) (e ++ [(iArm (iC N) L[n] u).list.length - 1]) (if L.drop (n + 1) = [] then iArm (iC N) L[n] u else (iArm (iC N) L[n] u).patch u.list.length) from fun e u h => by rw [List.drop_eq_getElem_cons hlt, iArms, if_neg (by simp [h])])
   have hav := arm_sz L[n]
   clear hmem hl0 hE hcs hr
   generalize L[n] = m at *
   have hq1 : wr.heap.size = wr.heap.size := rfl
   go_wp2_with (first | (with_reducible refine ld rfl 242 _ rfl b _ rfl cs hcs' _ Tryz.underlying242 hi ?_) | (with_reducible refine stA rfl 242 _ _ rfl wr.heap.size 0 rfl cs rfl hi hone0 _ 242 (alloc_at rfl) (by rw [Hl0'.out]; decide) ?_))
   intro w1 hst
   have hB1 : Below wr.heap.size wr w1 := hst.below ((Below.refl _ _).alloc (Nat.le_refl _) _) (Nat.le_refl _)
   have hC1 := hst.at_
   clear hst hq1
   have hr1 := Rep.ext hB1 (fun b h => Nat.lt_of_lt_of_le (hK b h) HSr.out.lo) hr'
   obtain ⟨v1, d2, d3, d4, d5, d6, d7, d8, d9, d10, d11, d12, rfl, hCo, hVr, hBo⟩ := TCoreArm.opn hr1
   obtain ⟨av, capv, rfl, hcv, hmv, -, -⟩ := open_sl encS_w hVr
   unfold maxLen at hmv
   have hib : (Tryz.prog.info? 136).map (·.size) = some ([d2, d3, d4, d5, d6, d7, d8, d9, d10, d11, d12] : List Value).length := infoCo
   have HX := Lib.hid hC1
   have HS1 := Lib.hid (HSr.out.below hB1)
   have HFb := Lib.hid (HFr.out.trans (Fr.below0 hB1 fp0))
   have HF1 := Lib.hid (Fr.refl w1 fp0)
   have HR1 := Lib.hid (row_below hRr hB1 (row_lt hRr))
   have HG1 := Lib.hid (HGr.out.below hB1)
   have hpz1 := Nat.lt_of_lt_of_le hpz hB1.size
   have hqn : wr.heap.size ∉ fp0 := HSr.out.notin (Nat.le_refl _)
   have hq1 := cells_lt hC1
   have Hb1 := Lib.hid HS1.out.hb
   have Hl1 := Lib.hid HS1.out.lo
   clear hr1 hr' hcs' hone0 hi hC1 hB hB1 HSr HFr HGr HRr hRr Hl0' hpz
   generalize wr.heap.size = q at *
   have hCq := HX.out.mono (HF1.out.kept.other q hq1 hqn)
   have hBq := HF1.out.below Hb1.out Hl1.out
   have g1 : w1.cell? ⟨q, 1, none⟩ = some (.slice av m.fVars.length capv) := by simpa using hCq 1 _ rfl
   have g0 : w1.cell? ⟨q, 0, none⟩ = some (.string m.fConstructor) := by simpa using hCq 0 _ rfl
   go_wp2_with fail
   clear g0 g1 hCq hBq
   refine (implAdd_c (opTest m) (inR_n 9 (by decide)) inR_m1 (inR_n _ (by omega)) sz0 hCo t (by omega) _ lo c _ _ _ HS1.out).mono ?_
   rintro e w2 ⟨rfl, fp2, vl2, vs2, hS1, hF1⟩
   have HS2 := Lib.hid hS1; have HF2 := Lib.hid (HF1.out.trans hF1)
   clear hS1 hF1 HS1
   obtain ⟨aS, cS, hvs⟩ : ∃ a cap, vs2 = .slice a t.slots.length cap := gl_slice HS2.out.gs
   subst hvs
   go_wp2_with fail
   have hCq := HX.out.mono (HF2.out.kept.other q hq1 hqn)
   have hBq := HF2.out.below Hb1.out Hl1.out
   have hS := HS2.out
   have hI0 : Below w2.heap.size w2 w2.drew := (Below.refl _ _).drew
   have gS : ∀ w', Below w2.heap.size w2 w' → w'.cell? ⟨c, 1, none⟩ = some (.slice aS t.slots.length cS) := fun w' h => (hS.below h).cell.2.1
   have gV : ∀ w', Below w2.heap.size w2 w' → w'.cell? ⟨q, 1, none⟩ = some (.slice av m.fVars.length capv) := fun w' h => by simpa using (hCq.ext h (cells_lt hCq)) 1 _ rfl
   have hRV : Rep w2.drew K (.sl (m.fVars.map encS)) [.slice av m.fVars.length capv] := Rep.ext hI0 (fun b h => Nat.lt_of_lt_of_le (hK b h) hS.lo) (Rep.ext hBq hK hVr)
   have hsl : t.slots.length + m.fVars.length ≤ 1073741824 := by omega
   have hSd := hS.below hI0
   refine rj 11 7 (Below w2.heap.size w2) (by kernel_rfl) rfl ?_
   refine rj_free (fuel := 6) [0, 1, 2, 3, 5] hI0 (by kernel_rfl) rfl ?_
   simp only [pick, pD, pE]
   refine sg_fix _ rfl (fun w' hI => by go_simp; rfl) ?_
   simp only [Act.put, pA, pB, pC]
   refine sg_fix _ rfl (fun w' hI => by go_simp; rfl) ?_
   simp only [Act.put, pA, pB, pC]
   refine sg_fix _ rfl (fun w' hI => by go_simp; rfl) ?_
   simp only [Act.put, pA, pB, pC]
   refine sg_fix _ rfl (fun w' hI => by go_simp; rfl) ?_
   simp only [Act.put, pA, pB, pC]
   refine sg_fix _ rfl (fun w' hI => by go_simp; rfl) ?_
   simp only [Act.put, pA, pB, pC]
   refine sg_nil ?_
   refine rj_seg (fuel := 4) [4, 6] hI0 (by kernel_rfl) rfl ?_
   simp only [pick, pD, pE]
   refine sg_fix _ rfl (fun w' hI => by have := gS w' hI; have := gV w' hI; go_simp; rfl) ?_
   simp only [Act.put, pA, pB, pC]
   refine sg_fix _ rfl (fun w' hI => by have := gS w' hI; have := gV w' hI; go_simp; rfl) ?_
   simp only [Act.put, pA, pB, pC]
   refine sg_nil ?_
   refine rj_one (fuel := 3) 7 (by kernel_rfl) rfl (fun K0 hK0 => ?_)
   simp only [pick, pD, pE]
   refine oj_apL (v := .slice aS t.slots.length cS) rfl (.tmp 35) (.tmp 37) 48 rfl _ 16 Tryz.underlying48 zinfoN zsizeN (by decide) rfl hSd.gs rfl hRV encS_w flatS (by unfold maxLen; simp [CS.add_slots]; omega) (by simp [CS.add_slots]; omega) hSd.lo ?_
   intro vwa wa hGwa hkwa howa
   refine hK0 _ _ (jw_done (by kernel_rfl)) ?_
   simp only [Act.put, pA, pB, pC]
   refine rj_free' (fuel := 1) [8, 9] (by kernel_rfl) rfl ?_
   simp only [pick, pD, pE]
   refine sg_fix _ rfl (fun w' hI => by go_simp; rfl) ?_
   simp only [Act.put, pA, pB, pC]
   refine sg_fix _ rfl (fun w' hI => by go_simp; rfl) ?_
   simp only [Act.put, pA, pB, pC]
   refine sg_nil ?_
   refine rj_one (fuel := 0) 10 (by kernel_rfl) rfl (fun K3 hK3 => ?_)
   simp only [pick, pD, pE]
   have hR3 : wa.heap[c]? = some (.cells #[vl2, .slice aS t.slots.length cS, .bool (t.add (opTest m)).bad] 179 (0, 0)) := (hkwa.other c hSd.lt (fun q => (hSd.hs c (by simpa using q)).2.1 rfl)).trans hSd.row
   refine oj_st rfl 48 (.tmp 40) (.tmp 38) rfl c 1 rfl vwa rfl infoLS hGwa.one _ _ hR3 (by simp) ?_
   intro w3 hp1
   refine hK3 _ _ (jw_done (by kernel_rfl)) (rj_end (by kernel_rfl) ?_)
   simp only [Act.put]
   obtain ⟨fp3, hS1, hF1⟩ := hSd.setS (l' := t.slots ++ m.fVars) hkwa (by simpa [CS.add_slots] using hGwa) (howa.imp id (fun q g hg => by rw [q] at hg; simp only [Option.some.injEq] at hg; omega)) hp1
   obtain ⟨vl3, vs3, hS1⟩ : ∃ a b, Ste w3 179 173 9 lo c fp3 ((t.add (opTest m)).put (t.slots ++ m.fVars)) a b := ⟨_, _, hS1⟩
   have HS3 := Lib.hid hS1; have HF3 := Lib.hid (HF2.out.trans ((Fr.below0 hI0 _).trans hF1))
   clear hS1 hF1 hp1 hGwa hkwa howa hR3 hSd hS hI0 gS gV hRV hsl
   clear hCq hBq
   have hCq := HX.out.mono (HF3.out.kept.other q hq1 hqn)
   have hBq := HF3.out.below Hb1.out Hl1.out
   have hc : Cells w3 q 2 [d2, d3, d4, d5, d6, d7, d8, d9, d10, d11, d12] := fun j u hu => by have := hCq (j + 2) u hu; rwa [show 0 + (j + 2) = 2 + j by omega] at this
   have hr := Rep.ext hBq hK hBo
   clear hCq hBq
   go_wp2_with (with_reducible refine ld rfl 136 _ rfl q _ rfl [d2, d3, d4, d5, d6, d7, d8, d9, d10, d11, d12] hc _ Tryz.underlying136 hib ?_)
   clear hc
   refine (ih m.fBody hsm (by omega) ((t.add (opTest m)).put (t.slots ++ m.fVars)) (by simp only [CS.add_len, CS.put_list]; omega) (by simp only [CS.put_slots, List.length_append]; omega) _ lo c _ _ _ HS3.out K hK _ hr).mono ?_
   rintro e w4 ⟨rfl, fp4, vl4, vs4, hS1, hF1⟩
   have hbd := bd_iC N m.fBody ((t.add (opTest m)).put (t.slots ++ m.fVars))
   obtain ⟨s4, Hs4⟩ : ∃ t_, t_ = iC N m.fBody ((t.add (opTest m)).put (t.slots ++ m.fVars)) := ⟨_, rfl⟩
   rw [← Hs4] at hS1 hbd
   simp only [CS.add_len, CS.put_list] at hbd
   simp only [CS.put_slots, List.length_append] at hbd
   replace Hs4 := Lib.hid Hs4
   have HS4 := Lib.hid hS1; have HF4 := Lib.hid (HF3.out.trans hF1)
   clear hS1 hF1 hr HS3
   have hbd4 := hbd; clear hbd
   have HB := Lib.hid (show iArmB (iC N) m t = s4 from Hs4.out.symm)
   have gF := HS4.out.cell.2.2
   cases hbad : s4.bad with
   | true =>
    rw [hbad] at gF
    have HN := Lib.hid (HQ0.out none s4 (by rw [← HE.out, HQb.out E t (by rw [HB.out]; exact hbad), HB.out]))
    clear hbad
    go_wp2
    first | go_end0 | ((try simp only [Exit.inBlock, Exit.then]); refine bodyPost_ret (results_none rfl _ _ _) rfl ?_)
    rw [HN.out]
    exact ⟨rfl, fp4, vl4, vs4, HS4.out, HFb.out.trans HF4.out⟩
   | false =>
    rw [hbad] at gF
    have HBf := Lib.hid (show (iArmB (iC N) m t).bad = false from by rw [HB.out]; exact hbad)
    clear hbad
    have hCq := HX.out.mono (HF4.out.kept.other q hq1 hqn)
    have hBq := HF4.out.below Hb1.out Hl1.out
    have g1 : w4.cell? ⟨q, 1, none⟩ = some (.slice av m.fVars.length capv) := by simpa using hCq 1 _ rfl
    go_wp2_with fail
    clear g1 gF hCq hBq
    refine (implDrop_c (m.fVars.length) s4 (by omega) (by omega) (by omega) _ lo c _ _ _ HS4.out).mono ?_
    rintro e w5 ⟨rfl, fp5, vl5, vs5, hS1, hF1⟩
    have HS5 := Lib.hid hS1; have HF5 := Lib.hid (HF4.out.trans hF1)
    clear hS1 hF1 HS4
    go_wp2_with fail
    have hD1 : (iDrop m.fVars.length s4).list.length = s4.list.length + 1 := by unfold iDrop; rw [CS.put_list, CS.add_len]
    have hD2 : (iDrop m.fVars.length s4).slots.length = s4.slots.length - m.fVars.length := by unfold iDrop; rw [CS.put_slots, List.length_take]; omega
    refine (implAdd_c (opOne 10) (inR_n 10 (by decide)) (inR_n 0 (by decide)) (inR_n 0 (by decide)) (by decide) (by decide) (iDrop m.fVars.length s4) (by omega) _ lo c _ _ _ HS5.out).mono ?_
    rintro e w6 ⟨rfl, fp6, vl6, vs6, hS1, hF1⟩
    have HS6 := Lib.hid hS1; have HF6 := Lib.hid (HF5.out.trans hF1)
    clear hS1 hF1 HS5
    rw [hD1]
    have HG7 := Lib.hid (HG1.out.kept HF6.out.kept hev (by simp))
    have hev7 : ∀ g, ev.ownBlock = some g → g ∉ fp6 := fun g hg => HF6.out.notin (HG1.out.block g hg).2 (hev g hg)
    have hp7 : w.heap.size ∉ fp6 := HF6.out.notin (row_lt HR1.out) hpr
    go_wp2_with (with_reducible refine bs1 rfl 292 _ rfl Tryz.underlying292 zinfoZ (by decide) (by decide) (.int .i64 ((s4.list.length + 1 : Nat) : Int)) rfl [.int .i64 ((s4.list.length + 1 : Nat) : Int)] rfl rfl ?_)
    intro w8 hB8 hR8
    have HG8 := Lib.hid (HG7.out.below hB8)
    have hC8 : Cells w8 w6.heap.size 0 [.int .i64 ((s4.list.length + 1 : Nat) : Int)] := row_cells hR8
    have HO8 := Lib.hid (show OwnS w8 [encN (s4.list.length + 1)] [.int .i64 ((s4.list.length + 1 : Nat) : Int)] [] from ownS1 (Rep.own_flat (K := fun _ => True) _ _ (flatI _) (repI (inR_n _ (by omega)))))
    have HC8 := Lib.hid hC8
    have hel : (E.map encN).length ≤ 1073741824 := by rw [List.length_map]; omega
    have hlo8 : w.heap.size + 1 ≤ w8.heap.size := by have := hB8.size; have := HF6.out.kept.size; omega
    have hm8 : [encN (s4.list.length + 1)].length = 1 := rfl
    have hw8 : ∀ d ∈ [encN (s4.list.length + 1)], d.width = 1 := by intro d hd; simp only [List.mem_singleton] at hd; subst hd; exact encI_w _
    clear hC8 hR8 HG7
    go_wp2_with (with_reducible refine apF rfl _ _ 292 rfl (.int .i64 0) 8 Tryz.underlying292 zinfoZ zsizeZ (by decide) rfl HG8.out w6.heap.size 0 1 1 rfl (es := [encN (s4.list.length + 1)]) hm8 hw8 HC8.out HO8.out (by unfold maxLen; omega) (by omega) hlo8 ?_)
    intro ev9 w9 hG9 hk9 ho9
    have hB7 : Below w6.heap.size w6 w8 := hB8
    have hev8 : ∀ b ∈ ev.ownBlock.toList, b ∉ fp6 ∧ w.heap.size + 1 ≤ b := fun b hb => ⟨hev7 b (by simpa using hb), (HG8.out.block b (by simpa using hb)).1⟩
    have HS9 := Lib.hid ((HS6.out.below hB7).kept hk9 (fun b hb => (hev8 b hb).1))
    have HF9 := Lib.hid (((HFb.out.trans HF6.out).trans (Fr.below0 hB7 fp6)).other hk9 (fun b hb => by have := (hev8 b hb).2; omega))
    have HR9 := Lib.hid ((hk9.other _ (Nat.lt_of_lt_of_le (row_lt (HF6.out.row HR1.out hpr)) hB7.size) (fun q => by have := (hev8 _ q).2; omega)).trans (row_below (HF6.out.row HR1.out hpr) hB7 (row_lt (HF6.out.row HR1.out hpr))))
    have HG9 : Hid (Gr w9 (w.heap.size + 1) 3 1 ((E ++ [s4.list.length + 1]).map encN) ev9 []) := Lib.hid (by rw [List.map_append]; exact hG9)
    have hev9 : ∀ g, ev9.ownBlock = some g → g ∉ fp6 := fun g hg => by
     rcases ho9 with ho9 | ho9
     ·exact hev7 g (by rw [← ho9]; exact hg)
     ·rw [ho9] at hg
      simp only [Option.some.injEq] at hg
      exact HS6.out.notin (by have := hB7.size; omega)
    have hpz9 : w.heap.size + 1 < w9.heap.size := by have := hk9.size; have := hB7.size; have := HF6.out.kept.size; omega
    have HA := Lib.hid (show iArm (iC N) m t = ((iDrop m.fVars.length s4).add (opOne 10)) from by unfold iArm; rw [HB.out])
    have hal : ((iDrop m.fVars.length s4).add (opOne 10)).list.length - 1 = s4.list.length + 1 := by rw [CS.add_len, hD1]; rfl
    have HN : Hid (iArms (iC N) (L.drop (n + 1)) (E ++ [s4.list.length + 1]) (if L.drop (n + 1) = [] then ((iDrop m.fVars.length s4).add (opOne 10)) else ((iDrop m.fVars.length s4).add (opOne 10)).patch t.list.length) = iArms (iC N) L [] sA) := Lib.hid (by rw [← HE.out, HQ.out E t HBf.out, HA.out, hal])
    have gA : w9.cell? ⟨w.heap.size, 10, none⟩ = some (.slice (some ⟨b, off, none⟩) L.length cap) := row_cell HR9.out 10
    clear hG9 hk9 ho9 hB7 hev8 hB8 HG8 HC8 HO8 hel hlo8 hm8 hw8 hev7 HS6 HF6 HF1 HFb HG1 HR1 HX hal HA HQ HQb HE HB HBf
    by_cases hl2 : n + 1 < L.length
    ·have HN2 := Lib.hid (show _ from by have := HN.out; rw [if_neg (show ¬ L.drop (n + 1) = [] from by rw [List.drop_eq_nil_iff]; omega)] at this; exact this)
     have d1 : ((n : Int) < (L.length : Int) - 1) := by omega
     go_wp2_with fail
     clear gA
     have hS := HS9.out
     have hI0 : Below w9.heap.size w9 w9.drew := (Below.refl _ _).drew
     have hSd := hS.below hI0
     obtain ⟨gp, capp, curp, hvp, hgl, hgr, hgs, hgG⟩ := patch_at (P := Tryz.prog) hSd.gl (k := t.list.length) (by rw [CS.add_len, hD1]; omega) (n := ((((iDrop m.fVars.length s4).add (opOne 10))).list.length : Int)) (inR_n _ (by rw [CS.add_len, hD1]; omega))
     subst hvp
     have gL : ∀ w', Below w9.heap.size w9 w' → w'.cell? ⟨c, 0, none⟩ = some (.slice (some ⟨gp, 0, none⟩) (((iDrop m.fVars.length s4).add (opOne 10))).list.length capp) := fun w' h => (hS.below h).cell.1
     have hk0 : (t.list.length : Nat) < (((iDrop m.fVars.length s4).add (opOne 10))).list.length := by rw [CS.add_len, hD1]; omega
     have hnn : ∃ n, n = (((iDrop m.fVars.length s4).add (opOne 10))).list.length := ⟨_, rfl⟩
     obtain ⟨n, hnn⟩ := hnn
     rw [← hnn] at hgG gL hk0
     replace hnn := Lib.hid hnn
     have hk1 : ((t.list.length : Nat) : Int) < (n : Int) := by omega
     have hk2 : ¬ ((t.list.length : Nat) : Int) < 0 := by omega
     refine rj 13 12 (Below w9.heap.size w9) (by kernel_rfl) rfl ?_
     refine rj_seg (fuel := 1) [0, 1, 2, 3, 4, 5, 6, 7, 8, 9, 10, 11] hI0 (by kernel_rfl) rfl ?_
     simp only [pick, pD, pE]
     refine sg_fix _ rfl (fun w' hI => by have := gL w' hI; go_simp; first | rfl | rw [if_neg (by omega)]) ?_
     simp only [Act.put, pA, pB, pC]
     refine sg_fix _ rfl (fun w' hI => by have := gL w' hI; go_simp; first | rfl | rw [if_neg (by omega)]) ?_
     simp only [Act.put, pA, pB, pC]
     refine sg_fix _ rfl (fun w' hI => by have := gL w' hI; go_simp; first | rfl | rw [if_neg (by omega)]) ?_
     simp only [Act.put, pA, pB, pC]
     refine sg_fix _ rfl (fun w' hI => by have := gL w' hI; go_simp; first | rfl | rw [if_neg (by omega)]) ?_
     simp only [Act.put, pA, pB, pC]
     refine sg_fix _ rfl (fun w' hI => by have := gL w' hI; go_simp; first | rfl | rw [if_neg (by omega)]) ?_
     simp only [Act.put, pA, pB, pC]
     refine sg_fix _ rfl (fun w' hI => by have := gL w' hI; go_simp; first | rfl | rw [if_neg (by omega)]) ?_
     simp only [Act.put, pA, pB, pC]
     refine sg_fix _ rfl (fun w' hI => by have := gL w' hI; go_simp; first | rfl | rw [if_neg (by omega)]) ?_
     simp only [Act.put, pA, pB, pC]
     refine sg_fix _ rfl (fun w' hI => by have := gL w' hI; go_simp; first | rfl | rw [if_neg (by omega)]) ?_
     simp only [Act.put, pA, pB, pC]
     refine sg_fix _ rfl (fun w' hI => by have := gL w' hI; go_simp; first | rfl | rw [if_neg (by omega)]) ?_
     simp only [Act.put, pA, pB, pC]
     refine sg_fix _ rfl (fun w' hI => by have := gL w' hI; go_simp; first | rfl | rw [if_neg (by omega)]) ?_
     simp only [Act.put, pA, pB, pC]
     refine sg_fix _ rfl (fun w' hI => by have := gL w' hI; go_simp; first | rfl | rw [if_neg (by omega)]) ?_
     simp only [Act.put, pA, pB, pC]
     refine sg_fix _ rfl (fun w' hI => by have := gL w' hI; go_simp; first | rfl | rw [if_neg (by omega)]) ?_
     simp only [Act.put, pA, pB, pC]
     refine sg_nil ?_
     refine rj_one (fuel := 0) 12 (by kernel_rfl) rfl (fun K0 hK0 => ?_)
     simp only [pick, pD, pE]
     refine oj_st rfl 3 (.tmp 77) (.tmp 75) rfl gp (t.list.length * 5 + 1) (by go_simp) (.int .i64 n) rfl infoZ1 rfl curp _ hgr hgs ?_
     intro w10 hp1
     refine hK0 _ _ (jw_done (by kernel_rfl)) (rj_end (by kernel_rfl) ?_)
     simp only [Act.put]
     replace hnn := hnn.out
     subst hnn
     obtain ⟨hS1, hF1⟩ := hSd.patch rfl hp1 (hgG _ hp1)
     have HS10 := Lib.hid hS1; have HF10 := Lib.hid (HF9.out.trans ((Fr.below0 hI0 _).trans hF1)); have HP10 := Lib.hid ((Fr.below0 hI0 _).trans hF1)
     clear hS1 hF1 hp1 hgG hgs hgr hgl hSd hS hI0 gL hk0 HS9
     have HG10 := Lib.hid (HG9.out.kept HP10.out.kept hev9 (by simp))
     have HR10 := Lib.hid (HP10.out.row HR9.out hp7)
     have hpz10 := Nat.lt_of_lt_of_le hpz9 HP10.out.kept.size
     clear HG9 HR9 hpz9 HP10
     go_wp2
     go_roundw
     case rel => exact ⟨_, n + 1, _, _, fp6, _, _, rfl, hlt, by go_num, HN2, HS10, HF10, HR10, hp7, hpz10, HG10, hev9, by rw [List.length_append, List.length_singleton, hEn], by
      intro k hk
      rw [CS.patch_len, CS.add_len, hD1]
      rcases List.mem_append.1 hk with hk | hk
      ·have := hEk k hk; omega
      ·simp only [List.mem_singleton] at hk; omega, by rw [CS.patch_len, CS.add_len, hD1]; omega, by rw [CS.patch_slots, CS.add_slots, hD2]; omega⟩
     case measure => simp [intOf]; omega
    ·have HN2 := Lib.hid (show _ from by have := HN.out; rw [if_pos (show L.drop (n + 1) = [] from by rw [List.drop_eq_nil_iff]; omega)] at this; exact this)
     have d1 : ¬ ((n : Int) < (L.length : Int) - 1) := by omega
     go_wp2
     go_roundw
     case rel => exact ⟨_, n + 1, _, _, fp6, _, _, rfl, hlt, by go_num, HN2, HS9, HF9, HR9, hp7, hpz9, HG9, hev9, by rw [List.length_append, List.length_singleton, hEn], by
      intro k hk
      rw [CS.add_len, hD1]
      rcases List.mem_append.1 hk with hk | hk
      ·have := hEk k hk; omega
      ·simp only [List.mem_singleton] at hk; omega, by rw [CS.add_len, hD1]; omega, by rw [CS.add_slots, hD2]; omega⟩
     case measure => simp [intOf]; omega
  ·obtain rfl : n = L.length := by omega
   have hE1 := HE.out
   rw [List.drop_length, iArms_nil] at hE1
   have HE1 := Lib.hid (HQ0.out (some E) t hE1.symm)
   clear HE HQ0 hE1 hE
   obtain ⟨ae, ce, rfl⟩ := gl_slice HGr.out
   have hEl : E.length ≤ 1048576 := by omega
   clear hEn
   go_wp2
   rename World => wf
   go_loopw [81] (fun i wx => ∃ (k : Nat) (u : CS) (fp2 : List Nat) (vl2 vs2 : Value), k ≤ E.length ∧ i = .int .i64 k ∧ Hid (cEnds (E.drop k) u = cEnds E t) ∧ Hid (Ste wx 179 173 9 lo c fp2 u vl2 vs2) ∧ Hid (Fr wf wx fp0 fp2) ∧ u.list.length = t.list.length) (fun i _ => E.length - (intOf i).toNat)
   case atStart => exact ⟨0, t, fp0, _, _, Nat.zero_le _, rfl, Lib.hid rfl, HSr, Lib.hid (Fr.refl _ _), rfl⟩
   case round =>
    clear HSr
    obtain ⟨k, u, fp1, vl1, vs1, hk, rfl, HE, HS1, HF1, hul⟩ := hrel
    by_cases hlt2 : k < E.length
    ·obtain ⟨ge, ce', hve, -⟩ := gr_leaf (enc := encN) (fun n => .int .i64 (n : Int)) (fun _ => rfl) HGr.out hlt2
     simp only [Value.slice.injEq, true_and] at hve
     obtain ⟨rfl, rfl⟩ := hve
     have hpG := HGr.out.kept HF1.out.kept hev (by simp)
     have HQ := Lib.hid (show ∀ x, cEnds (E.drop k) x = cEnds (E.drop (k + 1)) (x.patch E[k]) from fun x => by rw [List.drop_eq_getElem_cons hlt2, cEnds_cons])
     have hkl := hEk _ (List.getElem_mem hlt2)
     have gE : wr.cell? ⟨ge, k, none⟩ = some (.int .i64 (E[k] : Nat)) := by
      obtain ⟨g2, c2, hv2, h2⟩ := gr_leaf (enc := encN) (fun n => .int .i64 (n : Int)) (fun _ => rfl) hpG hlt2
      simp only [Value.slice.injEq, true_and, Option.some.injEq, Addr.mk.injEq, and_true] at hv2
      rw [hv2.1]
      exact h2
     clear hpG
     generalize E[k] = j at *
     go_wp2_with fail
     clear gE
     have hS := HS1.out
     have hI0 : Below wr.heap.size wr wr.drew := (Below.refl _ _).drew
     have hSd := hS.below hI0
     obtain ⟨gp, capp, curp, hvp, hgl, hgr, hgs, hgG⟩ := patch_at (P := Tryz.prog) hSd.gl (k := j) (by omega) (n := ((u).list.length : Int)) (inR_n _ (by omega))
     subst hvp
     have gL : ∀ w', Below wr.heap.size wr w' → w'.cell? ⟨c, 0, none⟩ = some (.slice (some ⟨gp, 0, none⟩) (u).list.length capp) := fun w' h => (hS.below h).cell.1
     have hk0 : (j : Nat) < (u).list.length := by omega
     have hnn : ∃ n, n = (u).list.length := ⟨_, rfl⟩
     obtain ⟨n, hnn⟩ := hnn
     rw [← hnn] at hgG gL hk0
     replace hnn := Lib.hid hnn
     have hk1 : ((j : Nat) : Int) < (n : Int) := by omega
     have hk2 : ¬ ((j : Nat) : Int) < 0 := by omega
     refine rj 13 12 (Below wr.heap.size wr) (by kernel_rfl) rfl ?_
     refine rj_seg (fuel := 1) [0, 1, 2, 3, 4, 5, 6, 7, 8, 9, 10, 11] hI0 (by kernel_rfl) rfl ?_
     simp only [pick, pD, pE]
     refine sg_fix _ rfl (fun w' hI => by have := gL w' hI; go_simp; first | rfl | rw [if_neg (by omega)]) ?_
     simp only [Act.put, pA, pB, pC]
     refine sg_fix _ rfl (fun w' hI => by have := gL w' hI; go_simp; first | rfl | rw [if_neg (by omega)]) ?_
     simp only [Act.put, pA, pB, pC]
     refine sg_fix _ rfl (fun w' hI => by have := gL w' hI; go_simp; first | rfl | rw [if_neg (by omega)]) ?_
     simp only [Act.put, pA, pB, pC]
     refine sg_fix _ rfl (fun w' hI => by have := gL w' hI; go_simp; first | rfl | rw [if_neg (by omega)]) ?_
     simp only [Act.put, pA, pB, pC]
     refine sg_fix _ rfl (fun w' hI => by have := gL w' hI; go_simp; first | rfl | rw [if_neg (by omega)]) ?_
     simp only [Act.put, pA, pB, pC]
     refine sg_fix _ rfl (fun w' hI => by have := gL w' hI; go_simp; first | rfl | rw [if_neg (by omega)]) ?_
     simp only [Act.put, pA, pB, pC]
     refine sg_fix _ rfl (fun w' hI => by have := gL w' hI; go_simp; first | rfl | rw [if_neg (by omega)]) ?_
     simp only [Act.put, pA, pB, pC]
     refine sg_fix _ rfl (fun w' hI => by have := gL w' hI; go_simp; first | rfl | rw [if_neg (by omega)]) ?_
     simp only [Act.put, pA, pB, pC]
     refine sg_fix _ rfl (fun w' hI => by have := gL w' hI; go_simp; first | rfl | rw [if_neg (by omega)]) ?_
     simp only [Act.put, pA, pB, pC]
     refine sg_fix _ rfl (fun w' hI => by have := gL w' hI; go_simp; first | rfl | rw [if_neg (by omega)]) ?_
     simp only [Act.put, pA, pB, pC]
     refine sg_fix _ rfl (fun w' hI => by have := gL w' hI; go_simp; first | rfl | rw [if_neg (by omega)]) ?_
     simp only [Act.put, pA, pB, pC]
     refine sg_fix _ rfl (fun w' hI => by have := gL w' hI; go_simp; first | rfl | rw [if_neg (by omega)]) ?_
     simp only [Act.put, pA, pB, pC]
     refine sg_nil ?_
     refine rj_one (fuel := 0) 12 (by kernel_rfl) rfl (fun K0 hK0 => ?_)
     simp only [pick, pD, pE]
     refine oj_st rfl 3 (.tmp 96) (.tmp 94) rfl gp (j * 5 + 1) (by go_simp) (.int .i64 n) rfl infoZ1 rfl curp _ hgr hgs ?_
     intro w2 hp1
     refine hK0 _ _ (jw_done (by kernel_rfl)) (rj_end (by kernel_rfl) ?_)
     simp only [Act.put]
     replace hnn := hnn.out
     subst hnn
     obtain ⟨hS1, hF1⟩ := hSd.patch rfl hp1 (hgG _ hp1)
     have HS2 := Lib.hid hS1; have HF2 := Lib.hid (HF1.out.trans ((Fr.below0 hI0 _).trans hF1))
     clear hS1 hF1 hp1 hgG hgs hgr hgl hSd hS hI0 gL hk0 HS1
     have hul2 : (u.patch j).list.length = t.list.length := (CS.patch_len _ _).trans hul
     go_wp2
     go_roundw
     case rel => exact ⟨k + 1, u.patch j, _, _, _, hlt2, by go_num, Lib.hid ((HQ.out u).symm.trans HE.out), HS2, HF2, hul2⟩
     case measure => simp [intOf]; omega
    ·obtain rfl : k = E.length := by omega
     have hE0 := HE.out
     rw [List.drop_length, cEnds_nil] at hE0
     have Hfin := Lib.hid (HE1.out.trans hE0.symm)
     clear hE0
     go_wp2
     first | go_end0 | ((try simp only [Exit.inBlock, Exit.then]); refine bodyPost_ret (results_none rfl _ _ _) rfl ?_)
     rw [Hfin.out]
     exact ⟨rfl, fp1, vl1, vs1, HS1.out, HFr.out.trans HF1.out⟩
theorem opOf_in {x : TCore} (hN : InR x.fN) (hl : x.fArgs.length ≤ 1048576) (hT : x.fTrait.size ≤ maxLen) (hM : x.fName.size ≤ maxLen) : InR (opOf x).fOp ∧ InR (opOf x).fA ∧ InR (opOf x).fB ∧ (opOf x).fTrait.size ≤ maxLen ∧ (opOf x).fName.size ≤ maxLen := by
 have h0 : ∀ n : Nat, n ≤ 14 → InR (n : Int) := fun n h => inR_n n (by omega)
 have h1 : InR (x.fArgs.length : Int) := inR_n _ (by omega)
 unfold opOf instr
 split
 ·exact ⟨h0 8 (by decide), h0 0 (by decide), h1, sz0, hM⟩
 ·split
  ·exact ⟨h0 12 (by decide), h0 0 (by decide), h0 0 (by decide), sz0, hM⟩
  ·split
   ·exact ⟨h0 13 (by decide), hN, h0 0 (by decide), sz0, hT⟩
   ·split
    ·exact ⟨h0 7 (by decide), h0 0 (by decide), h1, hT, hM⟩
    ·exact ⟨h0 6 (by decide), hN, h1, sz0, sz0⟩
set_option maxRecDepth 100000 in
set_option maxHeartbeats 4000000 in
theorem implOperation_c (x : TCore) : ∀ (w : World) (K : Nat → Prop) (cs : List Value) (_ : Rep w K x.enc cs),
  Calls Tryz.prog 163 #[.agg cs.toArray] w fun e w' => e = .returned (.agg #[.int .i64 (opOf x).fOp, .int .i64 (opOf x).fA, .int .i64 (opOf x).fB, .string (opOf x).fTrait, .string (opOf x).fName]) ∧ Below w.heap.size w w' := by
 intro w K cs h
 obtain ⟨c4, c5, c6, c7, c8, c9, c10, rfl, hKd, hTr, hNm, hNn, -, -, -, hAr, -⟩ := TCore.opn h
 clear h hKd hTr hNm hNn
 obtain ⟨a, cap, rfl, -, -, -, -⟩ := open_sl TCore.width hAr
 clear hAr
 have hV : Below w.heap.size w ((w.alloc (.cells #[.int .i64 x.fKind, .string x.fTrait, .string x.fName, .int .i64 x.fN, c4, c5, c6, c7, c8, .slice a x.fArgs.length cap, c10] 136)).alloc (.cells #[.int .i64 0, .int .i64 0, .int .i64 0, .string ⟨#[]⟩, .string ⟨#[]⟩] 173)) := ((Below.refl _ _).alloc (Nat.le_refl _) _).alloc (by simp) _
 have HR := Lib.hid (show ((w.alloc (.cells #[.int .i64 x.fKind, .string x.fTrait, .string x.fName, .int .i64 x.fN, c4, c5, c6, c7, c8, .slice a x.fArgs.length cap, c10] 136)).alloc (.cells #[.int .i64 0, .int .i64 0, .int .i64 0, .string ⟨#[]⟩, .string ⟨#[]⟩] 173)).heap[w.heap.size + 1]? = some (.cells #[.int .i64 0, .int .i64 0, .int .i64 0, .string ⟨#[]⟩, .string ⟨#[]⟩] 173 (0, 0)) from alloc_at (by simp))
 by_cases k6 : x.fKind = 6
 ·have ho : opOf x = instr 8 0 x.fArgs.length ⟨#[]⟩ x.fName := by unfold opOf; rw [if_pos k6]
  rw [ho]
  clear ho
  have b6 : (x.fKind == 6) = true := by simpa using k6
  clear k6
  have haf := Lib.hid (show ((#[.int .i64 0, .int .i64 0, .int .i64 0, .string ⟨#[]⟩, .string ⟨#[]⟩] : Array Value).toList.take 0 ++ ([.int .i64 8, .int .i64 0, .int .i64 (x.fArgs.length : Int), .string ⟨#[]⟩, .string x.fName] : List Value) ++ (#[.int .i64 0, .int .i64 0, .int .i64 0, .string ⟨#[]⟩, .string ⟨#[]⟩] : Array Value).toList.drop (0 + ([.int .i64 8, .int .i64 0, .int .i64 (x.fArgs.length : Int), .string ⟨#[]⟩, .string x.fName] : List Value).length)).toArray = #[.int .i64 8, .int .i64 0, .int .i64 (x.fArgs.length : Int), .string ⟨#[]⟩, .string x.fName] from rfl)
  have hff := Lib.hid (show 0 + ([.int .i64 8, .int .i64 0, .int .i64 (x.fArgs.length : Int), .string ⟨#[]⟩, .string x.fName] : List Value).length ≤ (#[.int .i64 0, .int .i64 0, .int .i64 0, .string ⟨#[]⟩, .string ⟨#[]⟩] : Array Value).size from (by decide : 0 + 5 ≤ 5))
  have hif := Lib.hid (show (Tryz.prog.info? 173).map (·.size) = some ([.int .i64 8, .int .i64 0, .int .i64 (x.fArgs.length : Int), .string ⟨#[]⟩, .string x.fName] : List Value).length from infoI5)
  have hone : ∀ u ∈ ([.int .i64 8, .int .i64 0, .int .i64 (x.fArgs.length : Int), .string ⟨#[]⟩, .string x.fName] : List Value), u.oneCell' = true := by intro u hu; simp only [List.mem_cons, List.not_mem_nil, or_false] at hu; rcases hu with rfl | rfl | rfl | rfl | rfl <;> rfl
  go_enter Tryz.func163, Tryz.ntmps163
  go_wp2_with (with_reducible refine stR rfl 173 _ _ rfl (w.heap.size + 1) 0 rfl [.int .i64 8, .int .i64 0, .int .i64 (x.fArgs.length : Int), .string ⟨#[]⟩, .string x.fName] rfl hif.out hone #[.int .i64 0, .int .i64 0, .int .i64 0, .string ⟨#[]⟩, .string ⟨#[]⟩] #[.int .i64 8, .int .i64 0, .int .i64 (x.fArgs.length : Int), .string ⟨#[]⟩, .string x.fName] 173 HR.out hff.out haf.out ?_)
  intro vf hpf
  have hVf := hpf.below hV (by omega)
  have cR := row_cells (cs := [.int .i64 8, .int .i64 0, .int .i64 (x.fArgs.length : Int), .string ⟨#[]⟩, .string x.fName]) hpf.row
  go_wp2
  (try simp only [Exit.inBlock, Exit.then])
  exact bodyPost_ret (v := .agg #[.int .i64 8, .int .i64 0, .int .i64 (x.fArgs.length : Int), .string ⟨#[]⟩, .string x.fName]) (run_res Tryz.results163 (w.heap.size + 1) rfl [.int .i64 8, .int .i64 0, .int .i64 (x.fArgs.length : Int), .string ⟨#[]⟩, .string x.fName] cR _ Tryz.underlying173 hif.out) rfl ⟨rfl, hVf⟩
 by_cases k10 : x.fKind = 10
 ·have ho : opOf x = instr 12 0 0 ⟨#[]⟩ x.fName := by unfold opOf; rw [if_neg k6, if_pos k10]
  rw [ho]
  clear ho
  have b6 : (x.fKind == 6) = false := by simpa using k6
  have b10 : (x.fKind == 10) = true := by simpa using k10
  clear k6 k10
  have haf := Lib.hid (show ((#[.int .i64 0, .int .i64 0, .int .i64 0, .string ⟨#[]⟩, .string ⟨#[]⟩] : Array Value).toList.take 0 ++ ([.int .i64 12, .int .i64 0, .int .i64 0, .string ⟨#[]⟩, .string x.fName] : List Value) ++ (#[.int .i64 0, .int .i64 0, .int .i64 0, .string ⟨#[]⟩, .string ⟨#[]⟩] : Array Value).toList.drop (0 + ([.int .i64 12, .int .i64 0, .int .i64 0, .string ⟨#[]⟩, .string x.fName] : List Value).length)).toArray = #[.int .i64 12, .int .i64 0, .int .i64 0, .string ⟨#[]⟩, .string x.fName] from rfl)
  have hff := Lib.hid (show 0 + ([.int .i64 12, .int .i64 0, .int .i64 0, .string ⟨#[]⟩, .string x.fName] : List Value).length ≤ (#[.int .i64 0, .int .i64 0, .int .i64 0, .string ⟨#[]⟩, .string ⟨#[]⟩] : Array Value).size from (by decide : 0 + 5 ≤ 5))
  have hif := Lib.hid (show (Tryz.prog.info? 173).map (·.size) = some ([.int .i64 12, .int .i64 0, .int .i64 0, .string ⟨#[]⟩, .string x.fName] : List Value).length from infoI5)
  have hone : ∀ u ∈ ([.int .i64 12, .int .i64 0, .int .i64 0, .string ⟨#[]⟩, .string x.fName] : List Value), u.oneCell' = true := by intro u hu; simp only [List.mem_cons, List.not_mem_nil, or_false] at hu; rcases hu with rfl | rfl | rfl | rfl | rfl <;> rfl
  go_enter Tryz.func163, Tryz.ntmps163
  go_wp2_with (with_reducible refine stR rfl 173 _ _ rfl (w.heap.size + 1) 0 rfl [.int .i64 12, .int .i64 0, .int .i64 0, .string ⟨#[]⟩, .string x.fName] rfl hif.out hone #[.int .i64 0, .int .i64 0, .int .i64 0, .string ⟨#[]⟩, .string ⟨#[]⟩] #[.int .i64 12, .int .i64 0, .int .i64 0, .string ⟨#[]⟩, .string x.fName] 173 HR.out hff.out haf.out ?_)
  intro vf hpf
  have hVf := hpf.below hV (by omega)
  have cR := row_cells (cs := [.int .i64 12, .int .i64 0, .int .i64 0, .string ⟨#[]⟩, .string x.fName]) hpf.row
  go_wp2
  (try simp only [Exit.inBlock, Exit.then])
  exact bodyPost_ret (v := .agg #[.int .i64 12, .int .i64 0, .int .i64 0, .string ⟨#[]⟩, .string x.fName]) (run_res Tryz.results163 (w.heap.size + 1) rfl [.int .i64 12, .int .i64 0, .int .i64 0, .string ⟨#[]⟩, .string x.fName] cR _ Tryz.underlying173 hif.out) rfl ⟨rfl, hVf⟩
 by_cases k11 : x.fKind = 11
 ·have ho : opOf x = instr 13 x.fN 0 ⟨#[]⟩ x.fTrait := by unfold opOf; rw [if_neg k6, if_neg k10, if_pos k11]
  rw [ho]
  clear ho
  have b6 : (x.fKind == 6) = false := by simpa using k6
  have b10 : (x.fKind == 10) = false := by simpa using k10
  have b11 : (x.fKind == 11) = true := by simpa using k11
  clear k6 k10 k11
  have haf := Lib.hid (show ((#[.int .i64 0, .int .i64 0, .int .i64 0, .string ⟨#[]⟩, .string ⟨#[]⟩] : Array Value).toList.take 0 ++ ([.int .i64 13, .int .i64 x.fN, .int .i64 0, .string ⟨#[]⟩, .string x.fTrait] : List Value) ++ (#[.int .i64 0, .int .i64 0, .int .i64 0, .string ⟨#[]⟩, .string ⟨#[]⟩] : Array Value).toList.drop (0 + ([.int .i64 13, .int .i64 x.fN, .int .i64 0, .string ⟨#[]⟩, .string x.fTrait] : List Value).length)).toArray = #[.int .i64 13, .int .i64 x.fN, .int .i64 0, .string ⟨#[]⟩, .string x.fTrait] from rfl)
  have hff := Lib.hid (show 0 + ([.int .i64 13, .int .i64 x.fN, .int .i64 0, .string ⟨#[]⟩, .string x.fTrait] : List Value).length ≤ (#[.int .i64 0, .int .i64 0, .int .i64 0, .string ⟨#[]⟩, .string ⟨#[]⟩] : Array Value).size from (by decide : 0 + 5 ≤ 5))
  have hif := Lib.hid (show (Tryz.prog.info? 173).map (·.size) = some ([.int .i64 13, .int .i64 x.fN, .int .i64 0, .string ⟨#[]⟩, .string x.fTrait] : List Value).length from infoI5)
  have hone : ∀ u ∈ ([.int .i64 13, .int .i64 x.fN, .int .i64 0, .string ⟨#[]⟩, .string x.fTrait] : List Value), u.oneCell' = true := by intro u hu; simp only [List.mem_cons, List.not_mem_nil, or_false] at hu; rcases hu with rfl | rfl | rfl | rfl | rfl <;> rfl
  go_enter Tryz.func163, Tryz.ntmps163
  go_wp2_with (with_reducible refine stR rfl 173 _ _ rfl (w.heap.size + 1) 0 rfl [.int .i64 13, .int .i64 x.fN, .int .i64 0, .string ⟨#[]⟩, .string x.fTrait] rfl hif.out hone #[.int .i64 0, .int .i64 0, .int .i64 0, .string ⟨#[]⟩, .string ⟨#[]⟩] #[.int .i64 13, .int .i64 x.fN, .int .i64 0, .string ⟨#[]⟩, .string x.fTrait] 173 HR.out hff.out haf.out ?_)
  intro vf hpf
  have hVf := hpf.below hV (by omega)
  have cR := row_cells (cs := [.int .i64 13, .int .i64 x.fN, .int .i64 0, .string ⟨#[]⟩, .string x.fTrait]) hpf.row
  go_wp2
  (try simp only [Exit.inBlock, Exit.then])
  exact bodyPost_ret (v := .agg #[.int .i64 13, .int .i64 x.fN, .int .i64 0, .string ⟨#[]⟩, .string x.fTrait]) (run_res Tryz.results163 (w.heap.size + 1) rfl [.int .i64 13, .int .i64 x.fN, .int .i64 0, .string ⟨#[]⟩, .string x.fTrait] cR _ Tryz.underlying173 hif.out) rfl ⟨rfl, hVf⟩
 by_cases k5 : x.fKind = 5
 ·by_cases hn : x.fN = -1
  ·have ho : opOf x = instr 7 0 x.fArgs.length x.fTrait x.fName := by unfold opOf; rw [if_neg k6, if_neg k10, if_neg k11, if_pos ⟨k5, hn⟩]
   rw [ho]
   clear ho
   have b6 : (x.fKind == 6) = false := by simpa using k6
   have b10 : (x.fKind == 10) = false := by simpa using k10
   have b11 : (x.fKind == 11) = false := by simpa using k11
   have b5 : (x.fKind == 5) = true := by simpa using k5
   have bn : (x.fN == -1) = true := by simpa using hn
   clear k6 k10 k11 k5 hn
   have haf := Lib.hid (show ((#[.int .i64 0, .int .i64 0, .int .i64 0, .string ⟨#[]⟩, .string ⟨#[]⟩] : Array Value).toList.take 0 ++ ([.int .i64 7, .int .i64 0, .int .i64 (x.fArgs.length : Int), .string x.fTrait, .string x.fName] : List Value) ++ (#[.int .i64 0, .int .i64 0, .int .i64 0, .string ⟨#[]⟩, .string ⟨#[]⟩] : Array Value).toList.drop (0 + ([.int .i64 7, .int .i64 0, .int .i64 (x.fArgs.length : Int), .string x.fTrait, .string x.fName] : List Value).length)).toArray = #[.int .i64 7, .int .i64 0, .int .i64 (x.fArgs.length : Int), .string x.fTrait, .string x.fName] from rfl)
   have hff := Lib.hid (show 0 + ([.int .i64 7, .int .i64 0, .int .i64 (x.fArgs.length : Int), .string x.fTrait, .string x.fName] : List Value).length ≤ (#[.int .i64 0, .int .i64 0, .int .i64 0, .string ⟨#[]⟩, .string ⟨#[]⟩] : Array Value).size from (by decide : 0 + 5 ≤ 5))
   have hif := Lib.hid (show (Tryz.prog.info? 173).map (·.size) = some ([.int .i64 7, .int .i64 0, .int .i64 (x.fArgs.length : Int), .string x.fTrait, .string x.fName] : List Value).length from infoI5)
   have hone : ∀ u ∈ ([.int .i64 7, .int .i64 0, .int .i64 (x.fArgs.length : Int), .string x.fTrait, .string x.fName] : List Value), u.oneCell' = true := by intro u hu; simp only [List.mem_cons, List.not_mem_nil, or_false] at hu; rcases hu with rfl | rfl | rfl | rfl | rfl <;> rfl
   go_enter Tryz.func163, Tryz.ntmps163
   go_wp2_with (with_reducible refine stR rfl 173 _ _ rfl (w.heap.size + 1) 0 rfl [.int .i64 7, .int .i64 0, .int .i64 (x.fArgs.length : Int), .string x.fTrait, .string x.fName] rfl hif.out hone #[.int .i64 0, .int .i64 0, .int .i64 0, .string ⟨#[]⟩, .string ⟨#[]⟩] #[.int .i64 7, .int .i64 0, .int .i64 (x.fArgs.length : Int), .string x.fTrait, .string x.fName] 173 HR.out hff.out haf.out ?_)
   intro vf hpf
   have hVf := hpf.below hV (by omega)
   have cR := row_cells (cs := [.int .i64 7, .int .i64 0, .int .i64 (x.fArgs.length : Int), .string x.fTrait, .string x.fName]) hpf.row
   go_wp2
   (try simp only [Exit.inBlock, Exit.then])
   exact bodyPost_ret (v := .agg #[.int .i64 7, .int .i64 0, .int .i64 (x.fArgs.length : Int), .string x.fTrait, .string x.fName]) (run_res Tryz.results163 (w.heap.size + 1) rfl [.int .i64 7, .int .i64 0, .int .i64 (x.fArgs.length : Int), .string x.fTrait, .string x.fName] cR _ Tryz.underlying173 hif.out) rfl ⟨rfl, hVf⟩
  ·have ho : opOf x = instr 6 x.fN x.fArgs.length ⟨#[]⟩ ⟨#[]⟩ := by unfold opOf; rw [if_neg k6, if_neg k10, if_neg k11, if_neg (fun q => hn q.2)]
   rw [ho]
   clear ho
   have b6 : (x.fKind == 6) = false := by simpa using k6
   have b10 : (x.fKind == 10) = false := by simpa using k10
   have b11 : (x.fKind == 11) = false := by simpa using k11
   have b5 : (x.fKind == 5) = true := by simpa using k5
   have bn : (x.fN == -1) = false := by simpa using hn
   clear k6 k10 k11 k5 hn
   have haf := Lib.hid (show ((#[.int .i64 0, .int .i64 0, .int .i64 0, .string ⟨#[]⟩, .string ⟨#[]⟩] : Array Value).toList.take 0 ++ ([.int .i64 6, .int .i64 x.fN, .int .i64 (x.fArgs.length : Int), .string ⟨#[]⟩, .string ⟨#[]⟩] : List Value) ++ (#[.int .i64 0, .int .i64 0, .int .i64 0, .string ⟨#[]⟩, .string ⟨#[]⟩] : Array Value).toList.drop (0 + ([.int .i64 6, .int .i64 x.fN, .int .i64 (x.fArgs.length : Int), .string ⟨#[]⟩, .string ⟨#[]⟩] : List Value).length)).toArray = #[.int .i64 6, .int .i64 x.fN, .int .i64 (x.fArgs.length : Int), .string ⟨#[]⟩, .string ⟨#[]⟩] from rfl)
   have hff := Lib.hid (show 0 + ([.int .i64 6, .int .i64 x.fN, .int .i64 (x.fArgs.length : Int), .string ⟨#[]⟩, .string ⟨#[]⟩] : List Value).length ≤ (#[.int .i64 0, .int .i64 0, .int .i64 0, .string ⟨#[]⟩, .string ⟨#[]⟩] : Array Value).size from (by decide : 0 + 5 ≤ 5))
   have hif := Lib.hid (show (Tryz.prog.info? 173).map (·.size) = some ([.int .i64 6, .int .i64 x.fN, .int .i64 (x.fArgs.length : Int), .string ⟨#[]⟩, .string ⟨#[]⟩] : List Value).length from infoI5)
   have hone : ∀ u ∈ ([.int .i64 6, .int .i64 x.fN, .int .i64 (x.fArgs.length : Int), .string ⟨#[]⟩, .string ⟨#[]⟩] : List Value), u.oneCell' = true := by intro u hu; simp only [List.mem_cons, List.not_mem_nil, or_false] at hu; rcases hu with rfl | rfl | rfl | rfl | rfl <;> rfl
   go_enter Tryz.func163, Tryz.ntmps163
   go_wp2_with (with_reducible refine stR rfl 173 _ _ rfl (w.heap.size + 1) 0 rfl [.int .i64 6, .int .i64 x.fN, .int .i64 (x.fArgs.length : Int), .string ⟨#[]⟩, .string ⟨#[]⟩] rfl hif.out hone #[.int .i64 0, .int .i64 0, .int .i64 0, .string ⟨#[]⟩, .string ⟨#[]⟩] #[.int .i64 6, .int .i64 x.fN, .int .i64 (x.fArgs.length : Int), .string ⟨#[]⟩, .string ⟨#[]⟩] 173 HR.out hff.out haf.out ?_)
   intro vf hpf
   have hVf := hpf.below hV (by omega)
   have cR := row_cells (cs := [.int .i64 6, .int .i64 x.fN, .int .i64 (x.fArgs.length : Int), .string ⟨#[]⟩, .string ⟨#[]⟩]) hpf.row
   go_wp2
   (try simp only [Exit.inBlock, Exit.then])
   exact bodyPost_ret (v := .agg #[.int .i64 6, .int .i64 x.fN, .int .i64 (x.fArgs.length : Int), .string ⟨#[]⟩, .string ⟨#[]⟩]) (run_res Tryz.results163 (w.heap.size + 1) rfl [.int .i64 6, .int .i64 x.fN, .int .i64 (x.fArgs.length : Int), .string ⟨#[]⟩, .string ⟨#[]⟩] cR _ Tryz.underlying173 hif.out) rfl ⟨rfl, hVf⟩
 ·have ho : opOf x = instr 6 x.fN x.fArgs.length ⟨#[]⟩ ⟨#[]⟩ := by unfold opOf; rw [if_neg k6, if_neg k10, if_neg k11, if_neg (fun q => k5 q.1)]
  rw [ho]
  clear ho
  have b6 : (x.fKind == 6) = false := by simpa using k6
  have b10 : (x.fKind == 10) = false := by simpa using k10
  have b11 : (x.fKind == 11) = false := by simpa using k11
  have b5 : (x.fKind == 5) = false := by simpa using k5
  clear k6 k10 k11 k5
  have haf := Lib.hid (show ((#[.int .i64 0, .int .i64 0, .int .i64 0, .string ⟨#[]⟩, .string ⟨#[]⟩] : Array Value).toList.take 0 ++ ([.int .i64 6, .int .i64 x.fN, .int .i64 (x.fArgs.length : Int), .string ⟨#[]⟩, .string ⟨#[]⟩] : List Value) ++ (#[.int .i64 0, .int .i64 0, .int .i64 0, .string ⟨#[]⟩, .string ⟨#[]⟩] : Array Value).toList.drop (0 + ([.int .i64 6, .int .i64 x.fN, .int .i64 (x.fArgs.length : Int), .string ⟨#[]⟩, .string ⟨#[]⟩] : List Value).length)).toArray = #[.int .i64 6, .int .i64 x.fN, .int .i64 (x.fArgs.length : Int), .string ⟨#[]⟩, .string ⟨#[]⟩] from rfl)
  have hff := Lib.hid (show 0 + ([.int .i64 6, .int .i64 x.fN, .int .i64 (x.fArgs.length : Int), .string ⟨#[]⟩, .string ⟨#[]⟩] : List Value).length ≤ (#[.int .i64 0, .int .i64 0, .int .i64 0, .string ⟨#[]⟩, .string ⟨#[]⟩] : Array Value).size from (by decide : 0 + 5 ≤ 5))
  have hif := Lib.hid (show (Tryz.prog.info? 173).map (·.size) = some ([.int .i64 6, .int .i64 x.fN, .int .i64 (x.fArgs.length : Int), .string ⟨#[]⟩, .string ⟨#[]⟩] : List Value).length from infoI5)
  have hone : ∀ u ∈ ([.int .i64 6, .int .i64 x.fN, .int .i64 (x.fArgs.length : Int), .string ⟨#[]⟩, .string ⟨#[]⟩] : List Value), u.oneCell' = true := by intro u hu; simp only [List.mem_cons, List.not_mem_nil, or_false] at hu; rcases hu with rfl | rfl | rfl | rfl | rfl <;> rfl
  go_enter Tryz.func163, Tryz.ntmps163
  go_wp2_with (with_reducible refine stR rfl 173 _ _ rfl (w.heap.size + 1) 0 rfl [.int .i64 6, .int .i64 x.fN, .int .i64 (x.fArgs.length : Int), .string ⟨#[]⟩, .string ⟨#[]⟩] rfl hif.out hone #[.int .i64 0, .int .i64 0, .int .i64 0, .string ⟨#[]⟩, .string ⟨#[]⟩] #[.int .i64 6, .int .i64 x.fN, .int .i64 (x.fArgs.length : Int), .string ⟨#[]⟩, .string ⟨#[]⟩] 173 HR.out hff.out haf.out ?_)
  intro vf hpf
  have hVf := hpf.below hV (by omega)
  have cR := row_cells (cs := [.int .i64 6, .int .i64 x.fN, .int .i64 (x.fArgs.length : Int), .string ⟨#[]⟩, .string ⟨#[]⟩]) hpf.row
  go_wp2
  (try simp only [Exit.inBlock, Exit.then])
  exact bodyPost_ret (v := .agg #[.int .i64 6, .int .i64 x.fN, .int .i64 (x.fArgs.length : Int), .string ⟨#[]⟩, .string ⟨#[]⟩]) (run_res Tryz.results163 (w.heap.size + 1) rfl [.int .i64 6, .int .i64 x.fN, .int .i64 (x.fArgs.length : Int), .string ⟨#[]⟩, .string ⟨#[]⟩] cR _ Tryz.underlying173 hif.out) rfl ⟨rfl, hVf⟩
theorem iLet_two {R : Rec} {x : TCore} {a b : TCore} (s : CS) (h : x.fArgs = [a, b]) : iLet R x s = iDrop 1 (R b (((R a s).add (opOne 4)).put ((R a s).slots ++ [x.fName]))) := by
 unfold iLet
 rw [h]
theorem iLet_other {R : Rec} {x : TCore} (s : CS) (h : ¬ x.fArgs.length = 2) : iLet R x s = s.fail := by
 unfold iLet
 split
 ·rename_i a b he
  rw [he] at h
  exact absurd rfl h
 ·rfl
theorem iVar_some {n : ByteArray} {s : CS} {k : Nat} (h : slotOf s.slots n s.slots.length = some k) : iVar n s = s.add (instr 3 k 0 ⟨#[]⟩ ⟨#[]⟩) := by
 unfold iVar
 rw [h]
theorem iVar_none {n : ByteArray} {s : CS} (h : slotOf s.slots n s.slots.length = none) : iVar n s = s.fail := by
 unfold iVar
 rw [h]
set_option maxRecDepth 100000 in
set_option maxHeartbeats 4000000 in
theorem stepimplCore (N : Nat) (ih : CPimpl N) : CPimpl (N + 1) := by
 intro x hx
 unfold WK
 intro hz s hl hs w lo c fp vl vs hS K hK cs h
 have Hrep := Lib.hid h
 obtain ⟨c4, c5, c6, c7, c8, c9, c10, rfl, hKd, hTr, hNm, hNn, -, -, -, hAr, -⟩ := TCore.opn h
 clear h
 have hcz := core_sz x
 obtain ⟨a, cap, rfl, hcc, hm, -, hE⟩ := open_sl TCore.width hAr
 have HE := Lib.hid hE; clear hE
 unfold maxLen at hm
 have hB0 : Below w.heap.size w (w.alloc (.cells #[.int .i64 x.fKind, .string x.fTrait, .string x.fName, .int .i64 x.fN, c4, c5, c6, c7, c8, .slice a x.fArgs.length cap, c10] 136)) := (Below.refl _ _).alloc (Nat.le_refl _) _
 have hKw : ∀ b, K b → b < w.heap.size := fun b h => Nat.lt_of_lt_of_le (hK b h) hS.lo
 have HS0 := Lib.hid (hS.below hB0)
 have HF0 := Lib.hid (Fr.below0 hB0 fp)
 have hR0 : (w.alloc (.cells #[.int .i64 x.fKind, .string x.fTrait, .string x.fName, .int .i64 x.fN, c4, c5, c6, c7, c8, .slice a x.fArgs.length cap, c10] 136)).heap[w.heap.size]? = some (.cells #[.int .i64 x.fKind, .string x.fTrait, .string x.fName, .int .i64 x.fN, c4, c5, c6, c7, c8, .slice a x.fArgs.length cap, c10] 136 (0, 0)) := alloc_at rfl
 have HR0 := Lib.hid hR0
 have hC0 : Cells (w.alloc (.cells #[.int .i64 x.fKind, .string x.fTrait, .string x.fName, .int .i64 x.fN, c4, c5, c6, c7, c8, .slice a x.fArgs.length cap, c10] 136)) w.heap.size 0 [.int .i64 x.fKind, .string x.fTrait, .string x.fName, .int .i64 x.fN, c4, c5, c6, c7, c8, .slice a x.fArgs.length cap, c10] := row_cells hR0
 have hpn : w.heap.size ∉ fp := hS.notin (Nat.le_refl _)
 have hp : w.heap.size < (w.alloc (.cells #[.int .i64 x.fKind, .string x.fTrait, .string x.fName, .int .i64 x.fN, c4, c5, c6, c7, c8, .slice a x.fArgs.length cap, c10] 136)).heap.size := by simp
 have HA := Lib.hid (Rep.ext hB0 hKw hAr)
 replace Hrep := Lib.hid (Rep.ext hB0 hKw Hrep.out)
 have hi := infoCoL c4 c5 c6 c7 c8 (.slice a x.fArgs.length cap) c10 x
 have Hb0 := Lib.hid HS0.out.hb
 have Hl0 := Lib.hid HS0.out.lo
 have Hxa := Lib.hid (show ∀ y ∈ x.fArgs, SizeOf.sizeOf y < N from fun y hy => by have := List.sizeOf_lt_of_mem hy; have := TCore.lt_fArgs x; omega)
 have hza : szs TCore.sz x.fArgs ≤ 1048576 := by omega
 have Hba := Lib.hid (bd_args (bd_iC N) x.fArgs s)
 have hla : x.fArgs.length ≤ 1048576 := by unfold szs at hza; omega
 have gB := HS0.out.cell.2.2
 show Calls _ _ _ _ fun e w' => e = .returned (.tuple #[]) ∧ Done w w' 179 173 9 lo c fp (iCore (iC N) x s)
 clear hR0 hAr
 cases hbad : s.bad with
 | true =>
  rw [hbad] at gB
  have hq : iCore (iC N) x s = s := by unfold iCore; rw [if_pos hbad]
  rw [hq]
  clear hq hbad hC0
  go_enter Tryz.func99, Tryz.ntmps99
  go_wp2
  first | go_end0 | ((try simp only [Exit.inBlock, Exit.then]); refine bodyPost_ret (results_none rfl _ _ _) rfl ?_)
  exact ⟨rfl, fp, vl, vs, HS0.out, HF0.out⟩
 | false =>
  rw [hbad] at gB
  have hbn : ¬ s.bad = true := by simp [hbad]
  have HB := Lib.hid hbad; clear hbad
  by_cases k1 : x.fKind = 1
  ·have hq : iCore (iC N) x s = s.add (instr 1 x.fN 0 ⟨#[]⟩ ⟨#[]⟩) := by unfold iCore; rw [if_neg hbn, if_pos k1]
   rw [hq]
   clear hq hbn
   have b1 : (x.fKind == 1) = true := by simpa using k1
   have Hk1 := Lib.hid k1; clear k1
   have HG0 := Lib.hid (Fr.refl (w.alloc (.cells #[.int .i64 x.fKind, .string x.fTrait, .string x.fName, .int .i64 x.fN, c4, c5, c6, c7, c8, .slice a x.fArgs.length cap, c10] 136)) fp)
   go_enter Tryz.func99, Tryz.ntmps99
   go_wp2_with fail
   refine (implAdd_c (instr 1 x.fN 0 ⟨#[]⟩ ⟨#[]⟩) (inR_n 1 (by decide)) hNn (inR_n 0 (by decide)) sz0 sz0 s (by omega) _ lo c _ _ _ HS0.out).mono ?_
   rintro e w1 ⟨rfl, fp1, vl1, vs1, hS1, hF1⟩
   have HS1 := Lib.hid hS1; have HG1 := Lib.hid (HG0.out.trans hF1)
   clear hS1 hF1 HS0
   go_wp2
   first | go_end0 | ((try simp only [Exit.inBlock, Exit.then]); refine bodyPost_ret (results_none rfl _ _ _) rfl ?_)
   exact ⟨rfl, fp1, vl1, vs1, HS1.out, HF0.out.trans HG1.out⟩
  have b1 : (x.fKind == 1) = false := by simpa using k1
  by_cases k2 : x.fKind = 2
  ·have hq : iCore (iC N) x s = s.add (instr 2 (if x.fN = 1 then 1 else 0) 0 ⟨#[]⟩ ⟨#[]⟩) := by unfold iCore; rw [if_neg hbn, if_neg k1, if_pos k2]
   rw [hq]
   clear hq hbn
   have b2 : (x.fKind == 2) = true := by simpa using k2
   have Hk2 := Lib.hid k2; clear k2
   have HG0 := Lib.hid (Fr.refl (w.alloc (.cells #[.int .i64 x.fKind, .string x.fTrait, .string x.fName, .int .i64 x.fN, c4, c5, c6, c7, c8, .slice a x.fArgs.length cap, c10] 136)) fp)
   by_cases hn1 : x.fN = 1
   ·rw [if_pos hn1]
    have b0 : (x.fN == 1) = true := by simpa using hn1
    clear hn1
    go_enter Tryz.func99, Tryz.ntmps99
    go_wp2_with fail
    refine (implAdd_c (instr 2 1 0 ⟨#[]⟩ ⟨#[]⟩) (inR_n 2 (by decide)) (inR_n 1 (by decide)) (inR_n 0 (by decide)) sz0 sz0 s (by omega) _ lo c _ _ _ HS0.out).mono ?_
    rintro e w1 ⟨rfl, fp1, vl1, vs1, hS1, hF1⟩
    have HS1 := Lib.hid hS1; have HG1 := Lib.hid (HG0.out.trans hF1)
    clear hS1 hF1 HS0
    go_wp2
    first | go_end0 | ((try simp only [Exit.inBlock, Exit.then]); refine bodyPost_ret (results_none rfl _ _ _) rfl ?_)
    exact ⟨rfl, fp1, vl1, vs1, HS1.out, HF0.out.trans HG1.out⟩
   ·rw [if_neg hn1]
    have b0 : (x.fN == 1) = false := by simpa using hn1
    clear hn1
    go_enter Tryz.func99, Tryz.ntmps99
    go_wp2_with fail
    refine (implAdd_c (instr 2 0 0 ⟨#[]⟩ ⟨#[]⟩) (inR_n 2 (by decide)) (inR_n 0 (by decide)) (inR_n 0 (by decide)) sz0 sz0 s (by omega) _ lo c _ _ _ HS0.out).mono ?_
    rintro e w1 ⟨rfl, fp1, vl1, vs1, hS1, hF1⟩
    have HS1 := Lib.hid hS1; have HG1 := Lib.hid (HG0.out.trans hF1)
    clear hS1 hF1 HS0
    go_wp2
    first | go_end0 | ((try simp only [Exit.inBlock, Exit.then]); refine bodyPost_ret (results_none rfl _ _ _) rfl ?_)
    exact ⟨rfl, fp1, vl1, vs1, HS1.out, HF0.out.trans HG1.out⟩
  have b2 : (x.fKind == 2) = false := by simpa using k2
  by_cases k3 : x.fKind = 3
  ·have hq : iCore (iC N) x s = iVar x.fName s := by unfold iCore; rw [if_neg hbn, if_neg k1, if_neg k2, if_pos k3]
   rw [hq]
   clear hq hbn
   have b3 : (x.fKind == 3) = true := by simpa using k3
   have Hk3 := Lib.hid k3; clear k3
   obtain ⟨aS, cS, hvs⟩ : ∃ a cap, vs = .slice a s.slots.length cap := gl_slice HS0.out.gs
   subst hvs
   have gS0 := HS0.out.cell.2.1
   have HN := Lib.hid (show ∀ w', Below w.heap.size (w.alloc (.cells #[.int .i64 x.fKind, .string x.fTrait, .string x.fName, .int .i64 x.fN, c4, c5, c6, c7, c8, .slice a x.fArgs.length cap, c10] 136)) w' → True from fun _ _ => trivial)
   clear HN hC0
   go_enter Tryz.func99, Tryz.ntmps99
   go_wp2
   go_loopw [5] (fun i wr => ∃ m : Nat, m ≤ s.slots.length ∧ i = .int .i64 ((m : Int) - 1) ∧ Hid (slotOf s.slots x.fName s.slots.length = slotOf s.slots x.fName m) ∧ Hid (Below (w.alloc (.cells #[.int .i64 x.fKind, .string x.fTrait, .string x.fName, .int .i64 x.fN, c4, c5, c6, c7, c8, .slice a x.fArgs.length cap, c10] 136)).heap.size (w.alloc (.cells #[.int .i64 x.fKind, .string x.fTrait, .string x.fName, .int .i64 x.fN, c4, c5, c6, c7, c8, .slice a x.fArgs.length cap, c10] 136)) wr)) (fun i _ => (intOf i + 1).toNat)
   case atStart => exact ⟨s.slots.length, Nat.le_refl _, by go_num, Lib.hid rfl, Lib.hid (Below.refl _ _)⟩
   case round =>
    clear gS0 gB
    obtain ⟨m, hm', rfl, HQ, HW⟩ := hrel
    have HSr := Lib.hid (HS0.out.below HW.out)
    have HRr := Lib.hid (row_below HR0.out HW.out hp)
    have HFr := Lib.hid (HF0.out.trans (Fr.below0 HW.out fp))
    have hI0 : Below wr.heap.size wr wr.drew := (Below.refl _ _).drew
    cases m with
    | zero =>
     have HE2 := Lib.hid (iVar_none (HQ.out.trans rfl))
     have d0 : decide ((0 : Int) ≤ ((0 : Nat) : Int) - 1) = false := by decide
     go_wp2_with fail
     refine rg 14 (Below wr.heap.size wr) (by kernel_rfl) rfl ?_
     refine rg_seg (fuel := 0) [0, 1, 2, 3, 4, 5, 6, 7, 8, 9, 10, 11, 12, 13] hI0 (by kernel_rfl) rfl ?_
     simp only [pick, pD, pE]
     iterate 3 (refine sg_fix _ rfl (fun w' hI => by go_simp; rfl) ?_; simp only [Act.put, pA, pB, pC])
     iterate 10 (refine sg_skip rfl ?_; simp only [Act.put, pA, pB, pC])
     refine sg_fix _ rfl (fun w' hI => by go_simp; rfl) ?_
     simp only [Act.put, pA, pB, pC]
     refine sg_nil (rg_end (by kernel_rfl) ?_)
     have hS := HSr.out.below hI0
     have hfB := Lib.hid (show 2 < (#[vl, (.slice aS s.slots.length cS), .bool s.bad] : Array Value).size from (by simp))
     have haB := Lib.hid (show ((#[vl, (.slice aS s.slots.length cS), .bool s.bad] : Array Value).toList.take 2 ++ [Value.bool true] ++ (#[vl, (.slice aS s.slots.length cS), .bool s.bad] : Array Value).toList.drop (2 + [Value.bool true].length)).toArray = #[vl, (.slice aS s.slots.length cS), .bool true] from rfl)
     have hRB := Lib.hid hS.row
     clear hS
     have HI := Lib.hid hI0; clear hI0
     go_wp2_with (with_reducible refine stR1 rfl 4 _ _ rfl c 2 rfl (.bool true) rfl infoB1 rfl #[vl, (.slice aS s.slots.length cS), .bool s.bad] #[vl, (.slice aS s.slots.length cS), .bool true] 179 hRB.out hfB.out haB.out ?_)
     intro w2 hp2
     have hR := (HSr.out.below HI.out).fail hp2
     go_wp2
     first | go_end0 | ((try simp only [Exit.inBlock, Exit.then]); refine bodyPost_ret (results_none rfl _ _ _) rfl ?_)
     rw [HE2.out]
     exact ⟨rfl, fp, _, _, hR.1, HFr.out.trans ((Fr.below0 HI.out fp).trans hR.2)⟩
    | succ k =>
     have hk : k < s.slots.length := by omega
     have e0 : ((k + 1 : Nat) : Int) - 1 = (k : Int) := by omega
     have d0 : decide ((0 : Int) ≤ (k : Int)) = true := by simp
     obtain ⟨g, cap', hv, -⟩ := gs_at HSr.out.gs hk
     simp only [Value.slice.injEq, true_and] at hv
     obtain ⟨rfl, rfl⟩ := hv
     have HK := Lib.hid (show ∀ w', Below wr.heap.size wr w' → w'.cell? ⟨g, k, none⟩ = some (.string s.slots[k]) from fun w' h => by
      obtain ⟨g2, c2, hv2, h2⟩ := gs_at (HSr.out.below h).gs hk
      simp only [Value.slice.injEq, Option.some.injEq, Addr.mk.injEq, and_true, true_and] at hv2
      rw [hv2.1]
      exact h2)
     have gS : ∀ w', Below wr.heap.size wr w' → w'.cell? ⟨c, 1, none⟩ = some (.slice (some ⟨g, 0, none⟩) s.slots.length cS) := fun w' h => (HSr.out.below h).cell.2.1
     have gN : ∀ w', Below wr.heap.size wr w' → w'.cell? ⟨w.heap.size, 2, none⟩ = some (.string x.fName) := fun w' h => row_cell (row_below HRr.out h (row_lt HRr.out)) 2
     rw [e0]
     have hlk : s.slots[k]? = some s.slots[k] := List.getElem?_eq_getElem hk
     have hh1 := fun h => slotOf_hit (l := s.slots) (n := x.fName) (k := k) h
     have hh2 := fun h => slotOf_miss (l := s.slots) (n := x.fName) (k := k) h
     rw [hlk] at hh1 hh2
     have Hh1 := Lib.hid hh1; have Hh2 := Lib.hid hh2
     have gK := HK.out
     clear hh1 hh2 hlk e0 HK
     generalize s.slots[k] = y at *
     have hk1 : (k : Int) < (s.slots.length : Int) := by omega
     go_wp2_with fail
     refine rg 14 (Below wr.heap.size wr) (by kernel_rfl) rfl ?_
     refine rg_seg (fuel := 0) [0, 1, 2, 3, 4, 5, 6, 7, 8, 9, 10, 11, 12, 13] hI0 (by kernel_rfl) rfl ?_
     simp only [pick, pD, pE]
     iterate 12 (refine sg_fix _ rfl (fun w' hI => by have := gS w' hI; have := gN w' hI; have := gK w' hI; go_simp; rfl) ?_; simp only [Act.put, pA, pB, pC])
     by_cases hy : y = x.fName
     ·have HE2 := Lib.hid (iVar_some (HQ.out.trans (Hh1.out (by rw [hy]))))
      have bt : (y.toList == x.fName.toList) = true := by simp [hy]
      have HY := Lib.hid hy
      clear Hh1 Hh2 hy
      iterate 2 (refine sg_fix _ rfl (fun w' hI => by go_simp; rfl) ?_; simp only [Act.put, pA, pB, pC])
      refine sg_nil (rg_end (by kernel_rfl) ?_)
      have HS0' := Lib.hid (HSr.out.below hI0)
      have HF1 := Lib.hid (HFr.out.trans (Fr.below0 hI0 fp))
      clear gS gN gK hI0 HS0
      go_wp2_with fail
      refine (implAdd_c (instr 3 (k : Int) 0 ⟨#[]⟩ ⟨#[]⟩) (inR_n 3 (by decide)) (inR_n _ (by omega)) (inR_n 0 (by decide)) sz0 sz0 s (by omega) _ lo c _ _ _ HS0'.out).mono ?_
      rintro e w1 ⟨rfl, fp1, vl1, vs1, hS1, hF1⟩
      have HS1 := Lib.hid hS1; have HG1 := Lib.hid (HF1.out.trans hF1)
      clear hS1 hF1 HS0'
      go_wp2
      first | go_end0 | ((try simp only [Exit.inBlock, Exit.then]); refine bodyPost_ret (results_none rfl _ _ _) rfl ?_)
      rw [HE2.out]
      exact ⟨rfl, fp1, vl1, vs1, HS1.out, HG1.out⟩
     ·have HE2 := Lib.hid (HQ.out.trans (Hh2.out (by simpa using hy)))
      have bt : (y.toList == x.fName.toList) = false := by simpa using fun q => hy (ba_ext q)
      have HY := Lib.hid hy
      clear Hh1 Hh2 hy
      iterate 2 (refine sg_fix _ rfl (fun w' hI => by go_simp; rfl) ?_; simp only [Act.put, pA, pB, pC])
      refine sg_nil (rg_end (by kernel_rfl) ?_)
      have HW2 := Lib.hid (HW.out.trans (hI0.mono HW.out.size))
      clear gS gN gK hI0
      go_wp2
      go_roundw
      case rel => exact ⟨k, by omega, by go_num, HE2, HW2⟩
      case measure => simp [intOf] <;> omega
  have b3 : (x.fKind == 3) = false := by simpa using k3
  by_cases ko : isOp x.fKind
  ·have hq : iCore (iC N) x s = (cArgs (iC N) x.fArgs s).add (opOf x) := by unfold iCore; rw [if_neg hbn, if_neg k1, if_neg k2, if_neg k3, if_pos ko]
   rw [hq]
   clear hq hbn
   have ho := opOf_in hNn hla hTr hNm
   have hko : x.fKind = 4 ∨ x.fKind = 5 ∨ x.fKind = 6 ∨ x.fKind = 10 ∨ x.fKind = 11 := ko
   have HO := Lib.hid ho; clear ho ko
   rcases hko with hk | hk | hk | hk | hk
   ·have b4 : (x.fKind == 4) = true := by simpa using hk
    have Hk := Lib.hid hk; clear hk
    clear hC0
    go_enter Tryz.func99, Tryz.ntmps99
    go_wp2_with fail
    refine (implArgs_c N ih x.fArgs Hxa.out hza s (by omega) (by omega) _ lo c _ _ _ HS0.out K hK _ HA.out).mono ?_
    rintro e w1 ⟨rfl, fp1, vl1, vs1, hS1, hF1⟩
    have hba := Hba.out
    obtain ⟨s1, Hs1⟩ : ∃ t_, t_ = cArgs (iC N) x.fArgs s := ⟨_, rfl⟩
    rw [← Hs1] at hS1 hba
    replace Hs1 := Lib.hid Hs1
    have HS1 := Lib.hid hS1; have HG1 := Lib.hid hF1
    have hBB := hF1.below Hb0.out Hl0.out
    have HC1 := Lib.hid (Rep.ext hBB hK Hrep.out)
    have hR1 := hF1.row HR0.out hpn
    have hC0 : Cells w1 w.heap.size 0 [.int .i64 x.fKind, .string x.fTrait, .string x.fName, .int .i64 x.fN, c4, c5, c6, c7, c8, .slice a x.fArgs.length cap, c10] := row_cells hR1
    clear hS1 hF1 Hba hBB hR1
    go_wp2_with (with_reducible refine ld rfl 136 _ rfl w.heap.size 0 rfl [.int .i64 x.fKind, .string x.fTrait, .string x.fName, .int .i64 x.fN, c4, c5, c6, c7, c8, .slice a x.fArgs.length cap, c10] hC0 _ Tryz.underlying136 hi ?_)
    refine (implOperation_c x _ K _ HC1.out).mono ?_
    rintro e w2 ⟨rfl, hB2⟩
    have HS2 := Lib.hid (HS1.out.below hB2); have HG2 := Lib.hid (HG1.out.trans (Fr.below0 hB2 fp1))
    clear hB2 HS1 hC0
    go_wp2_with fail
    obtain ⟨o1, o2, o3, o4, o5⟩ := HO.out
    refine (implAdd_c (opOf x) o1 o2 o3 o4 o5 s1 (by omega) _ lo c _ _ _ HS2.out).mono ?_
    rintro e w3 ⟨rfl, fp3, vl3, vs3, hS1, hF1⟩
    have HS3 := Lib.hid hS1; have HG3 := Lib.hid (HG2.out.trans hF1)
    clear hS1 hF1 HS2 o1 o2 o3 o4 o5
    go_wp2
    first | go_end0 | ((try simp only [Exit.inBlock, Exit.then]); refine bodyPost_ret (results_none rfl _ _ _) rfl ?_)
    rw [← Hs1.out]
    exact ⟨rfl, fp3, vl3, vs3, HS3.out, HF0.out.trans HG3.out⟩
   ·have b5 : (x.fKind == 5) = true := by simpa using hk
    have b4 : (x.fKind == 4) = false := by simp [hk]
    have Hk := Lib.hid hk; clear hk
    clear hC0
    go_enter Tryz.func99, Tryz.ntmps99
    go_wp2_with fail
    refine (implArgs_c N ih x.fArgs Hxa.out hza s (by omega) (by omega) _ lo c _ _ _ HS0.out K hK _ HA.out).mono ?_
    rintro e w1 ⟨rfl, fp1, vl1, vs1, hS1, hF1⟩
    have hba := Hba.out
    obtain ⟨s1, Hs1⟩ : ∃ t_, t_ = cArgs (iC N) x.fArgs s := ⟨_, rfl⟩
    rw [← Hs1] at hS1 hba
    replace Hs1 := Lib.hid Hs1
    have HS1 := Lib.hid hS1; have HG1 := Lib.hid hF1
    have hBB := hF1.below Hb0.out Hl0.out
    have HC1 := Lib.hid (Rep.ext hBB hK Hrep.out)
    have hR1 := hF1.row HR0.out hpn
    have hC0 : Cells w1 w.heap.size 0 [.int .i64 x.fKind, .string x.fTrait, .string x.fName, .int .i64 x.fN, c4, c5, c6, c7, c8, .slice a x.fArgs.length cap, c10] := row_cells hR1
    clear hS1 hF1 Hba hBB hR1
    go_wp2_with (with_reducible refine ld rfl 136 _ rfl w.heap.size 0 rfl [.int .i64 x.fKind, .string x.fTrait, .string x.fName, .int .i64 x.fN, c4, c5, c6, c7, c8, .slice a x.fArgs.length cap, c10] hC0 _ Tryz.underlying136 hi ?_)
    refine (implOperation_c x _ K _ HC1.out).mono ?_
    rintro e w2 ⟨rfl, hB2⟩
    have HS2 := Lib.hid (HS1.out.below hB2); have HG2 := Lib.hid (HG1.out.trans (Fr.below0 hB2 fp1))
    clear hB2 HS1 hC0
    go_wp2_with fail
    obtain ⟨o1, o2, o3, o4, o5⟩ := HO.out
    refine (implAdd_c (opOf x) o1 o2 o3 o4 o5 s1 (by omega) _ lo c _ _ _ HS2.out).mono ?_
    rintro e w3 ⟨rfl, fp3, vl3, vs3, hS1, hF1⟩
    have HS3 := Lib.hid hS1; have HG3 := Lib.hid (HG2.out.trans hF1)
    clear hS1 hF1 HS2 o1 o2 o3 o4 o5
    go_wp2
    first | go_end0 | ((try simp only [Exit.inBlock, Exit.then]); refine bodyPost_ret (results_none rfl _ _ _) rfl ?_)
    rw [← Hs1.out]
    exact ⟨rfl, fp3, vl3, vs3, HS3.out, HF0.out.trans HG3.out⟩
   ·have b6 : (x.fKind == 6) = true := by simpa using hk
    have b4 : (x.fKind == 4) = false := by simp [hk]
    have b5 : (x.fKind == 5) = false := by simp [hk]
    have Hk := Lib.hid hk; clear hk
    clear hC0
    go_enter Tryz.func99, Tryz.ntmps99
    go_wp2_with fail
    refine (implArgs_c N ih x.fArgs Hxa.out hza s (by omega) (by omega) _ lo c _ _ _ HS0.out K hK _ HA.out).mono ?_
    rintro e w1 ⟨rfl, fp1, vl1, vs1, hS1, hF1⟩
    have hba := Hba.out
    obtain ⟨s1, Hs1⟩ : ∃ t_, t_ = cArgs (iC N) x.fArgs s := ⟨_, rfl⟩
    rw [← Hs1] at hS1 hba
    replace Hs1 := Lib.hid Hs1
    have HS1 := Lib.hid hS1; have HG1 := Lib.hid hF1
    have hBB := hF1.below Hb0.out Hl0.out
    have HC1 := Lib.hid (Rep.ext hBB hK Hrep.out)
    have hR1 := hF1.row HR0.out hpn
    have hC0 : Cells w1 w.heap.size 0 [.int .i64 x.fKind, .string x.fTrait, .string x.fName, .int .i64 x.fN, c4, c5, c6, c7, c8, .slice a x.fArgs.length cap, c10] := row_cells hR1
    clear hS1 hF1 Hba hBB hR1
    go_wp2_with (with_reducible refine ld rfl 136 _ rfl w.heap.size 0 rfl [.int .i64 x.fKind, .string x.fTrait, .string x.fName, .int .i64 x.fN, c4, c5, c6, c7, c8, .slice a x.fArgs.length cap, c10] hC0 _ Tryz.underlying136 hi ?_)
    refine (implOperation_c x _ K _ HC1.out).mono ?_
    rintro e w2 ⟨rfl, hB2⟩
    have HS2 := Lib.hid (HS1.out.below hB2); have HG2 := Lib.hid (HG1.out.trans (Fr.below0 hB2 fp1))
    clear hB2 HS1 hC0
    go_wp2_with fail
    obtain ⟨o1, o2, o3, o4, o5⟩ := HO.out
    refine (implAdd_c (opOf x) o1 o2 o3 o4 o5 s1 (by omega) _ lo c _ _ _ HS2.out).mono ?_
    rintro e w3 ⟨rfl, fp3, vl3, vs3, hS1, hF1⟩
    have HS3 := Lib.hid hS1; have HG3 := Lib.hid (HG2.out.trans hF1)
    clear hS1 hF1 HS2 o1 o2 o3 o4 o5
    go_wp2
    first | go_end0 | ((try simp only [Exit.inBlock, Exit.then]); refine bodyPost_ret (results_none rfl _ _ _) rfl ?_)
    rw [← Hs1.out]
    exact ⟨rfl, fp3, vl3, vs3, HS3.out, HF0.out.trans HG3.out⟩
   ·have b10 : (x.fKind == 10) = true := by simpa using hk
    have b4 : (x.fKind == 4) = false := by simp [hk]
    have b5 : (x.fKind == 5) = false := by simp [hk]
    have b6 : (x.fKind == 6) = false := by simp [hk]
    have Hk := Lib.hid hk; clear hk
    clear hC0
    go_enter Tryz.func99, Tryz.ntmps99
    go_wp2_with fail
    refine (implArgs_c N ih x.fArgs Hxa.out hza s (by omega) (by omega) _ lo c _ _ _ HS0.out K hK _ HA.out).mono ?_
    rintro e w1 ⟨rfl, fp1, vl1, vs1, hS1, hF1⟩
    have hba := Hba.out
    obtain ⟨s1, Hs1⟩ : ∃ t_, t_ = cArgs (iC N) x.fArgs s := ⟨_, rfl⟩
    rw [← Hs1] at hS1 hba
    replace Hs1 := Lib.hid Hs1
    have HS1 := Lib.hid hS1; have HG1 := Lib.hid hF1
    have hBB := hF1.below Hb0.out Hl0.out
    have HC1 := Lib.hid (Rep.ext hBB hK Hrep.out)
    have hR1 := hF1.row HR0.out hpn
    have hC0 : Cells w1 w.heap.size 0 [.int .i64 x.fKind, .string x.fTrait, .string x.fName, .int .i64 x.fN, c4, c5, c6, c7, c8, .slice a x.fArgs.length cap, c10] := row_cells hR1
    clear hS1 hF1 Hba hBB hR1
    go_wp2_with (with_reducible refine ld rfl 136 _ rfl w.heap.size 0 rfl [.int .i64 x.fKind, .string x.fTrait, .string x.fName, .int .i64 x.fN, c4, c5, c6, c7, c8, .slice a x.fArgs.length cap, c10] hC0 _ Tryz.underlying136 hi ?_)
    refine (implOperation_c x _ K _ HC1.out).mono ?_
    rintro e w2 ⟨rfl, hB2⟩
    have HS2 := Lib.hid (HS1.out.below hB2); have HG2 := Lib.hid (HG1.out.trans (Fr.below0 hB2 fp1))
    clear hB2 HS1 hC0
    go_wp2_with fail
    obtain ⟨o1, o2, o3, o4, o5⟩ := HO.out
    refine (implAdd_c (opOf x) o1 o2 o3 o4 o5 s1 (by omega) _ lo c _ _ _ HS2.out).mono ?_
    rintro e w3 ⟨rfl, fp3, vl3, vs3, hS1, hF1⟩
    have HS3 := Lib.hid hS1; have HG3 := Lib.hid (HG2.out.trans hF1)
    clear hS1 hF1 HS2 o1 o2 o3 o4 o5
    go_wp2
    first | go_end0 | ((try simp only [Exit.inBlock, Exit.then]); refine bodyPost_ret (results_none rfl _ _ _) rfl ?_)
    rw [← Hs1.out]
    exact ⟨rfl, fp3, vl3, vs3, HS3.out, HF0.out.trans HG3.out⟩
   ·have b11 : (x.fKind == 11) = true := by simpa using hk
    have b4 : (x.fKind == 4) = false := by simp [hk]
    have b5 : (x.fKind == 5) = false := by simp [hk]
    have b6 : (x.fKind == 6) = false := by simp [hk]
    have b10 : (x.fKind == 10) = false := by simp [hk]
    have Hk := Lib.hid hk; clear hk
    clear hC0
    go_enter Tryz.func99, Tryz.ntmps99
    go_wp2_with fail
    refine (implArgs_c N ih x.fArgs Hxa.out hza s (by omega) (by omega) _ lo c _ _ _ HS0.out K hK _ HA.out).mono ?_
    rintro e w1 ⟨rfl, fp1, vl1, vs1, hS1, hF1⟩
    have hba := Hba.out
    obtain ⟨s1, Hs1⟩ : ∃ t_, t_ = cArgs (iC N) x.fArgs s := ⟨_, rfl⟩
    rw [← Hs1] at hS1 hba
    replace Hs1 := Lib.hid Hs1
    have HS1 := Lib.hid hS1; have HG1 := Lib.hid hF1
    have hBB := hF1.below Hb0.out Hl0.out
    have HC1 := Lib.hid (Rep.ext hBB hK Hrep.out)
    have hR1 := hF1.row HR0.out hpn
    have hC0 : Cells w1 w.heap.size 0 [.int .i64 x.fKind, .string x.fTrait, .string x.fName, .int .i64 x.fN, c4, c5, c6, c7, c8, .slice a x.fArgs.length cap, c10] := row_cells hR1
    clear hS1 hF1 Hba hBB hR1
    go_wp2_with (with_reducible refine ld rfl 136 _ rfl w.heap.size 0 rfl [.int .i64 x.fKind, .string x.fTrait, .string x.fName, .int .i64 x.fN, c4, c5, c6, c7, c8, .slice a x.fArgs.length cap, c10] hC0 _ Tryz.underlying136 hi ?_)
    refine (implOperation_c x _ K _ HC1.out).mono ?_
    rintro e w2 ⟨rfl, hB2⟩
    have HS2 := Lib.hid (HS1.out.below hB2); have HG2 := Lib.hid (HG1.out.trans (Fr.below0 hB2 fp1))
    clear hB2 HS1 hC0
    go_wp2_with fail
    obtain ⟨o1, o2, o3, o4, o5⟩ := HO.out
    refine (implAdd_c (opOf x) o1 o2 o3 o4 o5 s1 (by omega) _ lo c _ _ _ HS2.out).mono ?_
    rintro e w3 ⟨rfl, fp3, vl3, vs3, hS1, hF1⟩
    have HS3 := Lib.hid hS1; have HG3 := Lib.hid (HG2.out.trans hF1)
    clear hS1 hF1 HS2 o1 o2 o3 o4 o5
    go_wp2
    first | go_end0 | ((try simp only [Exit.inBlock, Exit.then]); refine bodyPost_ret (results_none rfl _ _ _) rfl ?_)
    rw [← Hs1.out]
    exact ⟨rfl, fp3, vl3, vs3, HS3.out, HF0.out.trans HG3.out⟩
  have b4 : (x.fKind == 4) = false := by have := ko; unfold isOp at this; simp; omega
  have b5 : (x.fKind == 5) = false := by have := ko; unfold isOp at this; simp; omega
  have b6 : (x.fKind == 6) = false := by have := ko; unfold isOp at this; simp; omega
  have b10 : (x.fKind == 10) = false := by have := ko; unfold isOp at this; simp; omega
  have b11 : (x.fKind == 11) = false := by have := ko; unfold isOp at this; simp; omega
  by_cases k8 : x.fKind = 8
  ·have hq : iCore (iC N) x s = iLet (iC N) x s := by unfold iCore; rw [if_neg hbn, if_neg k1, if_neg k2, if_neg k3, if_neg ko, if_pos k8]
   rw [hq]
   clear hq hbn
   have b8 : (x.fKind == 8) = true := by simpa using k8
   have Hk8 := Lib.hid k8; clear k8
   have hxs := TCore.lt_fArgs x
   clear Hrep HA Hxa hza Hba hla hC0 hi
   have hE := HE.out; clear HE
   by_cases h3 : x.fArgs.length = 2
   ·have hQ := fun t y => @iLet_two (iC N) x t y s
    rw [h3] at HS0 HF0 HR0 Hb0 Hl0 gB hB0 hp
    rw [h3]
    generalize x.fArgs = L at *
    obtain ⟨ea, eb, rfl⟩ := len2' h3
    have HQ := Lib.hid (hQ ea eb rfl)
    clear hQ h3
    obtain ⟨b, off, rfl, hKb, csa, hca, hra⟩ := hE 0 (by simp)
    obtain ⟨b', off', hq', -, csb, hcb, hrb⟩ := hE 1 (by simp)
    simp only [Option.some.injEq, Addr.mk.injEq, and_true] at hq'
    obtain ⟨rfl, rfl⟩ := hq'
    clear hE
    simp only [List.getElem_cons_zero] at hra
    have hia : (Tryz.prog.info? 136).map (·.size) = some csa.length := by rw [(Rep.length _ _ hra).trans (TCore.width _)]; exact infoCo
    have hma : SizeOf.sizeOf ea < N := by have := List.sizeOf_lt_of_mem (show ea ∈ [ea, eb] by simp); omega
    simp only [List.getElem_cons_zero, List.getElem_cons_succ] at hrb
    have hib : (Tryz.prog.info? 136).map (·.size) = some csb.length := by rw [(Rep.length _ _ hrb).trans (TCore.width _)]; exact infoCo
    have hmb : SizeOf.sizeOf eb < N := by have := List.sizeOf_lt_of_mem (show eb ∈ [ea, eb] by simp); omega
    simp only [szs, szL, List.length_cons, List.length_nil] at hcz
    have hca : Cells w b (off) csa := by simpa using hca
    replace hra := Lib.hid (Rep.ext hB0 hKw hra)
    replace hca := Lib.hid (hca.ext hB0 (hKw b hKb))
    have hcb : Cells w b (off + 11) csb := by simpa using hcb
    replace hrb := Lib.hid (Rep.ext hB0 hKw hrb)
    replace hcb := Lib.hid (hcb.ext hB0 (hKw b hKb))
    go_enter Tryz.func99, Tryz.ntmps99
    have hr := hra.out
    have hc := hca.out
    go_wp2_with (with_reducible refine ld rfl 136 _ rfl b _ rfl csa hc _ Tryz.underlying136 hia ?_)
    have HF := Lib.hid HF0.out
    clear hS hB0
    generalize (w.alloc (.cells #[.int .i64 x.fKind, .string x.fTrait, .string x.fName, .int .i64 x.fN, c4, c5, c6, c7, c8, .slice (some ⟨b, off, none⟩) 2 cap, c10] 136)) = w0 at *
    generalize w.heap.size = p at *
    replace HF0 := Lib.hid (Fr.refl w0 fp)
    clear hc gB
    refine (ih ea hma (by omega) s (by omega) (by omega) _ lo c _ _ _ HS0.out K hK _ hr).mono ?_
    rintro e w1 ⟨rfl, fp1, vl1, vs1, hS1, hF1⟩
    have hbd := bd_iC N ea s
    obtain ⟨s1, Hs1⟩ : ∃ t_, t_ = iC N ea s := ⟨_, rfl⟩
    rw [← Hs1] at hS1 hbd
    replace Hs1 := Lib.hid Hs1
    have HS1 := Lib.hid hS1; have HF1 := Lib.hid (HF0.out.trans hF1)
    clear hS1 hF1 hr HS0
    have hbd1 := hbd; clear hbd
    go_wp2_with fail
    refine (implAdd_c (opOne 4) (inR_n 4 (by decide)) (inR_n 0 (by decide)) (inR_n 0 (by decide)) (by decide) (by decide) s1 (by omega) _ lo c _ _ _ HS1.out).mono ?_
    rintro e w2 ⟨rfl, fp2, vl2, vs2, hS1, hF1⟩
    have HS2 := Lib.hid hS1; have HF2 := Lib.hid (HF1.out.trans hF1)
    clear hS1 hF1 HS1
    obtain ⟨aS, cS, hvs⟩ : ∃ a cap, vs2 = .slice a s1.slots.length cap := gl_slice HS2.out.gs
    subst hvs
    go_wp2_with fail
    have hS := HS2.out
    have hI0 : Below w2.heap.size w2 w2.drew := (Below.refl _ _).drew
    have hRp := HF2.out.row HR0.out hpn
    have gS : ∀ w', Below w2.heap.size w2 w' → w'.cell? ⟨c, 1, none⟩ = some (.slice aS s1.slots.length cS) := fun w' h => (hS.below h).cell.2.1
    have gN : ∀ w', Below w2.heap.size w2 w' → w'.cell? ⟨p, 2, none⟩ = some (.string x.fName) := fun w' h => row_cell (row_below hRp h (row_lt hRp)) 2
    have hsl : s1.slots.length ≤ 1073741824 := by omega
    have hON : Own w2 (encS x.fName) [.string x.fName] [] := Rep.own_flat (K := fun _ => True) _ _ (flatS _) (repS hNm)
    refine rj 12 8 (Below w2.heap.size w2) (by kernel_rfl) rfl ?_
    refine rj_free (fuel := 7) [0, 1, 2, 3, 5] hI0 (by kernel_rfl) rfl ?_
    simp only [pick, pD, pE]
    refine sg_fix _ rfl (fun w' hI => by go_simp; rfl) ?_
    simp only [Act.put, pA, pB, pC]
    refine sg_fix _ rfl (fun w' hI => by go_simp; rfl) ?_
    simp only [Act.put, pA, pB, pC]
    refine sg_fix _ rfl (fun w' hI => by go_simp; rfl) ?_
    simp only [Act.put, pA, pB, pC]
    refine sg_fix _ rfl (fun w' hI => by go_simp; rfl) ?_
    simp only [Act.put, pA, pB, pC]
    refine sg_fix _ rfl (fun w' hI => by go_simp; rfl) ?_
    simp only [Act.put, pA, pB, pC]
    refine sg_nil ?_
    refine rj_seg (fuel := 5) [4, 6] hI0 (by kernel_rfl) rfl ?_
    simp only [pick, pD, pE]
    refine sg_fix _ rfl (fun w' hI => by have := gS w' hI; have := gN w' hI; go_simp; rfl) ?_
    simp only [Act.put, pA, pB, pC]
    refine sg_fix _ rfl (fun w' hI => by have := gS w' hI; have := gN w' hI; go_simp; rfl) ?_
    simp only [Act.put, pA, pB, pC]
    refine sg_nil ?_
    refine rj_one (fuel := 4) 7 (by kernel_rfl) rfl (fun K0 hK0 => ?_)
    simp only [pick, pD, pE]
    refine oj_bs1 rfl 48 (.tmp 102) rfl Tryz.underlying48 zinfoN (by decide) (by decide) _ rfl [.string x.fName] rfl rfl ?_
    intro wa hBwa hCwa
    have hIwa := hI0.trans (hBwa.mono hI0.size)
    refine hK0 _ _ (fun _ => hIwa) ?_
    simp only [Act.put, pA, pB, pC]
    have hSa := hS.below hIwa
    refine rj_one (fuel := 3) 8 (by kernel_rfl) rfl (fun K1 hK1 => ?_)
    simp only [pick, pD, pE]
    refine oj_ap (v := .slice aS s1.slots.length cS) rfl (.tmp 100) (.tmp 103) 48 rfl _ 16 Tryz.underlying48 zinfoN zsizeN (by decide) rfl hSa.gs w2.drew.heap.size rfl (encS_w _) hCwa (Own.keep _ _ _ hON (by simp)) (by unfold maxLen; simp [CS.add_slots]; omega) (by simp [CS.add_slots]; omega) hSa.lo ?_
    intro vwb wb hGwb hkwb howb
    refine hK1 _ _ (jw_done (by kernel_rfl)) ?_
    simp only [Act.put, pA, pB, pC]
    refine rj_free' (fuel := 1) [9, 10] (by kernel_rfl) rfl ?_
    simp only [pick, pD, pE]
    refine sg_fix _ rfl (fun w' hI => by go_simp; rfl) ?_
    simp only [Act.put, pA, pB, pC]
    refine sg_fix _ rfl (fun w' hI => by go_simp; rfl) ?_
    simp only [Act.put, pA, pB, pC]
    refine sg_nil ?_
    refine rj_one (fuel := 0) 11 (by kernel_rfl) rfl (fun K3 hK3 => ?_)
    simp only [pick, pD, pE]
    have hR3 : wb.heap[c]? = some (.cells #[vl2, .slice aS s1.slots.length cS, .bool (s1.add (opOne 4)).bad] 179 (0, 0)) := (hkwb.other c hSa.lt (fun q => (hSa.hs c (by simpa using q)).2.1 rfl)).trans hSa.row
    refine oj_st rfl 48 (.tmp 106) (.tmp 104) rfl c 1 rfl vwb rfl infoLS hGwb.one _ _ hR3 (by simp) ?_
    intro w3 hp1
    refine hK3 _ _ (jw_done (by kernel_rfl)) (rj_end (by kernel_rfl) ?_)
    simp only [Act.put]
    obtain ⟨fp3, hS1, hF1⟩ := hSa.setS (l' := s1.slots ++ [x.fName]) hkwb (by simpa [CS.add_slots] using hGwb) (howb.imp id (fun q g hg => by rw [q] at hg; simp only [Option.some.injEq] at hg; omega)) hp1
    obtain ⟨vl3, vs3, hS1⟩ : ∃ a b, Ste w3 179 173 9 lo c fp3 ((s1.add (opOne 4)).put (s1.slots ++ [x.fName])) a b := ⟨_, _, hS1⟩
    have HS3 := Lib.hid hS1; have HF3 := Lib.hid (HF2.out.trans ((Fr.below0 hIwa _).trans hF1))
    clear hS1 hF1 hp1 hIwa hBwa hCwa hGwb hkwb howb hR3 hSa hS hI0 gS gN hRp hsl hON
    have g9 : w3.cell? ⟨p, 9, none⟩ = some (.slice (some ⟨b, off, none⟩) 2 cap) := row_cell (HF3.out.row HR0.out hpn) 9
    have hB := HF3.out.below Hb0.out Hl0.out
    have hr := Rep.ext hB hK hrb.out
    have hc := hcb.out.ext hB (hK b hKb)
    clear hB
    go_wp2_with (with_reducible refine ld rfl 136 _ rfl b _ rfl csb hc _ Tryz.underlying136 hib ?_)
    clear g9 hc
    refine (ih eb hmb (by omega) ((s1.add (opOne 4)).put (s1.slots ++ [x.fName])) (by simp only [CS.add_len, CS.put_list]; omega) (by simp only [CS.put_slots, List.length_append, List.length_singleton]; omega) _ lo c _ _ _ HS3.out K hK _ hr).mono ?_
    rintro e w4 ⟨rfl, fp4, vl4, vs4, hS1, hF1⟩
    have hbd := bd_iC N eb ((s1.add (opOne 4)).put (s1.slots ++ [x.fName]))
    obtain ⟨s4, Hs4⟩ : ∃ t_, t_ = iC N eb ((s1.add (opOne 4)).put (s1.slots ++ [x.fName])) := ⟨_, rfl⟩
    rw [← Hs4] at hS1 hbd
    simp only [CS.add_len, CS.put_list] at hbd
    simp only [CS.put_slots, List.length_append, List.length_singleton] at hbd
    replace Hs4 := Lib.hid Hs4
    have HS4 := Lib.hid hS1; have HF4 := Lib.hid (HF3.out.trans hF1)
    clear hS1 hF1 hr HS3
    have hbd4 := hbd; clear hbd
    go_wp2_with fail
    refine (implDrop_c (1) s4 (by omega) (by omega) (by omega) _ lo c _ _ _ HS4.out).mono ?_
    rintro e w5 ⟨rfl, fp5, vl5, vs5, hS1, hF1⟩
    have HS5 := Lib.hid hS1; have HF5 := Lib.hid (HF4.out.trans hF1)
    clear hS1 hF1 HS4
    go_wp2
    first | go_end0 | ((try simp only [Exit.inBlock, Exit.then]); refine bodyPost_ret (results_none rfl _ _ _) rfl ?_)
    have hD := HQ.out
    rw [← Hs1.out, ← Hs4.out] at hD
    rw [hD]
    exact ⟨rfl, _, _, _, HS5.out, HF.out.trans HF5.out⟩
   ·rw [iLet_other s h3]
    have hne : ((x.fArgs.length : Int) != 2) = true := by simp; omega
    have hfB := Lib.hid (show 2 < (#[vl, vs, .bool s.bad] : Array Value).size from (by simp))
    have haB := Lib.hid (show ((#[vl, vs, .bool s.bad] : Array Value).toList.take 2 ++ [Value.bool true] ++ (#[vl, vs, .bool s.bad] : Array Value).toList.drop (2 + [Value.bool true].length)).toArray = #[vl, vs, .bool true] from rfl)
    have hRB := Lib.hid HS0.out.row
    go_enter Tryz.func99, Tryz.ntmps99
    go_wp2_with (with_reducible refine stR1 rfl 4 _ _ rfl c 2 rfl (.bool true) rfl infoB1 rfl #[vl, vs, .bool s.bad] #[vl, vs, .bool true] 179 hRB.out hfB.out haB.out ?_)
    intro w2 hp2
    have hR := HS0.out.fail hp2
    go_wp2
    first | go_end0 | ((try simp only [Exit.inBlock, Exit.then]); refine bodyPost_ret (results_none rfl _ _ _) rfl ?_)
    exact ⟨rfl, fp, _, _, hR.1, HF0.out.trans hR.2⟩
  have b8 : (x.fKind == 8) = false := by simpa using k8
  by_cases k9 : x.fKind = 9
  ·have hq : iCore (iC N) x s = sIf (iC N) x s := by unfold iCore; rw [if_neg hbn, if_neg k1, if_neg k2, if_neg k3, if_neg ko, if_neg k8, if_pos k9]
   rw [hq]
   clear hq hbn
   have b9 : (x.fKind == 9) = true := by simpa using k9
   have Hk9 := Lib.hid k9; clear k9
   go_enter Tryz.func99, Tryz.ntmps99
   go_wp2_with (with_reducible refine ld rfl 136 _ rfl w.heap.size 0 rfl [.int .i64 x.fKind, .string x.fTrait, .string x.fName, .int .i64 x.fN, c4, c5, c6, c7, c8, .slice a x.fArgs.length cap, c10] hC0 _ Tryz.underlying136 hi ?_)
   refine (implIf_c N ih x hx hz s hl hs _ lo c _ _ _ HS0.out K hK _ Hrep.out).mono ?_
   rintro e w1 ⟨rfl, hD⟩
   go_wp2
   first | go_end0 | ((try simp only [Exit.inBlock, Exit.then]); refine bodyPost_ret (results_none rfl _ _ _) rfl ?_)
   obtain ⟨fp1, vl1, vs1, hS1, hF1⟩ := hD
   exact ⟨rfl, fp1, vl1, vs1, hS1, HF0.out.trans hF1⟩
  have b9 : (x.fKind == 9) = false := by simpa using k9
  by_cases k7 : x.fKind = 7
  ·have hq : iCore (iC N) x s = iCase (iC N) x (cArgs (iC N) x.fArgs s) := by unfold iCore; rw [if_neg hbn, if_neg k1, if_neg k2, if_neg k3, if_neg ko, if_neg k8, if_neg k9, if_pos k7]
   rw [hq]
   clear hq hbn
   have b7 : (x.fKind == 7) = true := by simpa using k7
   have Hk7 := Lib.hid k7; clear k7
   go_enter Tryz.func99, Tryz.ntmps99
   go_wp2_with (with_reducible refine ld rfl 136 _ rfl w.heap.size 0 rfl [.int .i64 x.fKind, .string x.fTrait, .string x.fName, .int .i64 x.fN, c4, c5, c6, c7, c8, .slice a x.fArgs.length cap, c10] hC0 _ Tryz.underlying136 hi ?_)
   refine (implCase_c N ih x hx hz s hl hs _ lo c _ _ _ HS0.out K hK _ Hrep.out).mono ?_
   rintro e w1 ⟨rfl, hD⟩
   go_wp2
   first | go_end0 | ((try simp only [Exit.inBlock, Exit.then]); refine bodyPost_ret (results_none rfl _ _ _) rfl ?_)
   obtain ⟨fp1, vl1, vs1, hS1, hF1⟩ := hD
   exact ⟨rfl, fp1, vl1, vs1, hS1, HF0.out.trans hF1⟩
  have b7 : (x.fKind == 7) = false := by simpa using k7
  have hq : iCore (iC N) x s = s.fail := by unfold iCore; rw [if_neg hbn, if_neg k1, if_neg k2, if_neg k3, if_neg ko, if_neg k8, if_neg k9, if_neg k7]
  rw [hq]
  clear hq k1 k2 k3 ko k8 k9 k7 hbn hC0
  have hfB := Lib.hid (show 2 < (#[vl, vs, .bool s.bad] : Array Value).size from (by simp))
  have haB := Lib.hid (show ((#[vl, vs, .bool s.bad] : Array Value).toList.take 2 ++ [Value.bool true] ++ (#[vl, vs, .bool s.bad] : Array Value).toList.drop (2 + [Value.bool true].length)).toArray = #[vl, vs, .bool true] from rfl)
  have hRB := Lib.hid HS0.out.row
  go_enter Tryz.func99, Tryz.ntmps99
  go_wp2_with (with_reducible refine stR1 rfl 4 _ _ rfl c 2 rfl (.bool true) rfl infoB1 rfl #[vl, vs, .bool s.bad] #[vl, vs, .bool true] 179 hRB.out hfB.out haB.out ?_)
  intro w2 hp2
  have hR := HS0.out.fail hp2
  go_wp2
  first | go_end0 | ((try simp only [Exit.inBlock, Exit.then]); refine bodyPost_ret (results_none rfl _ _ _) rfl ?_)
  exact ⟨rfl, fp, _, _, hR.1, HF0.out.trans hR.2⟩
theorem CPimpl_all : ∀ N : Nat, CPimpl N
 | 0 => fun _ h => absurd h (Nat.not_lt_zero _)
 | N + 1 => stepimplCore N (CPimpl_all N)
theorem implCompile_c (x : TCore) : WK 99 179 (iC (SizeOf.sizeOf x + 1)) x := CPimpl_all (SizeOf.sizeOf x + 1) x (Nat.lt_succ_self _)
end Go.Proofs.YtkmiecgcibjkbaaGreat
