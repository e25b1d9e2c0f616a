/- Functions walked once, their results in memory of their own. Condition: the value's size is at most 1048576. -/
import Derived.Test.YtkmiecgcibjkbaaGreatEng
import Derived.Test.YtkmiecgcibjkbaaGreatTo
namespace Go.Proofs.YtkmiecgcibjkbaaGreat
open Go.RowKit
theorem TInstanceRef.flatEWc (x : TInstanceRef) : flatD x.enc = true := by
 rw [TInstanceRef.enc_eq]
 rfl
theorem izr240Wc : (Tryz.prog.info? 240).map (·.zero) = some (some (.agg #[.int .i64 0, .int .i64 0, .int .i64 0, .int .i64 0, .slice none 0 0])) := by kernel_rfl
theorem isz132Wc : (Tryz.prog.info? 132).map (·.size) = some 1 := by kernel_rfl
theorem isz240Wc : (Tryz.prog.info? 240).map (·.size) = some 5 := by kernel_rfl
theorem iso240Wc : ((Tryz.prog.info? 240).map (·.size)).isSome = true := by kernel_rfl
theorem irw240Wc : (Tryz.prog.info? 240).map (fun i => (i.zero, i.size, i.bytes)) = some (some (.agg #[.int .i64 0, .int .i64 0, .int .i64 0, .int .i64 0, .slice none 0 0]), 5, 56) := by kernel_rfl
theorem irz240Wc : ((.agg #[.int .i64 0, .int .i64 0, .int .i64 0, .int .i64 0, .slice none 0 0]) : Value).cells.size = 5 := rfl
def CPspecl24Copy_o (N : Nat) : Prop := ∀ (x : TEvidence), SizeOf.sizeOf x < N → ∀ (_ : x.sz ≤ 1048576) (w : World) (K : Nat → Prop) (_ : ∀ b, K b → b < w.heap.size) (cs : List Value) (_ : Rep w K x.enc cs),
  Calls Tryz.prog 240 #[.agg cs.toArray] w fun e w' => ∃ cs', e = .returned (.agg cs'.toArray) ∧ Ow w' w.heap.size w'.heap.size x.enc cs' ∧ Below w.heap.size w w'
def CPspecl24Copies_o (N : Nat) : Prop := ∀ (l : List TEvidence), SizeOf.sizeOf l < N → ∀ (_ : szs TEvidence.sz l ≤ 1048576) (w : World) (K : Nat → Prop) (_ : ∀ b, K b → b < w.heap.size) (v : Value) (_ : Rep w K (.sl (l.map TEvidence.enc)) [v]),
  Calls Tryz.prog 206 #[v] w fun e w' => ∃ a cap, e = .returned (.slice a l.length cap) ∧ Ow w' w.heap.size w'.heap.size (.sl (l.map TEvidence.enc)) [.slice a l.length cap] ∧ Below w.heap.size w w'
set_option maxRecDepth 100000 in
set_option maxHeartbeats 4000000 in
theorem stepspecl24Copy_o (N : Nat) (_ispecl24Copy_o : CPspecl24Copy_o N) (ispecl24Copies_o : CPspecl24Copies_o N) : CPspecl24Copy_o (N + 1) := by
 intro x hN hz w K hK cs h
 have hV : Hid (Below w.heap.size w w) := Lib.hid (Below.refl _ _)
 replace hz := Lib.hid hz
 have pone := Lib.hid (Rep.one _ _ (h))
 obtain ⟨p2, p3, p4, rfl, hpKind, hpN, hpAt, hpArgs⟩ := TEvidence.opn (h)
 replace hpKind := Lib.hid hpKind
 replace hpN := Lib.hid hpN
 replace hpAt := Lib.hid hpAt
 replace hpArgs := Lib.hid hpArgs
 replace h := Lib.hid h
 go_enter Tryz.func240, Tryz.ntmps240
 go_wp2_with (with_reducible refine e_box rfl 240 _ rfl _ rfl [.int .i64 x.fKind, .int .i64 x.fN, p2, p3, p4] rfl ?_)
 intro w1 c2 b3
 replace hV := Lib.hid (below_ch hV.out c2 (.inr (Nat.le_refl _)) hV.out.size)
 have z4 := c2.size
 clear c2
 have B5 := Lib.hid b3; have lb5 := b3.lt; clear b3
 go_wp2_with (with_reducible refine e_al rfl 240 rfl [.int .i64 0, .int .i64 0, .int .i64 0, .int .i64 0, .slice none 0 0] izr240Wc rfl ?_)
 intro w6 c7 b8
 replace B5 := Lib.hid (B5.out.ch c7 (.inr (.inr (Nat.le_refl _))))
 replace hV := Lib.hid (below_ch hV.out c7 (.inr (Nat.le_refl _)) hV.out.size)
 have z9 := c7.size
 clear c7
 have B10 := Lib.hid b8; have lb10 := b8.lt; clear b8
 have g11 : w6.cell? ⟨w.heap.size, 4, none⟩ = some (p4) := B5.out.cell 4 rfl
 go_wp2_with fail
 refine (ispecl24Copies_o (x.fArgs) (by have := TEvidence.lt_fArgs (x); omega) (by have h0 := hz.out; rw [TEvidence.sz_eq] at h0; omega) _ _ (fun b h => Nat.lt_of_lt_of_le (hK b h) hV.out.size) _ ((Rep.ext hV.out hK (hpArgs.out)))).mono ?_
 rintro e w12 ⟨a14, p14, rfl, o14, hB14⟩
 have X14 := Lib.hid o14; clear o14
 have c13 := Ch.of_below hB14; clear hB14
 clear g11
 replace B5 := Lib.hid (B5.out.ch c13 (.inr (.inr (Nat.le_refl _))))
 replace B10 := Lib.hid (B10.out.ch c13 (.inr (.inr (Nat.le_refl _))))
 replace hV := Lib.hid (below_ch hV.out c13 (.inr (Nat.le_refl _)) hV.out.size)
 have z15 := c13.size
 clear c13
 have lx14 := X14.out.1
 have hf16 := Lib.hid (show 4 < ([.int .i64 x.fKind, .int .i64 x.fN, p2, p3, p4] : List Value).length from (by decide : 4 < 5))
 have ha17 := Lib.hid (show ([.int .i64 x.fKind, .int .i64 x.fN, p2, p3, p4] : List Value).take 4 ++ [.slice a14 (x.fArgs).length p14] ++ ([.int .i64 x.fKind, .int .i64 x.fN, p2, p3, p4] : List Value).drop (4 + 1) = [.int .i64 x.fKind, .int .i64 x.fN, p2, p3, .slice a14 (x.fArgs).length p14] from rfl)
 have ho18 := Lib.hid (show (.slice a14 (x.fArgs).length p14 : Value).oneCell' = true from rfl)
 go_wp2_with (with_reducible refine e_st1 rfl 132 _ _ rfl (w.heap.size) 4 rfl (.slice a14 (x.fArgs).length p14) rfl isz132Wc ho18.out [.int .i64 x.fKind, .int .i64 x.fN, p2, p3, p4] [.int .i64 x.fKind, .int .i64 x.fN, p2, p3, .slice a14 (x.fArgs).length p14] 240 B5.out hf16.out ha17.out ?_)
 intro w19 c20 b21
 replace B10 := Lib.hid (B10.out.ch c20 (by omega))
 replace X14 := Lib.hid (X14.out.ch c20 (by omega))
 replace hV := Lib.hid (below_ch hV.out c20 (by omega) hV.out.size)
 have z22 := c20.size
 clear c20
 replace B5 := Lib.hid b21; clear b21 hf16 ha17 ho18
 have hc23 : Cells w19 (w.heap.size) (0) [.int .i64 x.fKind, .int .i64 x.fN, p2, p3, .slice a14 (x.fArgs).length p14] := (B5.out.cells)
 have hi24 : (Tryz.prog.info? 240).map (·.size) = some ([.int .i64 x.fKind, .int .i64 x.fN, p2, p3, .slice a14 (x.fArgs).length p14] : List Value).length := isz240Wc
 have hi28 := Lib.hid (show (Tryz.prog.info? 240).map (·.size) = some ([.int .i64 x.fKind, .int .i64 x.fN, p2, p3, .slice a14 (x.fArgs).length p14] : List Value).length from isz240Wc)
 have hf25 := Lib.hid (show 0 + ([.int .i64 x.fKind, .int .i64 x.fN, p2, p3, .slice a14 (x.fArgs).length p14] : List Value).length ≤ ([.int .i64 0, .int .i64 0, .int .i64 0, .int .i64 0, .slice none 0 0] : List Value).length from (by decide : 5 ≤ 5))
 have ha26 := Lib.hid (show ([.int .i64 0, .int .i64 0, .int .i64 0, .int .i64 0, .slice none 0 0] : List Value).take 0 ++ [.int .i64 x.fKind, .int .i64 x.fN, p2, p3, .slice a14 (x.fArgs).length p14] ++ ([.int .i64 0, .int .i64 0, .int .i64 0, .int .i64 0, .slice none 0 0] : List Value).drop (0 + ([.int .i64 x.fKind, .int .i64 x.fN, p2, p3, .slice a14 (x.fArgs).length p14] : List Value).length) = [.int .i64 x.fKind, .int .i64 x.fN, p2, p3, .slice a14 (x.fArgs).length p14] from rfl)
 have ho27 := Lib.hid (show ∀ u ∈ ([.int .i64 x.fKind, .int .i64 x.fN, p2, p3, .slice a14 (x.fArgs).length p14] : List Value), u.oneCell' = true from (one_cons rfl (one_cons rfl (one_cons (pone.out _ (by simp)) (one_cons (pone.out _ (by simp)) (one_cons rfl one_nil))))))
 go_wp2_with (first | (with_reducible refine ld rfl 240 _ rfl (w.heap.size) (0) rfl [.int .i64 x.fKind, .int .i64 x.fN, p2, p3, .slice a14 (x.fArgs).length p14] hc23 _ Tryz.underlying240 hi24 ?_) | (with_reducible refine e_st rfl 240 _ _ rfl (w1.heap.size) 0 rfl [.int .i64 x.fKind, .int .i64 x.fN, p2, p3, .slice a14 (x.fArgs).length p14] rfl hi28.out ho27.out [.int .i64 0, .int .i64 0, .int .i64 0, .int .i64 0, .slice none 0 0] [.int .i64 x.fKind, .int .i64 x.fN, p2, p3, .slice a14 (x.fArgs).length p14] 240 B10.out hf25.out ha26.out ?_))
 intro w29 c30 b31
 clear hc23 hi24
 replace B5 := Lib.hid (B5.out.ch c30 (by omega))
 replace X14 := Lib.hid (X14.out.ch c30 (by omega))
 replace hV := Lib.hid (below_ch hV.out c30 (by omega) hV.out.size)
 have z32 := c30.size
 clear c30
 replace B10 := Lib.hid b31; clear b31 hi28 hf25 ha26 ho27
 go_wp2_with fail
 have X33 : Hid (Ow w29 (w6.heap.size) (w29.heap.size) (TEvidence.enc x) [.int .i64 x.fKind, .int .i64 x.fN, p2, p3, .slice a14 (x.fArgs).length p14]) := Lib.hid ((by rw [TEvidence.enc_eq]; exact Ow.st (OwS.leaf (ownI hpKind.out) (OwS.leaf (ownI hpN.out) (OwS.cons (c1 := [p2, p3]) (c2 := [.slice a14 (x.fArgs).length p14]) (Ow.lf (lo := w29.heap.size) (hi := w29.heap.size) (Rep.own_flat (K := K) _ _ (TInstanceRef.flatEWc _) (Rep.ext hV.out hK (hpAt.out))) (Nat.le_refl _)) (OwS.cons (c1 := [.slice a14 (x.fArgs).length p14]) (c2 := []) (X14.out) (OwS.nil) (by simp)) (by intro p hp; simp only [List.mem_cons, List.not_mem_nil, or_false] at hp; subst hp <;> (show _ ≤ _ ∨ _ ≤ _; omega))))) (by intro p hp; simp only [List.mem_cons, List.not_mem_nil, or_false] at hp; rcases hp with rfl | rfl <;> (show _ ≤ _ ∧ _ ≤ _; omega)) (by omega)))
 have lx33 := X33.out.1
 have hiR : (Tryz.prog.info? 240).map (·.size) = some ([.int .i64 x.fKind, .int .i64 x.fN, p2, p3, .slice a14 (x.fArgs).length p14] : List Value).length := isz240Wc
 (try simp only [Exit.inBlock, Exit.then])
 exact bodyPost_ret (v := .agg #[.int .i64 x.fKind, .int .i64 x.fN, p2, p3, .slice a14 (x.fArgs).length p14]) (run_res Tryz.results240 (w1.heap.size) rfl [.int .i64 x.fKind, .int .i64 x.fN, p2, p3, .slice a14 (x.fArgs).length p14] B10.out.cells _ Tryz.underlying240 hiR) rfl ⟨[.int .i64 x.fKind, .int .i64 x.fN, p2, p3, .slice a14 (x.fArgs).length p14], rfl, X33.out.wide (by omega) (by omega) (Nat.le_refl _), hV.out⟩
set_option maxRecDepth 100000 in
set_option maxHeartbeats 4000000 in
theorem stepspecl24Copies_o (N : Nat) (ispecl24Copy_o : CPspecl24Copy_o N) (_ispecl24Copies_o : CPspecl24Copies_o N) : CPspecl24Copies_o (N + 1) := by
 intro l hN hz w K hK v h
 have hV : Hid (Below w.heap.size w w) := Lib.hid (Below.refl _ _)
 replace hz := Lib.hid hz
 replace h := Lib.hid h
 obtain ⟨a1, cap2, rfl, hcp3, hcm4, -, hE5⟩ := open_sl TEvidence.width h.out
 unfold maxLen at hcm4
 replace hE5 := Lib.hid hE5
 have hcm4_ : (l).length ≤ 1048576 := by have h0 := hz.out; unfold szs at h0; omega
 go_enter Tryz.func206, Tryz.ntmps206
 go_wp2_with (with_reducible refine e_bs0 rfl 132 rfl Tryz.underlying132 iso240Wc ?_)
 intro w6 c7 b8
 replace hV := Lib.hid (below_ch hV.out c7 (.inr (Nat.le_refl _)) hV.out.size)
 have z9 := c7.size
 clear c7
 have R10 := Lib.hid (Gw.made (size := 5) b8 (Nat.le_refl _)); have lr10 := b8.lt; clear b8
 go_wp2_with fail
 go_loopw [3, 4] (fun o i wr => ∃ (n : Nat) (v' : Value) (hi' : Nat), n ≤ (l).length ∧ v' = o ∧ i = .int .i64 n ∧ Hid (Gw wr (w.heap.size) hi' 240 5 (((l).take n).map TEvidence.enc) v') ∧ Hid (Below w.heap.size w wr) ∧ w6.heap.size ≤ wr.heap.size) (fun _ i _ => (l).length - (intOf i).toNat)
 case atStart => exact ⟨0, _, _, Nat.zero_le _, rfl, rfl, R10, hV, Nat.le_refl _⟩
 case round =>
  clear R10  hV
  obtain ⟨n12, v13, hi14, hn, rfl, rfl, R10, hV, z15⟩ := hrel
  rename World => w11
  have lr10_w11 := R10.out.1; have lr10_w11_ := R10.out.2.1
  by_cases hlt : n12 < (l).length
  ·
   obtain ⟨bk16, of17, rfl, hb18, cs19, hcs20, hr21⟩ := hE5.out n12 hlt
   replace hcs20 := Lib.hid hcs20; replace hr21 := Lib.hid hr21
   have hmem : (l)[n12] ∈ l := List.getElem_mem hlt
   have Ht := Lib.hid (take_snoc (fun y => y) hlt)
   have Hl := Lib.hid (show (((l).take n12)).length = n12 from by simp; omega)
   have Hs := Lib.hid (show SizeOf.sizeOf (l)[n12] < SizeOf.sizeOf (l) from List.sizeOf_lt_of_mem hmem)
   have Hz := Lib.hid (show TEvidence.sz (l)[n12] ≤ 1048576 from (by have h1 := szL_le TEvidence.sz hmem; have h0 := hz.out; unfold szs at h0; omega))
   generalize (l)[n12] = y21 at *
   have e21_one := Lib.hid (Rep.one _ _ (hr21.out))
   obtain ⟨e21_2, e21_3, e21_4, rfl, he21_Kind, he21_N, he21_At, he21_Args⟩ := TEvidence.opn (hr21.out)
   replace he21_Kind := Lib.hid he21_Kind
   replace he21_N := Lib.hid he21_N
   replace he21_At := Lib.hid he21_At
   replace he21_Args := Lib.hid he21_Args
   have hc22 : Cells w11 (bk16) (of17 + n12 * 5) [.int .i64 y21.fKind, .int .i64 y21.fN, e21_2, e21_3, e21_4] := (hcs20.out.ext hV.out (hK _ hb18))
   have hi23 : (Tryz.prog.info? 240).map (·.size) = some ([.int .i64 y21.fKind, .int .i64 y21.fN, e21_2, e21_3, e21_4] : List Value).length := isz240Wc
   go_wp2_with (with_reducible refine ld rfl 240 _ rfl (bk16) (of17 + n12 * 5) rfl [.int .i64 y21.fKind, .int .i64 y21.fN, e21_2, e21_3, e21_4] hc22 _ Tryz.underlying240 hi23 ?_)
   refine (ispecl24Copy_o (y21) (by have := Hs.out; omega) Hz.out _ _ (fun b h => Nat.lt_of_lt_of_le (hK b h) hV.out.size) _ ((Rep.ext hV.out hK (hr21.out)))).mono ?_
   rintro e w24 ⟨cs26, rfl, o26, hB26⟩
   have d26_one := Lib.hid (Rep.one _ _ (o26.rep))
   obtain ⟨d26_2, d26_3, d26_4, rfl, hd26_Kind, hd26_N, hd26_At, hd26_Args⟩ := TEvidence.opn (o26.rep)
   replace hd26_Kind := Lib.hid hd26_Kind
   replace hd26_N := Lib.hid hd26_N
   replace hd26_At := Lib.hid hd26_At
   replace hd26_Args := Lib.hid hd26_Args
   have X26 := Lib.hid o26; clear o26
   have c25 := Ch.of_below hB26; clear hB26
   clear hc22 hi23
   replace R10 := Lib.hid (R10.out.ch c25 (.inr (.inr (Nat.le_refl _))))
   replace hV := Lib.hid (below_ch hV.out c25 (.inr (Nat.le_refl _)) hV.out.size)
   have z27 := c25.size
   clear c25
   have lx26 := X26.out.1
   have hl31 : ([.int .i64 y21.fKind, .int .i64 y21.fN, d26_2, d26_3, d26_4] : List Value).length = 5 := rfl
   go_wp2_with (with_reducible refine e_bs1 rfl 132 _ rfl Tryz.underlying132 irw240Wc (by decide) (by decide) _ rfl [.int .i64 y21.fKind, .int .i64 y21.fN, d26_2, d26_3, d26_4] rfl hl31 ?_)
   intro w28 c29 b30
   clear hl31
   replace X26 := Lib.hid (X26.out.ch c29 (.inr (.inr (Nat.le_refl _))))
   replace R10 := Lib.hid (R10.out.ch c29 (.inr (.inr (Nat.le_refl _))))
   replace hV := Lib.hid (below_ch hV.out c29 (.inr (Nat.le_refl _)) hV.out.size)
   have z32 := c29.size
   clear c29
   have B33 := Lib.hid b30; have lb33 := b30.lt; clear b30
   have hb38 : ((((l).take n12)).map TEvidence.enc).length + 1 ≤ 1048577 := by simp only [List.length_map, List.length_take] <;> omega
   have hw39 : (TEvidence.enc y21).width = 5 := TEvidence.width _
   have hc40 := B33.out.cells
   have h6341 : ((((l).take n12)).map TEvidence.enc).length + 1 ≤ maxLen := by unfold maxLen; omega
   have hby42 : (((((l).take n12)).map TEvidence.enc).length + 1) * 56 ≤ 140737488355328 := by omega
   have hd43 : w24.heap.size ≤ w.heap.size ∨ hi14 ≤ w11.heap.size := by omega
   have hl44 : w.heap.size ≤ w11.heap.size := by omega
   go_wp2_with (with_reducible refine e_ap rfl _ _ 132 rfl (.agg #[.int .i64 0, .int .i64 0, .int .i64 0, .int .i64 0, .slice none 0 0]) 56 Tryz.underlying132 irw240Wc irz240Wc (by decide) rfl R10.out (w24.heap.size) rfl hw39 hc40 X26.out hd43 hl44 h6341 hby42 ?_)
   intro v36 w37 hG34 c35
   clear hb38 hw39 hc40 h6341 hby42 hd43 hl44
   clear B33 lb33
   clear X26
   have hG_ : Gw w37 (w.heap.size) w37.heap.size 240 5 ((((l).take n12) ++ [y21]).map TEvidence.enc) v36 := by (have h := hG34; simp only [List.map_append, List.map_take, List.map_cons, List.map_nil] at h ⊢; exact h)
   clear hG34
   replace hV := Lib.hid (below_ch hV.out c35 (by omega) hV.out.size)
   have z45 := c35.size
   clear c35
   replace R10 := Lib.hid hG_; clear hG_
   have lr10_w37 := R10.out.2.1
   go_wp2_with fail
   go_roundw
   case rel => exact ⟨n12 + 1, _, _, hlt, rfl, by go_num, Lib.hid (by have hR := R10.out; rw [show _ ++ [y21] = _ from (by have := Ht.out; simpa using this)] at hR; exact hR), hV, by omega⟩
   case measure => simp [intOf]; omega
  ·
   obtain rfl : n12 = (l).length := by omega
   have hR := R10.out; rw [List.take_of_length_le (Nat.le_refl _)] at hR; replace R10 := Lib.hid hR; clear hR
   go_wp2_with fail
   obtain ⟨a10, p10, rfl, o10⟩ := R10.out.ow
   have X10 := Lib.hid o10; have lx10 := o10.1; clear o10 R10
   go_ret
   exact ⟨_, _, rfl, X10.out.wide (by omega) (by omega) (Nat.le_refl _), hV.out⟩
theorem specl24Copy_o_all : ∀ N : Nat, CPspecl24Copy_o N ∧ CPspecl24Copies_o N
 | 0 => ⟨fun _ h => absurd h (Nat.not_lt_zero _), fun _ h => absurd h (Nat.not_lt_zero _)⟩
 | N + 1 => by
  obtain ⟨i0, i1⟩ := specl24Copy_o_all N
  exact ⟨stepspecl24Copy_o N i0 i1, stepspecl24Copies_o N i0 i1⟩
theorem specl24Copy_o (x : TEvidence) : ∀ (_ : x.sz ≤ 1048576) (w : World) (K : Nat → Prop) (_ : ∀ b, K b → b < w.heap.size) (cs : List Value) (_ : Rep w K x.enc cs),
  Calls Tryz.prog 240 #[.agg cs.toArray] w fun e w' => ∃ cs', e = .returned (.agg cs'.toArray) ∧ Ow w' w.heap.size w'.heap.size x.enc cs' ∧ Below w.heap.size w w' := (specl24Copy_o_all (SizeOf.sizeOf x + 1)).1 x (Nat.lt_succ_self _)
theorem specl24Copies_o (l : List TEvidence) : ∀ (_ : szs TEvidence.sz l ≤ 1048576) (w : World) (K : Nat → Prop) (_ : ∀ b, K b → b < w.heap.size) (v : Value) (_ : Rep w K (.sl (l.map TEvidence.enc)) [v]),
  Calls Tryz.prog 206 #[v] w fun e w' => ∃ a cap, e = .returned (.slice a l.length cap) ∧ Ow w' w.heap.size w'.heap.size (.sl (l.map TEvidence.enc)) [.slice a l.length cap] ∧ Below w.heap.size w w' := (specl24Copy_o_all (SizeOf.sizeOf l + 1)).2 l (Nat.lt_succ_self _)
end Go.Proofs.YtkmiecgcibjkbaaGreat
