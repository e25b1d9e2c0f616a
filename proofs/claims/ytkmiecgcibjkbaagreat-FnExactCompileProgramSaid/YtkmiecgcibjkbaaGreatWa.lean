/- Functions walked once, their results in memory of their own. Condition: the value's size is at most 1048576. -/
import Derived.Test.YtkmiecgcibjkbaaGreatEng
import Derived.Test.YtkmiecgcibjkbaaGreatTo
namespace Go.Proofs.YtkmiecgcibjkbaaGreat
open Go.RowKit
theorem izr88Wa : (Tryz.prog.info? 88).map (·.zero) = some (some (.agg #[.int .i64 0, .string ⟨#[]⟩, .slice none 0 0])) := by kernel_rfl
theorem isz88Wa : (Tryz.prog.info? 88).map (·.size) = some 3 := by kernel_rfl
theorem iso88Wa : ((Tryz.prog.info? 88).map (·.size)).isSome = true := by kernel_rfl
theorem irw88Wa : (Tryz.prog.info? 88).map (fun i => (i.zero, i.size, i.bytes)) = some (some (.agg #[.int .i64 0, .string ⟨#[]⟩, .slice none 0 0]), 3, 48) := by kernel_rfl
theorem irz88Wa : ((.agg #[.int .i64 0, .string ⟨#[]⟩, .slice none 0 0]) : Value).cells.size = 3 := rfl
def CPspecl4Copy_o (N : Nat) : Prop := ∀ (x : TType), SizeOf.sizeOf x < N → ∀ (_ : x.sz ≤ 1048576) (w : World) (K : Nat → Prop) (_ : ∀ b, K b → b < w.heap.size) (cs : List Value) (_ : Rep w K x.enc cs),
  Calls Tryz.prog 92 #[.agg cs.toArray] w fun e w' => ∃ cs', e = .returned (.agg cs'.toArray) ∧ Ow w' w.heap.size w'.heap.size x.enc cs' ∧ Below w.heap.size w w'
def CPspecl4Copies_o (N : Nat) : Prop := ∀ (l : List TType), SizeOf.sizeOf l < N → ∀ (_ : szs TType.sz l ≤ 1048576) (w : World) (K : Nat → Prop) (_ : ∀ b, K b → b < w.heap.size) (v : Value) (_ : Rep w K (.sl (l.map TType.enc)) [v]),
  Calls Tryz.prog 90 #[v] w fun e w' => ∃ a cap, e = .returned (.slice a l.length cap) ∧ Ow w' w.heap.size w'.heap.size (.sl (l.map TType.enc)) [.slice a l.length cap] ∧ Below w.heap.size w w'
set_option maxRecDepth 100000 in
set_option maxHeartbeats 4000000 in
theorem stepspecl4Copy_o (N : Nat) (_ispecl4Copy_o : CPspecl4Copy_o N) (ispecl4Copies_o : CPspecl4Copies_o N) : CPspecl4Copy_o (N + 1) := by
 intro x hN hz w K hK cs h
 have hV : Hid (Below w.heap.size w w) := Lib.hid (Below.refl _ _)
 replace hz := Lib.hid hz
 have pone := Lib.hid (Rep.one _ _ (h))
 obtain ⟨p2, rfl, hpKind, hpName, hpArgs⟩ := TType.opn (h)
 replace hpKind := Lib.hid hpKind
 replace hpName := Lib.hid hpName
 replace hpArgs := Lib.hid hpArgs
 replace h := Lib.hid h
 go_enter Tryz.func92, Tryz.ntmps92
 go_wp2_with (with_reducible refine e_box rfl 88 _ rfl _ rfl [.int .i64 x.fKind, .string x.fName, p2] rfl ?_)
 intro w1 c2 b3
 replace hV := Lib.hid (below_ch hV.out c2 (.inr (Nat.le_refl _)) hV.out.size)
 have z4 := c2.size
 clear c2
 have B5 := Lib.hid b3; have lb5 := b3.lt; clear b3
 go_wp2_with (with_reducible refine e_al rfl 88 rfl [.int .i64 0, .string ⟨#[]⟩, .slice none 0 0] izr88Wa rfl ?_)
 intro w6 c7 b8
 replace B5 := Lib.hid (B5.out.ch c7 (.inr (.inr (Nat.le_refl _))))
 replace hV := Lib.hid (below_ch hV.out c7 (.inr (Nat.le_refl _)) hV.out.size)
 have z9 := c7.size
 clear c7
 have B10 := Lib.hid b8; have lb10 := b8.lt; clear b8
 go_wp2_with fail
 refine rj 9 8 (Below w6.drew.heap.size w6.drew) (by kernel_rfl) rfl ?_
 have c12 : Ch w6 w6.drew 0 0 := Ch.of_below (Below.refl _ _).drew
 generalize w6.drew = w11 at *
 replace B5 := Lib.hid (B5.out.ch c12 (.inr (.inr (Nat.le_refl _))))
 replace B10 := Lib.hid (B10.out.ch c12 (.inr (.inr (Nat.le_refl _))))
 replace hV := Lib.hid (below_ch hV.out c12 (.inr (Nat.le_refl _)) hV.out.size)
 have z13 := c12.size
 clear c12
 have hI := Lib.hid (Below.refl w11.heap.size w11)
 refine rj_seg (fuel := 3) [0, 1, 2, 3, 4, 5] hI.out (by kernel_rfl) rfl ?_
 simp only [pick, pD, pE]
 refine sg_fix _ rfl (fun w' h' => by go_simp; rfl) ?_
 simp only [Act.put, pA, pB, pC]
 refine sg_fix _ rfl (fun w' h' => by have h0 : w'.cell? ⟨w.heap.size, 0, none⟩ = some (.int .i64 x.fKind) := (B5.out.below h').cell 0 rfl; go_simp; rfl) ?_
 simp only [Act.put, pA, pB, pC]
 refine sg_fix _ rfl (fun w' h' => by go_simp; rfl) ?_
 simp only [Act.put, pA, pB, pC]
 refine sg_fix _ rfl (fun w' h' => by have h0 : w'.cell? ⟨w.heap.size, 1, none⟩ = some (.string x.fName) := (B5.out.below h').cell 1 rfl; go_simp; rfl) ?_
 simp only [Act.put, pA, pB, pC]
 refine sg_fix _ rfl (fun w' h' => by go_simp; rfl) ?_
 simp only [Act.put, pA, pB, pC]
 refine sg_fix _ rfl (fun w' h' => by have h0 : w'.cell? ⟨w.heap.size, 2, none⟩ = some (p2) := (B5.out.below h').cell 2 rfl; go_simp; rfl) ?_
 simp only [Act.put, pA, pB, pC]
 refine sg_nil ?_
 refine rj_es (fuel := 2) [⟨6, none, false, gdSl TType.enc (x.fArgs)⟩] (by kernel_rfl) rfl (fun w' h' => h') (fun e he hd hfi w' h' => ?_) (fun e he f hf hd w' v lo hi h' hg hl hh => ?_) (fun e he hfi xs w' hA => ?_) (fun e he hfi => ?_) (fun xs wk h' hF hA hD => ?_)
 ·simp only [List.mem_cons, List.not_mem_nil, or_false] at he
  subst he
  ·simp only [pick, pD, pE]
   refine ov_call rfl 90 #[p2] (by go_simp <;> rfl) ?_
   exact (ispecl4Copies_o (x.fArgs) (by have := TType.lt_fArgs (x); omega) (by have h0 := hz.out; rw [TType.sz_eq] at h0; omega) _ _ (fun b h => Nat.lt_of_lt_of_le (hK b h) (Nat.le_trans hV.out.size h'.size)) _ ((Rep.ext (hV.out.trans (h'.mono hV.out.size)) hK (hpArgs.out)))).mono fun e w2 ⟨a, p, he, ho, hb⟩ => ⟨_, he, hb, a, p, rfl, ho⟩
 ·simp only [List.mem_cons, List.not_mem_nil, or_false] at he hf
  (subst he) <;> exact absurd hd (by simp)
 ·simp only [List.mem_cons, List.not_mem_nil, or_false] at he
  (subst he) <;> exact absurd hfi (by simp)
 ·simp only [List.mem_cons, List.not_mem_nil, or_false] at he
  (subst he) <;> first | rfl | (cases hfi; done)
 ·
  obtain ⟨v6, lo6, hi6, xs, rfl, g6, l6, u6, hA⟩ := hA
  have hA : xs = [] := hA; subst hA
  obtain ⟨-, -⟩ := hD
  clear hF
  replace hI := Lib.hid h'
  have c14 := Ch.of_below h'; clear h'
  replace g6 := g6 (by intro f hf; simp only [List.mem_cons, List.not_mem_nil, or_false] at hf; subst hf <;> simp)
  obtain ⟨a15, p15, rfl, o15⟩ := g6
  have X15 := Lib.hid o15; clear o15
  simp only [putE, dstOf, pD, pE, Option.bind_some]
  simp only [Act.put, pA, pB, pC]
  generalize wk = w16 at *
  replace B5 := Lib.hid (B5.out.ch c14 (.inr (.inr (Nat.le_refl _))))
  replace B10 := Lib.hid (B10.out.ch c14 (.inr (.inr (Nat.le_refl _))))
  replace hV := Lib.hid (below_ch hV.out c14 (.inr (Nat.le_refl _)) hV.out.size)
  have z17 := c14.size
  clear c14
  have lx15 := X15.out.1
  refine rj_free (fuel := 1) [7] hI.out (by kernel_rfl) rfl ?_
  simp only [pick, pD, pE]
  refine sg_fix _ rfl (fun w' h' => by go_simp; rfl) ?_
  simp only [Act.put, pA, pB, pC]
  refine sg_nil ?_
  refine rj_one (fuel := 0) 8 (by kernel_rfl) rfl (fun K0 K18 => ?_)
  simp only [pick, pD, pE]
  have hi22 := Lib.hid (show (Tryz.prog.info? 88).map (·.size) = some ([.int .i64 x.fKind, .string x.fName, .slice a15 (x.fArgs).length p15] : List Value).length from isz88Wa)
  have hf19 := Lib.hid (show 0 + ([.int .i64 x.fKind, .string x.fName, .slice a15 (x.fArgs).length p15] : List Value).length ≤ ([.int .i64 0, .string ⟨#[]⟩, .slice none 0 0] : List Value).length from (by decide : 3 ≤ 3))
  have ha20 := Lib.hid (show ([.int .i64 0, .string ⟨#[]⟩, .slice none 0 0] : List Value).take 0 ++ [.int .i64 x.fKind, .string x.fName, .slice a15 (x.fArgs).length p15] ++ ([.int .i64 0, .string ⟨#[]⟩, .slice none 0 0] : List Value).drop (0 + ([.int .i64 x.fKind, .string x.fName, .slice a15 (x.fArgs).length p15] : List Value).length) = [.int .i64 x.fKind, .string x.fName, .slice a15 (x.fArgs).length p15] from rfl)
  have ho21 := Lib.hid (show ∀ u ∈ ([.int .i64 x.fKind, .string x.fName, .slice a15 (x.fArgs).length p15] : List Value), u.oneCell' = true from (one_cons rfl (one_cons rfl (one_cons rfl one_nil))))
  refine q_st rfl 88 _ _ rfl (w1.heap.size) 0 rfl [.int .i64 x.fKind, .string x.fName, .slice a15 (x.fArgs).length p15] rfl hi22.out ho21.out [.int .i64 0, .string ⟨#[]⟩, .slice none 0 0] [.int .i64 x.fKind, .string x.fName, .slice a15 (x.fArgs).length p15] 88 B10.out hf19.out ha20.out ?_
  intro w23 c24 b25
  refine K18 _ _ (jw_done (by kernel_rfl)) ?_
  refine rj_end (by kernel_rfl) ?_
  (try simp only [Act.put])
  (try simp only [Act.put, pA, pB, pC])
  replace B5 := Lib.hid (B5.out.ch c24 (by omega))
  replace X15 := Lib.hid (X15.out.ch c24 (by omega))
  replace hV := Lib.hid (below_ch hV.out c24 (by omega) hV.out.size)
  have z26 := c24.size
  clear c24
  replace B10 := Lib.hid b25; clear b25 hi22 hf19 ha20 ho21
  go_wp2_with fail
  have X27 : Hid (Ow w23 (w11.heap.size) (w23.heap.size) (TType.enc x) [.int .i64 x.fKind, .string x.fName, .slice a15 (x.fArgs).length p15]) := Lib.hid ((by rw [TType.enc_eq]; exact Ow.st (OwS.leaf (ownI hpKind.out) (OwS.leaf (ownS hpName.out) (OwS.cons (c1 := [.slice a15 (x.fArgs).length p15]) (c2 := []) (X15.out) (OwS.nil) (by simp)))) (by intro p hp; simp only [List.mem_cons, List.not_mem_nil, or_false] at hp; subst hp <;> (show _ ≤ _ ∧ _ ≤ _; omega)) (by omega)))
  have lx27 := X27.out.1
  have hiR : (Tryz.prog.info? 88).map (·.size) = some ([.int .i64 x.fKind, .string x.fName, .slice a15 (x.fArgs).length p15] : List Value).length := isz88Wa
  (try simp only [Exit.inBlock, Exit.then])
  exact bodyPost_ret (v := .agg #[.int .i64 x.fKind, .string x.fName, .slice a15 (x.fArgs).length p15]) (run_res Tryz.results92 (w1.heap.size) rfl [.int .i64 x.fKind, .string x.fName, .slice a15 (x.fArgs).length p15] B10.out.cells _ Tryz.underlying88 hiR) rfl ⟨[.int .i64 x.fKind, .string x.fName, .slice a15 (x.fArgs).length p15], rfl, X27.out.wide (by omega) (by omega) (Nat.le_refl _), hV.out⟩
set_option maxRecDepth 100000 in
set_option maxHeartbeats 4000000 in
theorem stepspecl4Copies_o (N : Nat) (ispecl4Copy_o : CPspecl4Copy_o N) (_ispecl4Copies_o : CPspecl4Copies_o N) : CPspecl4Copies_o (N + 1) := by
 intro l hN hz w K hK v h
 have hV : Hid (Below w.heap.size w w) := Lib.hid (Below.refl _ _)
 replace hz := Lib.hid hz
 replace h := Lib.hid h
 obtain ⟨a1, cap2, rfl, hcp3, hcm4, -, hE5⟩ := open_sl TType.width h.out
 unfold maxLen at hcm4
 replace hE5 := Lib.hid hE5
 have hcm4_ : (l).length ≤ 1048576 := by have h0 := hz.out; unfold szs at h0; omega
 go_enter Tryz.func90, Tryz.ntmps90
 go_wp2_with (with_reducible refine e_bs0 rfl 86 rfl Tryz.underlying86 iso88Wa ?_)
 intro w6 c7 b8
 replace hV := Lib.hid (below_ch hV.out c7 (.inr (Nat.le_refl _)) hV.out.size)
 have z9 := c7.size
 clear c7
 have R10 := Lib.hid (Gw.made (size := 3) b8 (Nat.le_refl _)); have lr10 := b8.lt; clear b8
 go_wp2_with fail
 go_loopw [3, 4] (fun o i wr => ∃ (n : Nat) (v' : Value) (hi' : Nat), n ≤ (l).length ∧ v' = o ∧ i = .int .i64 n ∧ Hid (Gw wr (w.heap.size) hi' 88 3 (((l).take n).map TType.enc) v') ∧ Hid (Below w.heap.size w wr) ∧ w6.heap.size ≤ wr.heap.size) (fun _ i _ => (l).length - (intOf i).toNat)
 case atStart => exact ⟨0, _, _, Nat.zero_le _, rfl, rfl, R10, hV, Nat.le_refl _⟩
 case round =>
  clear R10  hV
  obtain ⟨n12, v13, hi14, hn, rfl, rfl, R10, hV, z15⟩ := hrel
  rename World => w11
  have lr10_w11 := R10.out.1; have lr10_w11_ := R10.out.2.1
  by_cases hlt : n12 < (l).length
  ·
   obtain ⟨bk16, of17, rfl, hb18, cs19, hcs20, hr21⟩ := hE5.out n12 hlt
   replace hcs20 := Lib.hid hcs20; replace hr21 := Lib.hid hr21
   have hmem : (l)[n12] ∈ l := List.getElem_mem hlt
   have Ht := Lib.hid (take_snoc (fun y => y) hlt)
   have Hl := Lib.hid (show (((l).take n12)).length = n12 from by simp; omega)
   have Hs := Lib.hid (show SizeOf.sizeOf (l)[n12] < SizeOf.sizeOf (l) from List.sizeOf_lt_of_mem hmem)
   have Hz := Lib.hid (show TType.sz (l)[n12] ≤ 1048576 from (by have h1 := szL_le TType.sz hmem; have h0 := hz.out; unfold szs at h0; omega))
   generalize (l)[n12] = y21 at *
   have e21_one := Lib.hid (Rep.one _ _ (hr21.out))
   obtain ⟨e21_2, rfl, he21_Kind, he21_Name, he21_Args⟩ := TType.opn (hr21.out)
   replace he21_Kind := Lib.hid he21_Kind
   replace he21_Name := Lib.hid he21_Name
   replace he21_Args := Lib.hid he21_Args
   have hc22 : Cells w11 (bk16) (of17 + n12 * 3) [.int .i64 y21.fKind, .string y21.fName, e21_2] := (hcs20.out.ext hV.out (hK _ hb18))
   have hi23 : (Tryz.prog.info? 88).map (·.size) = some ([.int .i64 y21.fKind, .string y21.fName, e21_2] : List Value).length := isz88Wa
   go_wp2_with (with_reducible refine ld rfl 88 _ rfl (bk16) (of17 + n12 * 3) rfl [.int .i64 y21.fKind, .string y21.fName, e21_2] hc22 _ Tryz.underlying88 hi23 ?_)
   refine (ispecl4Copy_o (y21) (by have := Hs.out; omega) Hz.out _ _ (fun b h => Nat.lt_of_lt_of_le (hK b h) hV.out.size) _ ((Rep.ext hV.out hK (hr21.out)))).mono ?_
   rintro e w24 ⟨cs26, rfl, o26, hB26⟩
   have d26_one := Lib.hid (Rep.one _ _ (o26.rep))
   obtain ⟨d26_2, rfl, hd26_Kind, hd26_Name, hd26_Args⟩ := TType.opn (o26.rep)
   replace hd26_Kind := Lib.hid hd26_Kind
   replace hd26_Name := Lib.hid hd26_Name
   replace hd26_Args := Lib.hid hd26_Args
   have X26 := Lib.hid o26; clear o26
   have c25 := Ch.of_below hB26; clear hB26
   clear hc22 hi23
   replace R10 := Lib.hid (R10.out.ch c25 (.inr (.inr (Nat.le_refl _))))
   replace hV := Lib.hid (below_ch hV.out c25 (.inr (Nat.le_refl _)) hV.out.size)
   have z27 := c25.size
   clear c25
   have lx26 := X26.out.1
   have hl31 : ([.int .i64 y21.fKind, .string y21.fName, d26_2] : List Value).length = 3 := rfl
   go_wp2_with (with_reducible refine e_bs1 rfl 86 _ rfl Tryz.underlying86 irw88Wa (by decide) (by decide) _ rfl [.int .i64 y21.fKind, .string y21.fName, d26_2] rfl hl31 ?_)
   intro w28 c29 b30
   clear hl31
   replace X26 := Lib.hid (X26.out.ch c29 (.inr (.inr (Nat.le_refl _))))
   replace R10 := Lib.hid (R10.out.ch c29 (.inr (.inr (Nat.le_refl _))))
   replace hV := Lib.hid (below_ch hV.out c29 (.inr (Nat.le_refl _)) hV.out.size)
   have z32 := c29.size
   clear c29
   have B33 := Lib.hid b30; have lb33 := b30.lt; clear b30
   have hb38 : ((((l).take n12)).map TType.enc).length + 1 ≤ 1048577 := by simp only [List.length_map, List.length_take] <;> omega
   have hw39 : (TType.enc y21).width = 3 := TType.width _
   have hc40 := B33.out.cells
   have h6341 : ((((l).take n12)).map TType.enc).length + 1 ≤ maxLen := by unfold maxLen; omega
   have hby42 : (((((l).take n12)).map TType.enc).length + 1) * 48 ≤ 140737488355328 := by omega
   have hd43 : w24.heap.size ≤ w.heap.size ∨ hi14 ≤ w11.heap.size := by omega
   have hl44 : w.heap.size ≤ w11.heap.size := by omega
   go_wp2_with (with_reducible refine e_ap rfl _ _ 86 rfl (.agg #[.int .i64 0, .string ⟨#[]⟩, .slice none 0 0]) 48 Tryz.underlying86 irw88Wa irz88Wa (by decide) rfl R10.out (w24.heap.size) rfl hw39 hc40 X26.out hd43 hl44 h6341 hby42 ?_)
   intro v36 w37 hG34 c35
   clear hb38 hw39 hc40 h6341 hby42 hd43 hl44
   clear B33 lb33
   clear X26
   have hG_ : Gw w37 (w.heap.size) w37.heap.size 88 3 ((((l).take n12) ++ [y21]).map TType.enc) v36 := by (have h := hG34; simp only [List.map_append, List.map_take, List.map_cons, List.map_nil] at h ⊢; exact h)
   clear hG34
   replace hV := Lib.hid (below_ch hV.out c35 (by omega) hV.out.size)
   have z45 := c35.size
   clear c35
   replace R10 := Lib.hid hG_; clear hG_
   have lr10_w37 := R10.out.2.1
   go_wp2_with fail
   go_roundw
   case rel => exact ⟨n12 + 1, _, _, hlt, rfl, by go_num, Lib.hid (by have hR := R10.out; rw [show _ ++ [y21] = _ from (by have := Ht.out; simpa using this)] at hR; exact hR), hV, by omega⟩
   case measure => simp [intOf]; omega
  ·
   obtain rfl : n12 = (l).length := by omega
   have hR := R10.out; rw [List.take_of_length_le (Nat.le_refl _)] at hR; replace R10 := Lib.hid hR; clear hR
   go_wp2_with fail
   obtain ⟨a10, p10, rfl, o10⟩ := R10.out.ow
   have X10 := Lib.hid o10; have lx10 := o10.1; clear o10 R10
   go_ret
   exact ⟨_, _, rfl, X10.out.wide (by omega) (by omega) (Nat.le_refl _), hV.out⟩
theorem specl4Copy_o_all : ∀ N : Nat, CPspecl4Copy_o N ∧ CPspecl4Copies_o N
 | 0 => ⟨fun _ h => absurd h (Nat.not_lt_zero _), fun _ h => absurd h (Nat.not_lt_zero _)⟩
 | N + 1 => by
  obtain ⟨i0, i1⟩ := specl4Copy_o_all N
  exact ⟨stepspecl4Copy_o N i0 i1, stepspecl4Copies_o N i0 i1⟩
theorem specl4Copy_o (x : TType) : ∀ (_ : x.sz ≤ 1048576) (w : World) (K : Nat → Prop) (_ : ∀ b, K b → b < w.heap.size) (cs : List Value) (_ : Rep w K x.enc cs),
  Calls Tryz.prog 92 #[.agg cs.toArray] w fun e w' => ∃ cs', e = .returned (.agg cs'.toArray) ∧ Ow w' w.heap.size w'.heap.size x.enc cs' ∧ Below w.heap.size w w' := (specl4Copy_o_all (SizeOf.sizeOf x + 1)).1 x (Nat.lt_succ_self _)
theorem specl4Copies_o (l : List TType) : ∀ (_ : szs TType.sz l ≤ 1048576) (w : World) (K : Nat → Prop) (_ : ∀ b, K b → b < w.heap.size) (v : Value) (_ : Rep w K (.sl (l.map TType.enc)) [v]),
  Calls Tryz.prog 90 #[v] w fun e w' => ∃ a cap, e = .returned (.slice a l.length cap) ∧ Ow w' w.heap.size w'.heap.size (.sl (l.map TType.enc)) [.slice a l.length cap] ∧ Below w.heap.size w w' := (specl4Copy_o_all (SizeOf.sizeOf l + 1)).2 l (Nat.lt_succ_self _)
end Go.Proofs.YtkmiecgcibjkbaaGreat
