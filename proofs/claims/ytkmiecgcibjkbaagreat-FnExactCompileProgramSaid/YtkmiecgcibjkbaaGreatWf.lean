/- Functions walked once, their results in memory of their own. Condition: the value's size is at most 1048576. -/
import Derived.Test.YtkmiecgcibjkbaaGreatEng
import Derived.Test.YtkmiecgcibjkbaaGreatTo
import Derived.Test.YtkmiecgcibjkbaaGreatCProg
import Derived.Test.YtkmiecgcibjkbaaGreatWe
namespace Go.Proofs.YtkmiecgcibjkbaaGreat
open Go.RowKit
theorem izr30Wf : (Tryz.prog.info? 30).map (·.zero) = some (some (.agg #[.slice none 0 0, .slice none 0 0])) := by kernel_rfl
theorem isz35Wf : (Tryz.prog.info? 35).map (·.size) = some 2 := by kernel_rfl
theorem isz30Wf : (Tryz.prog.info? 30).map (·.size) = some 2 := by kernel_rfl
theorem izr81Wf : (Tryz.prog.info? 81).map (·.zero) = some (some (.agg #[.int .i64 0, .slice none 0 0])) := by kernel_rfl
theorem isz81Wf : (Tryz.prog.info? 81).map (·.size) = some 2 := by kernel_rfl
theorem irw81Wf : (Tryz.prog.info? 81).map (fun i => (i.zero, i.size, i.bytes)) = some (some (.agg #[.int .i64 0, .slice none 0 0]), 2, 32) := by kernel_rfl
theorem irz81Wf : ((.agg #[.int .i64 0, .slice none 0 0]) : Value).cells.size = 2 := rfl
theorem isz27Wf : (Tryz.prog.info? 27).map (·.size) = some 1 := by kernel_rfl
set_option maxRecDepth 100000 in
set_option maxHeartbeats 4000000 in
theorem specCompileProgram_o (x : TMonoProgram) : ∀ (_ : x.sz ≤ 1048576) (w : World) (K : Nat → Prop) (_ : ∀ b, K b → b < w.heap.size) (cs : List Value) (_ : Rep w K x.enc cs),
  Calls Tryz.prog 7 #[.agg cs.toArray] w fun e w' => ∃ cs', e = .returned (.tuple #[.agg cs'.toArray, .bool (cprog x).2]) ∧ Ow w' w.heap.size w'.heap.size (cprog x).1.enc cs' ∧ Below w.heap.size w w' := by
 intro hz w K hK cs h
 have hV : Hid (Below w.heap.size w w) := Lib.hid (Below.refl _ _)
 replace hz := Lib.hid hz
 have pone := Lib.hid (Rep.one _ _ (h))
 obtain ⟨p0, p1, rfl, hpSpecializations, hpTables⟩ := TMonoProgram.opn (h)
 replace hpSpecializations := Lib.hid hpSpecializations
 replace hpTables := Lib.hid hpTables
 replace h := Lib.hid h
 obtain ⟨a1, cap2, rfl, hcp3, hcm4, -, hE5⟩ := open_sl TSpecialization.width hpSpecializations.out
 unfold maxLen at hcm4
 replace hE5 := Lib.hid hE5
 have hcm4_ : (x.fSpecializations).length ≤ 1048576 := by have h0 := (by have h0 := hz.out; rw [TMonoProgram.sz_eq] at h0; omega); unfold szs at h0; omega
 go_enter Tryz.func7, Tryz.ntmps7
 go_wp2_with (with_reducible refine e_box rfl 35 _ rfl _ rfl [.slice a1 (x.fSpecializations).length cap2, p1] rfl ?_)
 intro w6 c7 b8
 replace hV := Lib.hid (below_ch hV.out c7 (.inr (Nat.le_refl _)) hV.out.size)
 have z9 := c7.size
 clear c7
 have B10 := Lib.hid b8; have lb10 := b8.lt; clear b8
 go_wp2_with (with_reducible refine e_al rfl 30 rfl [.slice none 0 0, .slice none 0 0] izr30Wf rfl ?_)
 intro w11 c12 b13
 replace B10 := Lib.hid (B10.out.ch c12 (.inr (.inr (Nat.le_refl _))))
 replace hV := Lib.hid (below_ch hV.out c12 (.inr (Nat.le_refl _)) hV.out.size)
 have z14 := c12.size
 clear c12
 have B15 := Lib.hid b13; have lb15 := b13.lt; clear b13
 have hc16 : Cells w11 (w.heap.size) (0) [.slice a1 (x.fSpecializations).length cap2, p1] := (B10.out.cells)
 have hi17 : (Tryz.prog.info? 35).map (·.size) = some ([.slice a1 (x.fSpecializations).length cap2, p1] : List Value).length := isz35Wf
 go_wp2_with (with_reducible refine ld rfl 35 _ rfl (w.heap.size) (0) rfl [.slice a1 (x.fSpecializations).length cap2, p1] hc16 _ Tryz.underlying35 hi17 ?_)
 refine (specl39Clone_o (x) hz.out _ _ (fun b h => Nat.lt_of_lt_of_le (hK b h) hV.out.size) _ ((Rep.ext hV.out hK (h.out)))).mono ?_
 rintro e w18 ⟨cs20, rfl, o20, hB20⟩
 have d20_one := Lib.hid (Rep.one _ _ (o20.rep))
 obtain ⟨d20_0, d20_1, rfl, hd20_Specializations, hd20_Tables⟩ := TMonoProgram.opn (o20.rep)
 replace hd20_Specializations := Lib.hid hd20_Specializations
 replace hd20_Tables := Lib.hid hd20_Tables
 have X20 := Lib.hid o20; clear o20
 have c19 := Ch.of_below hB20; clear hB20
 clear hc16 hi17
 replace B10 := Lib.hid (B10.out.ch c19 (.inr (.inr (Nat.le_refl _))))
 replace B15 := Lib.hid (B15.out.ch c19 (.inr (.inr (Nat.le_refl _))))
 replace hV := Lib.hid (below_ch hV.out c19 (.inr (Nat.le_refl _)) hV.out.size)
 have z21 := c19.size
 clear c19
 have lx20 := X20.out.1
 have kf22 : ∀ W, (Go.Instr.field 35 (.agg #[d20_0, d20_1]) 1).run Tryz.prog W = .ok (d20_1) W := fun W => run_fieldE Tryz.underlying35 rfl Tryz.underlying28 rfl rfl W
 obtain ⟨a23, cap24, rfl, hcp25, hcm26, -, hE27⟩ := open_sl TMethodTable.width hd20_Tables.out
 unfold maxLen at hcm26
 replace hE27 := Lib.hid hE27
 go_wp2_with (with_reducible refine e_al rfl 30 rfl [.slice none 0 0, .slice none 0 0] izr30Wf rfl ?_)
 intro w28 c29 b30
 clear kf22
 replace B10 := Lib.hid (B10.out.ch c29 (.inr (.inr (Nat.le_refl _))))
 replace B15 := Lib.hid (B15.out.ch c29 (.inr (.inr (Nat.le_refl _))))
 replace X20 := Lib.hid (X20.out.ch c29 (.inr (.inr (Nat.le_refl _))))
 replace hV := Lib.hid (below_ch hV.out c29 (.inr (Nat.le_refl _)) hV.out.size)
 have z31 := c29.size
 clear c29
 have B32 := Lib.hid b30; have lb32 := b30.lt; clear b30
 have hi36 := Lib.hid (show (Tryz.prog.info? 30).map (·.size) = some ([.slice none 0 0, .slice a23 (x.fTables).length cap24] : List Value).length from isz30Wf)
 have hf33 := Lib.hid (show 0 + ([.slice none 0 0, .slice a23 (x.fTables).length cap24] : List Value).length ≤ ([.slice none 0 0, .slice none 0 0] : List Value).length from (by decide : 2 ≤ 2))
 have ha34 := Lib.hid (show ([.slice none 0 0, .slice none 0 0] : List Value).take 0 ++ [.slice none 0 0, .slice a23 (x.fTables).length cap24] ++ ([.slice none 0 0, .slice none 0 0] : List Value).drop (0 + ([.slice none 0 0, .slice a23 (x.fTables).length cap24] : List Value).length) = [.slice none 0 0, .slice a23 (x.fTables).length cap24] from rfl)
 have ho35 := Lib.hid (show ∀ u ∈ ([.slice none 0 0, .slice a23 (x.fTables).length cap24] : List Value), u.oneCell' = true from (one_cons rfl (one_cons rfl one_nil)))
 go_wp2_with (with_reducible refine e_st rfl 30 _ _ rfl (w18.heap.size) 0 rfl [.slice none 0 0, .slice a23 (x.fTables).length cap24] rfl hi36.out ho35.out [.slice none 0 0, .slice none 0 0] [.slice none 0 0, .slice a23 (x.fTables).length cap24] 30 B32.out hf33.out ha34.out ?_)
 intro w37 c38 b39
 replace B10 := Lib.hid (B10.out.ch c38 (by omega))
 replace B15 := Lib.hid (B15.out.ch c38 (by omega))
 replace X20 := Lib.hid (X20.out.ch c38 (by omega))
 replace hV := Lib.hid (below_ch hV.out c38 (by omega) hV.out.size)
 have z40 := c38.size
 clear c38
 replace B32 := Lib.hid b39; clear b39 hi36 hf33 ha34 ho35
 go_wp2_with fail
 have R41 := Lib.hid (Gw.nil w37 w37.heap.size 81 2 (Nat.le_refl _)); have lr41 := R41.out.1
 go_loopw [5] (fun i wr => ∃ (n : Nat) (v' : Value) (hi' : Nat), n ≤ (x.fSpecializations).length ∧ i = .int .i64 n ∧ Hid (Gw wr (w37.heap.size) hi' 81 2 ((((x.fSpecializations).take n).map (fun y => (cmpOf y).1)).map TCode.enc) v') ∧ Hid (Bx wr (w.heap.size) [.slice a1 (x.fSpecializations).length cap2, p1] 35) ∧ Hid (Bx wr (w6.heap.size) [.slice none 0 0, .slice none 0 0] 30) ∧ Hid (Bx wr (w18.heap.size) [v', .slice a23 (x.fTables).length cap24] 30) ∧ Hid (Ow wr (w11.heap.size) (w18.heap.size) (TMonoProgram.enc (x)) [d20_0, .slice a23 (x.fTables).length cap24]) ∧ Hid (Below w.heap.size w wr) ∧ w37.heap.size ≤ wr.heap.size ∧ Hid (∀ z ∈ (x.fSpecializations).take n, (cmpOf z).2 = true)) (fun i _ => (x.fSpecializations).length - (intOf i).toNat)
 case atStart => exact ⟨0, _, _, Nat.zero_le _, rfl, R41, B10, B15, B32, X20, hV, Nat.le_refl _, Lib.hid (by simp)⟩
 case round =>
  clear R41 B10 B15 B32 X20 hV
  obtain ⟨n43, v44, hi45, hn, rfl, R41, B10, B15, B32, X20, hV, z46, HE⟩ := hrel
  rename World => w42
  have lb10_w42 := B10.out.lt
  have lb15_w42 := B15.out.lt
  have lb32_w42 := B32.out.lt
  have lx20_w42 := X20.out.1
  have lr41_w42 := R41.out.1; have lr41_w42_ := R41.out.2.1
  by_cases hlt : n43 < (x.fSpecializations).length
  ·
   obtain ⟨bk47, of48, rfl, hb49, cs50, hcs51, hr52⟩ := hE5.out n43 hlt
   replace hcs51 := Lib.hid hcs51; replace hr52 := Lib.hid hr52
   have hmem : (x.fSpecializations)[n43] ∈ x.fSpecializations := List.getElem_mem hlt
   have Ht := Lib.hid (take_snoc (fun y => (cmpOf y).1) hlt)
   have Hl := Lib.hid (show ((((x.fSpecializations).take n43).map (fun y => (cmpOf y).1))).length = n43 from by simp; omega)
   have Hs := Lib.hid (show SizeOf.sizeOf (x.fSpecializations)[n43] < SizeOf.sizeOf (x.fSpecializations) from List.sizeOf_lt_of_mem hmem)
   have Hz := Lib.hid (show TSpecialization.sz (x.fSpecializations)[n43] ≤ 1048576 from (by have h1 := szL_le TSpecialization.sz hmem; have h0 := (by have h0 := hz.out; rw [TMonoProgram.sz_eq] at h0; omega); unfold szs at h0; omega))
   have Hc := Lib.hid (cmp_in hlt)
   have Hk := Lib.hid (cmp_step hlt)
   have Hf := Lib.hid (cprog_bad hlt)
   generalize (x.fSpecializations)[n43] = y52 at *
   have e52_one := Lib.hid (Rep.one _ _ (hr52.out))
   obtain ⟨e52_1, e52_2, e52_3, e52_4, e52_5, e52_6, e52_7, e52_8, e52_9, e52_10, e52_11, e52_12, e52_13, rfl, he52_Unit, he52_TypeArgs, he52_Params, he52_Body⟩ := TSpecialization.opn (hr52.out)
   replace he52_Unit := Lib.hid he52_Unit
   replace he52_TypeArgs := Lib.hid he52_TypeArgs
   replace he52_Params := Lib.hid he52_Params
   replace he52_Body := Lib.hid he52_Body
   have g53 : w42.cell? ⟨w.heap.size, 0, none⟩ = some (.slice (some ⟨bk47, of48, none⟩) (x.fSpecializations).length cap2) := B10.out.cell 0 rfl
   have hc54 : Cells w42 (w.heap.size) (0) [.slice (some ⟨bk47, of48, none⟩) (x.fSpecializations).length cap2, p1] := (B10.out.cells)
   have hi55 : (Tryz.prog.info? 35).map (·.size) = some ([.slice (some ⟨bk47, of48, none⟩) (x.fSpecializations).length cap2, p1] : List Value).length := isz35Wf
   go_wp2_with (with_reducible refine ld rfl 35 _ rfl (w.heap.size) (0) rfl [.slice (some ⟨bk47, of48, none⟩) (x.fSpecializations).length cap2, p1] hc54 _ Tryz.underlying35 hi55 ?_)
   refine (specCompileSpecialization_at (x) _ y52 Hc.out hz.out _ _ (fun b h => Nat.lt_of_lt_of_le (hK b h) hV.out.size) _ ((Rep.ext hV.out hK (h.out))) (inR_n n43 (by have := hlt; omega))).mono ?_
   rintro e w56 ⟨cs58, rfl, o58, hB58⟩
   have d58_one := Lib.hid (Rep.one _ _ (o58.rep))
   obtain ⟨d58_1, rfl, hd58_Params, hd58_List⟩ := TCode.opn (o58.rep)
   replace hd58_Params := Lib.hid hd58_Params
   replace hd58_List := Lib.hid hd58_List
   have X58 := Lib.hid o58; clear o58
   have c57 := Ch.of_below hB58; clear hB58
   clear g53 hc54 hi55
   replace B10 := Lib.hid (B10.out.ch c57 (.inr (.inr (Nat.le_refl _))))
   replace B15 := Lib.hid (B15.out.ch c57 (.inr (.inr (Nat.le_refl _))))
   replace B32 := Lib.hid (B32.out.ch c57 (.inr (.inr (Nat.le_refl _))))
   replace X20 := Lib.hid (X20.out.ch c57 (.inr (.inr (Nat.le_refl _))))
   replace R41 := Lib.hid (R41.out.ch c57 (.inr (.inr (Nat.le_refl _))))
   replace hV := Lib.hid (below_ch hV.out c57 (.inr (Nat.le_refl _)) hV.out.size)
   have z59 := c57.size
   clear c57
   have lx58 := X58.out.1
   go_wp2_with (with_reducible refine e_al rfl 81 rfl [.int .i64 0, .slice none 0 0] izr81Wf rfl ?_)
   intro w60 c61 b62
   replace B10 := Lib.hid (B10.out.ch c61 (.inr (.inr (Nat.le_refl _))))
   replace B15 := Lib.hid (B15.out.ch c61 (.inr (.inr (Nat.le_refl _))))
   replace B32 := Lib.hid (B32.out.ch c61 (.inr (.inr (Nat.le_refl _))))
   replace X20 := Lib.hid (X20.out.ch c61 (.inr (.inr (Nat.le_refl _))))
   replace X58 := Lib.hid (X58.out.ch c61 (.inr (.inr (Nat.le_refl _))))
   replace R41 := Lib.hid (R41.out.ch c61 (.inr (.inr (Nat.le_refl _))))
   replace hV := Lib.hid (below_ch hV.out c61 (.inr (Nat.le_refl _)) hV.out.size)
   have z63 := c61.size
   clear c61
   have B64 := Lib.hid b62; have lb64 := b62.lt; clear b62
   have hi68 := Lib.hid (show (Tryz.prog.info? 81).map (·.size) = some ([.int .i64 (cmpOf y52).1.fParams, d58_1] : List Value).length from isz81Wf)
   have hf65 := Lib.hid (show 0 + ([.int .i64 (cmpOf y52).1.fParams, d58_1] : List Value).length ≤ ([.int .i64 0, .slice none 0 0] : List Value).length from (by decide : 2 ≤ 2))
   have ha66 := Lib.hid (show ([.int .i64 0, .slice none 0 0] : List Value).take 0 ++ [.int .i64 (cmpOf y52).1.fParams, d58_1] ++ ([.int .i64 0, .slice none 0 0] : List Value).drop (0 + ([.int .i64 (cmpOf y52).1.fParams, d58_1] : List Value).length) = [.int .i64 (cmpOf y52).1.fParams, d58_1] from rfl)
   have ho67 := Lib.hid (show ∀ u ∈ ([.int .i64 (cmpOf y52).1.fParams, d58_1] : List Value), u.oneCell' = true from (one_cons rfl (one_cons (d58_one.out _ (by simp)) one_nil)))
   go_wp2_with (with_reducible refine e_st rfl 81 _ _ rfl (w56.heap.size) 0 rfl [.int .i64 (cmpOf y52).1.fParams, d58_1] rfl hi68.out ho67.out [.int .i64 0, .slice none 0 0] [.int .i64 (cmpOf y52).1.fParams, d58_1] 81 B64.out hf65.out ha66.out ?_)
   intro w69 c70 b71
   replace B10 := Lib.hid (B10.out.ch c70 (by omega))
   replace B15 := Lib.hid (B15.out.ch c70 (by omega))
   replace B32 := Lib.hid (B32.out.ch c70 (by omega))
   replace X20 := Lib.hid (X20.out.ch c70 (by omega))
   replace X58 := Lib.hid (X58.out.ch c70 (by omega))
   replace R41 := Lib.hid (R41.out.ch c70 (by omega))
   replace hV := Lib.hid (below_ch hV.out c70 (by omega) hV.out.size)
   have z72 := c70.size
   clear c70
   replace B64 := Lib.hid b71; clear b71 hi68 hf65 ha66 ho67
   by_cases hb73 : (cmpOf y52).2 = false
   ·
    have hb73_ : (!(cmpOf y52).2) = true := by simpa using hb73
    replace hb73 := Lib.hid hb73
    have hi77 := Lib.hid (show (Tryz.prog.info? 30).map (·.size) = some ([.slice none 0 0, .slice none 0 0] : List Value).length from isz30Wf)
    have hf74 := Lib.hid (show 0 + ([.slice none 0 0, .slice none 0 0] : List Value).length ≤ ([.slice none 0 0, .slice none 0 0] : List Value).length from (by decide : 2 ≤ 2))
    have ha75 := Lib.hid (show ([.slice none 0 0, .slice none 0 0] : List Value).take 0 ++ [.slice none 0 0, .slice none 0 0] ++ ([.slice none 0 0, .slice none 0 0] : List Value).drop (0 + ([.slice none 0 0, .slice none 0 0] : List Value).length) = [.slice none 0 0, .slice none 0 0] from rfl)
    have ho76 := Lib.hid (show ∀ u ∈ ([.slice none 0 0, .slice none 0 0] : List Value), u.oneCell' = true from (one_cons rfl (one_cons rfl one_nil)))
    go_wp2_with (with_reducible refine e_st rfl 30 _ _ rfl (w6.heap.size) 0 rfl [.slice none 0 0, .slice none 0 0] rfl hi77.out ho76.out [.slice none 0 0, .slice none 0 0] [.slice none 0 0, .slice none 0 0] 30 B15.out hf74.out ha75.out ?_)
    intro w78 c79 b80
    replace B10 := Lib.hid (B10.out.ch c79 (by omega))
    replace B32 := Lib.hid (B32.out.ch c79 (by omega))
    replace B64 := Lib.hid (B64.out.ch c79 (by omega))
    replace X20 := Lib.hid (X20.out.ch c79 (by omega))
    replace X58 := Lib.hid (X58.out.ch c79 (by omega))
    replace R41 := Lib.hid (R41.out.ch c79 (by omega))
    replace hV := Lib.hid (below_ch hV.out c79 (by omega) hV.out.size)
    have z81 := c79.size
    clear c79
    replace B15 := Lib.hid b80; clear b80 hi77 hf74 ha75 ho76
    go_wp2_with fail
    have X82 : Hid (Ow w78 (w78.heap.size) (w78.heap.size) (TMachine.enc (⟨[], []⟩ : TMachine)) [.slice none 0 0, .slice none 0 0]) := Lib.hid ((by rw [TMachine.enc_eq]; exact Ow.st (OwS.leaf (own_nil rfl (by simp [maxLen]) (by simp)) (OwS.leaf (own_nil rfl (by simp [maxLen]) (by simp)) (OwS.nil))) (by simp) (by omega)))
    have lx82 := X82.out.1
    have hiR : (Tryz.prog.info? 30).map (·.size) = some ([.slice none 0 0, .slice none 0 0] : List Value).length := isz30Wf
    (try simp only [Exit.inBlock, Exit.then])
    exact bodyPost_ret (v := .tuple #[.agg #[.slice none 0 0, .slice none 0 0], .bool false]) (run_resB Tryz.results7 (w6.heap.size) rfl [.slice none 0 0, .slice none 0 0] B15.out.cells _ Tryz.underlying30 hiR (.bool false) rfl) rfl ⟨[.slice none 0 0, .slice none 0 0], by rw [(Hf.out hb73.out)], by rw [(Hf.out hb73.out)]; exact X82.out.wide (by omega) (by omega) (Nat.le_refl _), hV.out⟩
   ·
    have hb73_ : (!(cmpOf y52).2) = false := by simpa using hb73
    replace hb73 := Lib.hid hb73
    have g83 : w69.cell? ⟨w18.heap.size, 0, none⟩ = some (v44) := B32.out.cell 0 rfl
    have hc84 : Cells w69 (w56.heap.size) (0) [.int .i64 (cmpOf y52).1.fParams, d58_1] := (B64.out.cells)
    have hi85 : (Tryz.prog.info? 81).map (·.size) = some ([.int .i64 (cmpOf y52).1.fParams, d58_1] : List Value).length := isz81Wf
    have hl89 : ([.int .i64 (cmpOf y52).1.fParams, d58_1] : List Value).length = 2 := rfl
    go_wp2_with (first | (with_reducible refine ld rfl 81 _ rfl (w56.heap.size) (0) rfl [.int .i64 (cmpOf y52).1.fParams, d58_1] hc84 _ Tryz.underlying81 hi85 ?_) | (with_reducible refine e_bs1 rfl 27 _ rfl Tryz.underlying27 irw81Wf (by decide) (by decide) _ rfl [.int .i64 (cmpOf y52).1.fParams, d58_1] rfl hl89 ?_))
    intro w86 c87 b88
    clear g83 hc84 hi85 hl89
    replace B10 := Lib.hid (B10.out.ch c87 (.inr (.inr (Nat.le_refl _))))
    replace B15 := Lib.hid (B15.out.ch c87 (.inr (.inr (Nat.le_refl _))))
    replace B32 := Lib.hid (B32.out.ch c87 (.inr (.inr (Nat.le_refl _))))
    replace B64 := Lib.hid (B64.out.ch c87 (.inr (.inr (Nat.le_refl _))))
    replace X20 := Lib.hid (X20.out.ch c87 (.inr (.inr (Nat.le_refl _))))
    replace X58 := Lib.hid (X58.out.ch c87 (.inr (.inr (Nat.le_refl _))))
    replace R41 := Lib.hid (R41.out.ch c87 (.inr (.inr (Nat.le_refl _))))
    replace hV := Lib.hid (below_ch hV.out c87 (.inr (Nat.le_refl _)) hV.out.size)
    have z90 := c87.size
    clear c87
    have B91 := Lib.hid b88; have lb91 := b88.lt; clear b88
    have hb96 : (((((x.fSpecializations).take n43).map (fun y => (cmpOf y).1))).map TCode.enc).length + 1 ≤ 1048577 := by simp only [List.length_map, List.length_take] <;> omega
    have hw97 : (TCode.enc (cmpOf y52).1).width = 2 := TCode.width _
    have hc98 := B91.out.cells
    have h6399 : (((((x.fSpecializations).take n43).map (fun y => (cmpOf y).1))).map TCode.enc).length + 1 ≤ maxLen := by unfold maxLen; omega
    have hby100 : ((((((x.fSpecializations).take n43).map (fun y => (cmpOf y).1))).map TCode.enc).length + 1) * 32 ≤ 140737488355328 := by omega
    have hd101 : w56.heap.size ≤ w37.heap.size ∨ hi45 ≤ w42.heap.size := by omega
    have hl102 : w37.heap.size ≤ w42.heap.size := by omega
    go_wp2_with (with_reducible refine e_ap rfl _ _ 27 rfl (.agg #[.int .i64 0, .slice none 0 0]) 32 Tryz.underlying27 irw81Wf irz81Wf (by decide) rfl R41.out (w69.heap.size) rfl hw97 hc98 X58.out hd101 hl102 h6399 hby100 ?_)
    intro v94 w95 hG92 c93
    clear hb96 hw97 hc98 h6399 hby100 hd101 hl102
    clear B91 lb91
    clear X58
    have hG_ : Gw w95 (w37.heap.size) w95.heap.size 81 2 (((((x.fSpecializations).take n43).map (fun y => (cmpOf y).1)) ++ [(cmpOf y52).1]).map TCode.enc) v94 := by (have h := hG92; simp only [List.map_append, List.map_take, List.map_cons, List.map_nil, List.map_map] at h ⊢; exact h)
    clear hG92
    replace B10 := Lib.hid (B10.out.ch c93 (by omega))
    replace B15 := Lib.hid (B15.out.ch c93 (by omega))
    replace B32 := Lib.hid (B32.out.ch c93 (by omega))
    replace B64 := Lib.hid (B64.out.ch c93 (by omega))
    replace X20 := Lib.hid (X20.out.ch c93 (by omega))
    replace hV := Lib.hid (below_ch hV.out c93 (by omega) hV.out.size)
    have z103 := c93.size
    clear c93
    replace R41 := Lib.hid hG_; clear hG_
    have lr41_w95 := R41.out.2.1
    have hf104 := Lib.hid (show 0 < ([v44, .slice a23 (x.fTables).length cap24] : List Value).length from (by decide : 0 < 2))
    have ha105 := Lib.hid (show ([v44, .slice a23 (x.fTables).length cap24] : List Value).take 0 ++ [v94] ++ ([v44, .slice a23 (x.fTables).length cap24] : List Value).drop (0 + 1) = [v94, .slice a23 (x.fTables).length cap24] from rfl)
    have ho106 := Lib.hid (show (v94 : Value).oneCell' = true from R41.out.one)
    go_wp2_with (with_reducible refine e_st1 rfl 27 _ _ rfl (w18.heap.size) 0 rfl (v94) rfl isz27Wf ho106.out [v44, .slice a23 (x.fTables).length cap24] [v94, .slice a23 (x.fTables).length cap24] 30 B32.out hf104.out ha105.out ?_)
    intro w107 c108 b109
    replace B10 := Lib.hid (B10.out.ch c108 (by omega))
    replace B15 := Lib.hid (B15.out.ch c108 (by omega))
    replace B64 := Lib.hid (B64.out.ch c108 (by omega))
    replace X20 := Lib.hid (X20.out.ch c108 (by omega))
    replace R41 := Lib.hid (R41.out.ch c108 (by omega))
    replace hV := Lib.hid (below_ch hV.out c108 (by omega) hV.out.size)
    have z110 := c108.size
    clear c108
    replace B32 := Lib.hid b109; clear b109 hf104 ha105 ho106
    go_wp2_with fail
    go_roundw
    case rel => exact ⟨n43 + 1, _, _, hlt, by go_num, Lib.hid (by have hR := R41.out; rw [Ht.out] at hR; exact hR), B10, B15, B32, X20, hV, by omega, Lib.hid (Hk.out (by simpa using hb73.out) HE.out)⟩
    case measure => simp [intOf]; omega
  ·
   obtain rfl : n43 = (x.fSpecializations).length := by omega
   have hR := R41.out; rw [List.take_of_length_le (Nat.le_refl _)] at hR; replace R41 := Lib.hid hR; clear hR
   have g111 : w42.cell? ⟨w.heap.size, 0, none⟩ = some (.slice a1 (x.fSpecializations).length cap2) := B10.out.cell 0 rfl
   have hc112 : Cells w42 (w18.heap.size) (0) [v44, .slice a23 (x.fTables).length cap24] := (B32.out.cells)
   have hi113 : (Tryz.prog.info? 30).map (·.size) = some ([v44, .slice a23 (x.fTables).length cap24] : List Value).length := isz30Wf
   have hi117 := Lib.hid (show (Tryz.prog.info? 30).map (·.size) = some ([v44, .slice a23 (x.fTables).length cap24] : List Value).length from isz30Wf)
   have hf114 := Lib.hid (show 0 + ([v44, .slice a23 (x.fTables).length cap24] : List Value).length ≤ ([.slice none 0 0, .slice none 0 0] : List Value).length from (by decide : 2 ≤ 2))
   have ha115 := Lib.hid (show ([.slice none 0 0, .slice none 0 0] : List Value).take 0 ++ [v44, .slice a23 (x.fTables).length cap24] ++ ([.slice none 0 0, .slice none 0 0] : List Value).drop (0 + ([v44, .slice a23 (x.fTables).length cap24] : List Value).length) = [v44, .slice a23 (x.fTables).length cap24] from rfl)
   have ho116 := Lib.hid (show ∀ u ∈ ([v44, .slice a23 (x.fTables).length cap24] : List Value), u.oneCell' = true from (one_cons R41.out.one (one_cons rfl one_nil)))
   go_wp2_with (first | (with_reducible refine ld rfl 30 _ rfl (w18.heap.size) (0) rfl [v44, .slice a23 (x.fTables).length cap24] hc112 _ Tryz.underlying30 hi113 ?_) | (with_reducible refine e_st rfl 30 _ _ rfl (w6.heap.size) 0 rfl [v44, .slice a23 (x.fTables).length cap24] rfl hi117.out ho116.out [.slice none 0 0, .slice none 0 0] [v44, .slice a23 (x.fTables).length cap24] 30 B15.out hf114.out ha115.out ?_))
   intro w118 c119 b120
   clear g111 hc112 hi113
   replace B10 := Lib.hid (B10.out.ch c119 (by omega))
   replace B32 := Lib.hid (B32.out.ch c119 (by omega))
   replace X20 := Lib.hid (X20.out.ch c119 (by omega))
   replace R41 := Lib.hid (R41.out.ch c119 (by omega))
   replace hV := Lib.hid (below_ch hV.out c119 (by omega) hV.out.size)
   have z121 := c119.size
   clear c119
   replace B15 := Lib.hid b120; clear b120 hi117 hf114 ha115 ho116
   go_wp2_with fail
   obtain ⟨a41, p41, hv41, o41⟩ := R41.out.ow; rw [List.length_map] at hv41 o41; subst hv41
   have X41 := Lib.hid o41; have lx41 := o41.1; clear o41 R41
   have k122 := X20.out; rw [TMonoProgram.enc_eq] at k122
   have X123 : Hid (Ow w118 (w11.heap.size) (w18.heap.size) (.sl ((x.fTables).map TMethodTable.enc)) [.slice a23 (x.fTables).length cap24]) := Lib.hid ((ow_cut (c1 := [.slice a23 (x.fTables).length cap24]) (c2 := []) rfl (ow_cut (c1 := [d20_0]) (c2 := [.slice a23 (x.fTables).length cap24]) rfl k122).2).1)
   have lx123 := X123.out.1; clear k122
   have X124 : Hid (Ow w118 (w11.heap.size) (w118.heap.size) (TMachine.enc (⟨((x.fSpecializations).map (fun y => (cmpOf y).1)), x.fTables⟩ : TMachine)) [.slice a41 (x.fSpecializations).length p41, .slice a23 (x.fTables).length cap24]) := Lib.hid ((by rw [TMachine.enc_eq]; exact Ow.st (OwS.cons (c1 := [.slice a41 (x.fSpecializations).length p41]) (c2 := [.slice a23 (x.fTables).length cap24]) (X41.out) (OwS.cons (c1 := [.slice a23 (x.fTables).length cap24]) (c2 := []) (X123.out) (OwS.nil) (by simp)) (by intro p hp; simp only [List.mem_cons, List.not_mem_nil, or_false] at hp; subst hp <;> (show _ ≤ _ ∨ _ ≤ _; omega))) (by intro p hp; simp only [List.mem_cons, List.not_mem_nil, or_false] at hp; rcases hp with rfl | rfl <;> (show _ ≤ _ ∧ _ ≤ _; omega)) (by omega)))
   have lx124 := X124.out.1
   have hiR : (Tryz.prog.info? 30).map (·.size) = some ([.slice a41 (x.fSpecializations).length p41, .slice a23 (x.fTables).length cap24] : List Value).length := isz30Wf
   (try simp only [Exit.inBlock, Exit.then])
   exact bodyPost_ret (v := .tuple #[.agg #[.slice a41 (x.fSpecializations).length p41, .slice a23 (x.fTables).length cap24], .bool true]) (run_resB Tryz.results7 (w6.heap.size) rfl [.slice a41 (x.fSpecializations).length p41, .slice a23 (x.fTables).length cap24] B15.out.cells _ Tryz.underlying30 hiR (.bool true) rfl) rfl ⟨[.slice a41 (x.fSpecializations).length p41, .slice a23 (x.fTables).length cap24], by rw [(cprog_ok HE.out)], by rw [(cprog_ok HE.out)]; exact X124.out.wide (by omega) (by omega) (Nat.le_refl _), hV.out⟩
end Go.Proofs.YtkmiecgcibjkbaaGreat
