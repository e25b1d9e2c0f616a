/- Functions walked once, their results in memory of their own. Condition: the value's size is at most 1048576. -/
import Derived.Test.YtkmiecgcibjkbaaGreatEng
import Derived.Test.YtkmiecgcibjkbaaGreatTo
import Derived.Test.YtkmiecgcibjkbaaGreatCProg
import Derived.Test.YtkmiecgcibjkbaaGreatWg
namespace Go.Proofs.YtkmiecgcibjkbaaGreat
open Go.RowKit
theorem izr30Wh : (Tryz.prog.info? 30).map (·.zero) = some (some (.agg #[.slice none 0 0, .slice none 0 0])) := by kernel_rfl
theorem isz30Wh : (Tryz.prog.info? 30).map (·.size) = some 2 := by kernel_rfl
theorem isz35Wh : (Tryz.prog.info? 35).map (·.size) = some 2 := by kernel_rfl
theorem izr81Wh : (Tryz.prog.info? 81).map (·.zero) = some (some (.agg #[.int .i64 0, .slice none 0 0])) := by kernel_rfl
theorem isz81Wh : (Tryz.prog.info? 81).map (·.size) = some 2 := by kernel_rfl
theorem irw81Wh : (Tryz.prog.info? 81).map (fun i => (i.zero, i.size, i.bytes)) = some (some (.agg #[.int .i64 0, .slice none 0 0]), 2, 32) := by kernel_rfl
theorem irz81Wh : ((.agg #[.int .i64 0, .slice none 0 0]) : Value).cells.size = 2 := rfl
theorem isz27Wh : (Tryz.prog.info? 27).map (·.size) = some 1 := by kernel_rfl
theorem isz91Wh : (Tryz.prog.info? 91).map (·.size) = some 5 := by kernel_rfl
theorem izr91Wh : (Tryz.prog.info? 91).map (·.zero) = some (some (.agg #[.string ⟨#[]⟩, .int .i64 0, .string ⟨#[]⟩, .slice none 0 0, .slice none 0 0])) := by kernel_rfl
theorem isz88Wh : (Tryz.prog.info? 88).map (·.size) = some 3 := by kernel_rfl
theorem irw91Wh : (Tryz.prog.info? 91).map (fun i => (i.zero, i.size, i.bytes)) = some (some (.agg #[.string ⟨#[]⟩, .int .i64 0, .string ⟨#[]⟩, .slice none 0 0, .slice none 0 0]), 5, 88) := by kernel_rfl
theorem irz91Wh : ((.agg #[.string ⟨#[]⟩, .int .i64 0, .string ⟨#[]⟩, .slice none 0 0, .slice none 0 0]) : Value).cells.size = 5 := rfl
theorem isz28Wh : (Tryz.prog.info? 28).map (·.size) = some 1 := by kernel_rfl
theorem implcopyType_o (x : TType) : ∀ (_ : x.sz ≤ 1048576) (w : World) (K : Nat → Prop) (_ : ∀ b, K b → b < w.heap.size) (cs : List Value) (_ : Rep w K x.enc cs),
  Calls Tryz.prog 40 #[.agg cs.toArray] w fun e w' => ∃ cs', e = .returned (.agg cs'.toArray) ∧ Ow w' w.heap.size w'.heap.size x.enc cs' ∧ Below w.heap.size w w' := fun hz w K hK cs h => (implcopyType_c x hz w K hK cs h).mono fun _ _ ⟨cs', _, h1, h2, h3, h4, h5⟩ => ⟨cs', h1, ow_of h2 h3 h4, h5⟩
theorem slicesClone_implMethodEntry_implMethodEntry_o (l : List TMethodEntry) : ∀ (_ : szs TMethodEntry.sz l ≤ 1048576) (w : World) (K : Nat → Prop) (_ : ∀ b, K b → b < w.heap.size) (v : Value) (_ : Rep w K (.sl (l.map TMethodEntry.enc)) [v]),
  Calls Tryz.prog 41 #[v] w fun e w' => ∃ a cap, e = .returned (.slice a l.length cap) ∧ Ow w' w.heap.size w'.heap.size (.sl (l.map TMethodEntry.enc)) [.slice a l.length cap] ∧ Below w.heap.size w w' := fun hz w K hK v h => (slicesClone_implMethodEntry_implMethodEntry_c l hz w K hK v h).mono fun _ _ ⟨a, p, _, h1, h2, h3, h4, h5⟩ => ⟨a, p, h1, ow_of h2 h3 h4, h5⟩
set_option maxRecDepth 100000 in
set_option maxHeartbeats 4000000 in
theorem implCompileProgram_o (x : TMonoProgram) : ∀ (_ : x.sz ≤ 1048576) (w : World) (K : Nat → Prop) (_ : ∀ b, K b → b < w.heap.size) (cs : List Value) (_ : Rep w K x.enc cs),
  Calls Tryz.prog 9 #[.agg cs.toArray] w fun e w' => ∃ cs', e = .returned (.tuple #[.agg cs'.toArray, .bool (cprog x).2]) ∧ Ow w' w.heap.size w'.heap.size (cprog x).1.enc cs' ∧ Below w.heap.size w w' := by
 intro hz w K hK cs h
 have hV : Hid (Below w.heap.size w w) := Lib.hid (Below.refl _ _)
 replace hz := Lib.hid hz
 have pone := Lib.hid (Rep.one _ _ (h))
 obtain ⟨p0, p1, rfl, hpSpecializations, hpTables⟩ := TMonoProgram.opn (h)
 replace hpSpecializations := Lib.hid hpSpecializations
 replace hpTables := Lib.hid hpTables
 replace h := Lib.hid h
 obtain ⟨a1, cap2, rfl, hcp3, hcm4, -, hE5⟩ := open_sl TSpecialization.width hpSpecializations.out
 unfold maxLen at hcm4
 replace hE5 := Lib.hid hE5
 have hcm4_ : (x.fSpecializations).length ≤ 1048576 := by have h0 := (by have h0 := hz.out; rw [TMonoProgram.sz_eq] at h0; omega); unfold szs at h0; omega
 obtain ⟨a6, cap7, rfl, hcp8, hcm9, -, hE10⟩ := open_sl TMethodTable.width hpTables.out
 unfold maxLen at hcm9
 replace hE10 := Lib.hid hE10
 have hcm9_ : (x.fTables).length ≤ 1048576 := by have h0 := (by have h0 := hz.out; rw [TMonoProgram.sz_eq] at h0; omega); unfold szs at h0; omega
 go_enter Tryz.func9, Tryz.ntmps9
 go_wp2_with (with_reducible refine e_box rfl 35 _ rfl _ rfl [.slice a1 (x.fSpecializations).length cap2, .slice a6 (x.fTables).length cap7] rfl ?_)
 intro w11 c12 b13
 replace hV := Lib.hid (below_ch hV.out c12 (.inr (Nat.le_refl _)) hV.out.size)
 have z14 := c12.size
 clear c12
 have B15 := Lib.hid b13; have lb15 := b13.lt; clear b13
 go_wp2_with (with_reducible refine e_al rfl 30 rfl [.slice none 0 0, .slice none 0 0] izr30Wh rfl ?_)
 intro w16 c17 b18
 replace B15 := Lib.hid (B15.out.ch c17 (.inr (.inr (Nat.le_refl _))))
 replace hV := Lib.hid (below_ch hV.out c17 (.inr (Nat.le_refl _)) hV.out.size)
 have z19 := c17.size
 clear c17
 have B20 := Lib.hid b18; have lb20 := b18.lt; clear b18
 go_wp2_with (with_reducible refine e_al rfl 30 rfl [.slice none 0 0, .slice none 0 0] izr30Wh rfl ?_)
 intro w21 c22 b23
 replace B15 := Lib.hid (B15.out.ch c22 (.inr (.inr (Nat.le_refl _))))
 replace B20 := Lib.hid (B20.out.ch c22 (.inr (.inr (Nat.le_refl _))))
 replace hV := Lib.hid (below_ch hV.out c22 (.inr (Nat.le_refl _)) hV.out.size)
 have z24 := c22.size
 clear c22
 have B25 := Lib.hid b23; have lb25 := b23.lt; clear b23
 have hi29 := Lib.hid (show (Tryz.prog.info? 30).map (·.size) = some ([.slice none 0 0, .slice none 0 0] : List Value).length from isz30Wh)
 have hf26 := Lib.hid (show 0 + ([.slice none 0 0, .slice none 0 0] : List Value).length ≤ ([.slice none 0 0, .slice none 0 0] : List Value).length from (by decide : 2 ≤ 2))
 have ha27 := Lib.hid (show ([.slice none 0 0, .slice none 0 0] : List Value).take 0 ++ [.slice none 0 0, .slice none 0 0] ++ ([.slice none 0 0, .slice none 0 0] : List Value).drop (0 + ([.slice none 0 0, .slice none 0 0] : List Value).length) = [.slice none 0 0, .slice none 0 0] from rfl)
 have ho28 := Lib.hid (show ∀ u ∈ ([.slice none 0 0, .slice none 0 0] : List Value), u.oneCell' = true from (one_cons rfl (one_cons rfl one_nil)))
 go_wp2_with (with_reducible refine e_st rfl 30 _ _ rfl (w16.heap.size) 0 rfl [.slice none 0 0, .slice none 0 0] rfl hi29.out ho28.out [.slice none 0 0, .slice none 0 0] [.slice none 0 0, .slice none 0 0] 30 B25.out hf26.out ha27.out ?_)
 intro w30 c31 b32
 replace B15 := Lib.hid (B15.out.ch c31 (by omega))
 replace B20 := Lib.hid (B20.out.ch c31 (by omega))
 replace hV := Lib.hid (below_ch hV.out c31 (by omega) hV.out.size)
 have z33 := c31.size
 clear c31
 replace B25 := Lib.hid b32; clear b32 hi29 hf26 ha27 ho28
 have g34 : w30.cell? ⟨w.heap.size, 0, none⟩ = some (.slice a1 (x.fSpecializations).length cap2) := B15.out.cell 0 rfl
 go_wp2_with fail
 have R35 := Lib.hid (Gw.nil w30 w30.heap.size 81 2 (Nat.le_refl _)); have lr35 := R35.out.1
 go_loopw [14] (fun i wr => ∃ (n : Nat) (v' : Value) (hi' : Nat), n ≤ (x.fSpecializations).length ∧ i = .int .i64 n ∧ Hid (Gw wr (w30.heap.size) hi' 81 2 ((((x.fSpecializations).take n).map (fun y => (cmpOf y).1)).map TCode.enc) v') ∧ Hid (Bx wr (w.heap.size) [.slice a1 (x.fSpecializations).length cap2, .slice a6 (x.fTables).length cap7] 35) ∧ Hid (Bx wr (w11.heap.size) [.slice none 0 0, .slice none 0 0] 30) ∧ Hid (Bx wr (w16.heap.size) [v', .slice none 0 0] 30) ∧ Hid (Below w.heap.size w wr) ∧ w30.heap.size ≤ wr.heap.size ∧ Hid (∀ z ∈ (x.fSpecializations).take n, (cmpOf z).2 = true)) (fun i _ => (x.fSpecializations).length - (intOf i).toNat)
 case atStart => exact ⟨0, _, _, Nat.zero_le _, rfl, R35, B15, B20, B25, hV, Nat.le_refl _, Lib.hid (by simp)⟩
 case round =>
  clear g34
  clear R35 B15 B20 B25 hV
  obtain ⟨n37, v38, hi39, hn, rfl, R35, B15, B20, B25, hV, z40, HE⟩ := hrel
  rename World => w36
  have lb15_w36 := B15.out.lt
  have lb20_w36 := B20.out.lt
  have lb25_w36 := B25.out.lt
  have lr35_w36 := R35.out.1; have lr35_w36_ := R35.out.2.1
  by_cases hlt : n37 < (x.fSpecializations).length
  ·
   obtain ⟨bk41, of42, rfl, hb43, cs44, hcs45, hr46⟩ := hE5.out n37 hlt
   replace hcs45 := Lib.hid hcs45; replace hr46 := Lib.hid hr46
   have hmem : (x.fSpecializations)[n37] ∈ x.fSpecializations := List.getElem_mem hlt
   have Ht := Lib.hid (take_snoc (fun y => (cmpOf y).1) hlt)
   have Hl := Lib.hid (show ((((x.fSpecializations).take n37).map (fun y => (cmpOf y).1))).length = n37 from by simp; omega)
   have Hs := Lib.hid (show SizeOf.sizeOf (x.fSpecializations)[n37] < SizeOf.sizeOf (x.fSpecializations) from List.sizeOf_lt_of_mem hmem)
   have Hz := Lib.hid (show TSpecialization.sz (x.fSpecializations)[n37] ≤ 1048576 from (by have h1 := szL_le TSpecialization.sz hmem; have h0 := (by have h0 := hz.out; rw [TMonoProgram.sz_eq] at h0; omega); unfold szs at h0; omega))
   have Hc := Lib.hid (cmp_in hlt)
   have Hk := Lib.hid (cmp_step hlt)
   have Hf := Lib.hid (cprog_bad hlt)
   generalize (x.fSpecializations)[n37] = y46 at *
   have e46_one := Lib.hid (Rep.one _ _ (hr46.out))
   obtain ⟨e46_1, e46_2, e46_3, e46_4, e46_5, e46_6, e46_7, e46_8, e46_9, e46_10, e46_11, e46_12, e46_13, rfl, he46_Unit, he46_TypeArgs, he46_Params, he46_Body⟩ := TSpecialization.opn (hr46.out)
   replace he46_Unit := Lib.hid he46_Unit
   replace he46_TypeArgs := Lib.hid he46_TypeArgs
   replace he46_Params := Lib.hid he46_Params
   replace he46_Body := Lib.hid he46_Body
   have hc47 : Cells w36 (w.heap.size) (0) [.slice (some ⟨bk41, of42, none⟩) (x.fSpecializations).length cap2, .slice a6 (x.fTables).length cap7] := (B15.out.cells)
   have hi48 : (Tryz.prog.info? 35).map (·.size) = some ([.slice (some ⟨bk41, of42, none⟩) (x.fSpecializations).length cap2, .slice a6 (x.fTables).length cap7] : List Value).length := isz35Wh
   go_wp2_with (with_reducible refine ld rfl 35 _ rfl (w.heap.size) (0) rfl [.slice (some ⟨bk41, of42, none⟩) (x.fSpecializations).length cap2, .slice a6 (x.fTables).length cap7] hc47 _ Tryz.underlying35 hi48 ?_)
   refine (implCompileSpecialization_at (x) _ y46 Hc.out hz.out _ _ (fun b h => Nat.lt_of_lt_of_le (hK b h) hV.out.size) _ ((Rep.ext hV.out hK (h.out))) (inR_n n37 (by have := hlt; omega))).mono ?_
   rintro e w49 ⟨cs51, rfl, o51, hB51⟩
   have d51_one := Lib.hid (Rep.one _ _ (o51.rep))
   obtain ⟨d51_1, rfl, hd51_Params, hd51_List⟩ := TCode.opn (o51.rep)
   replace hd51_Params := Lib.hid hd51_Params
   replace hd51_List := Lib.hid hd51_List
   have X51 := Lib.hid o51; clear o51
   have c50 := Ch.of_below hB51; clear hB51
   clear hc47 hi48
   replace B15 := Lib.hid (B15.out.ch c50 (.inr (.inr (Nat.le_refl _))))
   replace B20 := Lib.hid (B20.out.ch c50 (.inr (.inr (Nat.le_refl _))))
   replace B25 := Lib.hid (B25.out.ch c50 (.inr (.inr (Nat.le_refl _))))
   replace R35 := Lib.hid (R35.out.ch c50 (.inr (.inr (Nat.le_refl _))))
   replace hV := Lib.hid (below_ch hV.out c50 (.inr (Nat.le_refl _)) hV.out.size)
   have z52 := c50.size
   clear c50
   have lx51 := X51.out.1
   go_wp2_with (with_reducible refine e_al rfl 81 rfl [.int .i64 0, .slice none 0 0] izr81Wh rfl ?_)
   intro w53 c54 b55
   replace B15 := Lib.hid (B15.out.ch c54 (.inr (.inr (Nat.le_refl _))))
   replace B20 := Lib.hid (B20.out.ch c54 (.inr (.inr (Nat.le_refl _))))
   replace B25 := Lib.hid (B25.out.ch c54 (.inr (.inr (Nat.le_refl _))))
   replace X51 := Lib.hid (X51.out.ch c54 (.inr (.inr (Nat.le_refl _))))
   replace R35 := Lib.hid (R35.out.ch c54 (.inr (.inr (Nat.le_refl _))))
   replace hV := Lib.hid (below_ch hV.out c54 (.inr (Nat.le_refl _)) hV.out.size)
   have z56 := c54.size
   clear c54
   have B57 := Lib.hid b55; have lb57 := b55.lt; clear b55
   have hi61 := Lib.hid (show (Tryz.prog.info? 81).map (·.size) = some ([.int .i64 (cmpOf y46).1.fParams, d51_1] : List Value).length from isz81Wh)
   have hf58 := Lib.hid (show 0 + ([.int .i64 (cmpOf y46).1.fParams, d51_1] : List Value).length ≤ ([.int .i64 0, .slice none 0 0] : List Value).length from (by decide : 2 ≤ 2))
   have ha59 := Lib.hid (show ([.int .i64 0, .slice none 0 0] : List Value).take 0 ++ [.int .i64 (cmpOf y46).1.fParams, d51_1] ++ ([.int .i64 0, .slice none 0 0] : List Value).drop (0 + ([.int .i64 (cmpOf y46).1.fParams, d51_1] : List Value).length) = [.int .i64 (cmpOf y46).1.fParams, d51_1] from rfl)
   have ho60 := Lib.hid (show ∀ u ∈ ([.int .i64 (cmpOf y46).1.fParams, d51_1] : List Value), u.oneCell' = true from (one_cons rfl (one_cons (d51_one.out _ (by simp)) one_nil)))
   go_wp2_with (with_reducible refine e_st rfl 81 _ _ rfl (w49.heap.size) 0 rfl [.int .i64 (cmpOf y46).1.fParams, d51_1] rfl hi61.out ho60.out [.int .i64 0, .slice none 0 0] [.int .i64 (cmpOf y46).1.fParams, d51_1] 81 B57.out hf58.out ha59.out ?_)
   intro w62 c63 b64
   replace B15 := Lib.hid (B15.out.ch c63 (by omega))
   replace B20 := Lib.hid (B20.out.ch c63 (by omega))
   replace B25 := Lib.hid (B25.out.ch c63 (by omega))
   replace X51 := Lib.hid (X51.out.ch c63 (by omega))
   replace R35 := Lib.hid (R35.out.ch c63 (by omega))
   replace hV := Lib.hid (below_ch hV.out c63 (by omega) hV.out.size)
   have z65 := c63.size
   clear c63
   replace B57 := Lib.hid b64; clear b64 hi61 hf58 ha59 ho60
   by_cases hb66 : (cmpOf y46).2 = false
   ·
    have hb66_ : (!(cmpOf y46).2) = true := by simpa using hb66
    replace hb66 := Lib.hid hb66
    have hi70 := Lib.hid (show (Tryz.prog.info? 30).map (·.size) = some ([.slice none 0 0, .slice none 0 0] : List Value).length from isz30Wh)
    have hf67 := Lib.hid (show 0 + ([.slice none 0 0, .slice none 0 0] : List Value).length ≤ ([.slice none 0 0, .slice none 0 0] : List Value).length from (by decide : 2 ≤ 2))
    have ha68 := Lib.hid (show ([.slice none 0 0, .slice none 0 0] : List Value).take 0 ++ [.slice none 0 0, .slice none 0 0] ++ ([.slice none 0 0, .slice none 0 0] : List Value).drop (0 + ([.slice none 0 0, .slice none 0 0] : List Value).length) = [.slice none 0 0, .slice none 0 0] from rfl)
    have ho69 := Lib.hid (show ∀ u ∈ ([.slice none 0 0, .slice none 0 0] : List Value), u.oneCell' = true from (one_cons rfl (one_cons rfl one_nil)))
    go_wp2_with (with_reducible refine e_st rfl 30 _ _ rfl (w11.heap.size) 0 rfl [.slice none 0 0, .slice none 0 0] rfl hi70.out ho69.out [.slice none 0 0, .slice none 0 0] [.slice none 0 0, .slice none 0 0] 30 B20.out hf67.out ha68.out ?_)
    intro w71 c72 b73
    replace B15 := Lib.hid (B15.out.ch c72 (by omega))
    replace B25 := Lib.hid (B25.out.ch c72 (by omega))
    replace B57 := Lib.hid (B57.out.ch c72 (by omega))
    replace X51 := Lib.hid (X51.out.ch c72 (by omega))
    replace R35 := Lib.hid (R35.out.ch c72 (by omega))
    replace hV := Lib.hid (below_ch hV.out c72 (by omega) hV.out.size)
    have z74 := c72.size
    clear c72
    replace B20 := Lib.hid b73; clear b73 hi70 hf67 ha68 ho69
    go_wp2_with fail
    have X75 : Hid (Ow w71 (w71.heap.size) (w71.heap.size) (TMachine.enc (⟨[], []⟩ : TMachine)) [.slice none 0 0, .slice none 0 0]) := Lib.hid ((by rw [TMachine.enc_eq]; exact Ow.st (OwS.leaf (own_nil rfl (by simp [maxLen]) (by simp)) (OwS.leaf (own_nil rfl (by simp [maxLen]) (by simp)) (OwS.nil))) (by simp) (by omega)))
    have lx75 := X75.out.1
    have hiR : (Tryz.prog.info? 30).map (·.size) = some ([.slice none 0 0, .slice none 0 0] : List Value).length := isz30Wh
    (try simp only [Exit.inBlock, Exit.then])
    exact bodyPost_ret (v := .tuple #[.agg #[.slice none 0 0, .slice none 0 0], .bool false]) (run_resB Tryz.results9 (w11.heap.size) rfl [.slice none 0 0, .slice none 0 0] B20.out.cells _ Tryz.underlying30 hiR (.bool false) rfl) rfl ⟨[.slice none 0 0, .slice none 0 0], by rw [(Hf.out hb66.out)], by rw [(Hf.out hb66.out)]; exact X75.out.wide (by omega) (by omega) (Nat.le_refl _), hV.out⟩
   ·
    have hb66_ : (!(cmpOf y46).2) = false := by simpa using hb66
    replace hb66 := Lib.hid hb66
    have g76 : w62.cell? ⟨w16.heap.size, 0, none⟩ = some (v38) := B25.out.cell 0 rfl
    have hc77 : Cells w62 (w49.heap.size) (0) [.int .i64 (cmpOf y46).1.fParams, d51_1] := (B57.out.cells)
    have hi78 : (Tryz.prog.info? 81).map (·.size) = some ([.int .i64 (cmpOf y46).1.fParams, d51_1] : List Value).length := isz81Wh
    have hl82 : ([.int .i64 (cmpOf y46).1.fParams, d51_1] : List Value).length = 2 := rfl
    go_wp2_with (first | (with_reducible refine ld rfl 81 _ rfl (w49.heap.size) (0) rfl [.int .i64 (cmpOf y46).1.fParams, d51_1] hc77 _ Tryz.underlying81 hi78 ?_) | (with_reducible refine e_bs1 rfl 27 _ rfl Tryz.underlying27 irw81Wh (by decide) (by decide) _ rfl [.int .i64 (cmpOf y46).1.fParams, d51_1] rfl hl82 ?_))
    intro w79 c80 b81
    clear g76 hc77 hi78 hl82
    replace B15 := Lib.hid (B15.out.ch c80 (.inr (.inr (Nat.le_refl _))))
    replace B20 := Lib.hid (B20.out.ch c80 (.inr (.inr (Nat.le_refl _))))
    replace B25 := Lib.hid (B25.out.ch c80 (.inr (.inr (Nat.le_refl _))))
    replace B57 := Lib.hid (B57.out.ch c80 (.inr (.inr (Nat.le_refl _))))
    replace X51 := Lib.hid (X51.out.ch c80 (.inr (.inr (Nat.le_refl _))))
    replace R35 := Lib.hid (R35.out.ch c80 (.inr (.inr (Nat.le_refl _))))
    replace hV := Lib.hid (below_ch hV.out c80 (.inr (Nat.le_refl _)) hV.out.size)
    have z83 := c80.size
    clear c80
    have B84 := Lib.hid b81; have lb84 := b81.lt; clear b81
    have hb89 : (((((x.fSpecializations).take n37).map (fun y => (cmpOf y).1))).map TCode.enc).length + 1 ≤ 1048577 := by simp only [List.length_map, List.length_take] <;> omega
    have hw90 : (TCode.enc (cmpOf y46).1).width = 2 := TCode.width _
    have hc91 := B84.out.cells
    have h6392 : (((((x.fSpecializations).take n37).map (fun y => (cmpOf y).1))).map TCode.enc).length + 1 ≤ maxLen := by unfold maxLen; omega
    have hby93 : ((((((x.fSpecializations).take n37).map (fun y => (cmpOf y).1))).map TCode.enc).length + 1) * 32 ≤ 140737488355328 := by omega
    have hd94 : w49.heap.size ≤ w30.heap.size ∨ hi39 ≤ w36.heap.size := by omega
    have hl95 : w30.heap.size ≤ w36.heap.size := by omega
    go_wp2_with (with_reducible refine e_ap rfl _ _ 27 rfl (.agg #[.int .i64 0, .slice none 0 0]) 32 Tryz.underlying27 irw81Wh irz81Wh (by decide) rfl R35.out (w62.heap.size) rfl hw90 hc91 X51.out hd94 hl95 h6392 hby93 ?_)
    intro v87 w88 hG85 c86
    clear hb89 hw90 hc91 h6392 hby93 hd94 hl95
    clear B84 lb84
    clear X51
    have hG_ : Gw w88 (w30.heap.size) w88.heap.size 81 2 (((((x.fSpecializations).take n37).map (fun y => (cmpOf y).1)) ++ [(cmpOf y46).1]).map TCode.enc) v87 := by (have h := hG85; simp only [List.map_append, List.map_take, List.map_cons, List.map_nil, List.map_map] at h ⊢; exact h)
    clear hG85
    replace B15 := Lib.hid (B15.out.ch c86 (by omega))
    replace B20 := Lib.hid (B20.out.ch c86 (by omega))
    replace B25 := Lib.hid (B25.out.ch c86 (by omega))
    replace B57 := Lib.hid (B57.out.ch c86 (by omega))
    replace hV := Lib.hid (below_ch hV.out c86 (by omega) hV.out.size)
    have z96 := c86.size
    clear c86
    replace R35 := Lib.hid hG_; clear hG_
    have lr35_w88 := R35.out.2.1
    have hf97 := Lib.hid (show 0 < ([v38, .slice none 0 0] : List Value).length from (by decide : 0 < 2))
    have ha98 := Lib.hid (show ([v38, .slice none 0 0] : List Value).take 0 ++ [v87] ++ ([v38, .slice none 0 0] : List Value).drop (0 + 1) = [v87, .slice none 0 0] from rfl)
    have ho99 := Lib.hid (show (v87 : Value).oneCell' = true from R35.out.one)
    go_wp2_with (with_reducible refine e_st1 rfl 27 _ _ rfl (w16.heap.size) 0 rfl (v87) rfl isz27Wh ho99.out [v38, .slice none 0 0] [v87, .slice none 0 0] 30 B25.out hf97.out ha98.out ?_)
    intro w100 c101 b102
    replace B15 := Lib.hid (B15.out.ch c101 (by omega))
    replace B20 := Lib.hid (B20.out.ch c101 (by omega))
    replace B57 := Lib.hid (B57.out.ch c101 (by omega))
    replace R35 := Lib.hid (R35.out.ch c101 (by omega))
    replace hV := Lib.hid (below_ch hV.out c101 (by omega) hV.out.size)
    have z103 := c101.size
    clear c101
    replace B25 := Lib.hid b102; clear b102 hf97 ha98 ho99
    go_wp2_with fail
    go_roundw
    case rel => exact ⟨n37 + 1, _, _, hlt, by go_num, Lib.hid (by have hR := R35.out; rw [Ht.out] at hR; exact hR), B15, B20, B25, hV, by omega, Lib.hid (Hk.out (by simpa using hb66.out) HE.out)⟩
    case measure => simp [intOf]; omega
  ·
   obtain rfl : n37 = (x.fSpecializations).length := by omega
   have hR := R35.out; rw [List.take_of_length_le (Nat.le_refl _)] at hR; replace R35 := Lib.hid hR; clear hR
   have g104 : w36.cell? ⟨w.heap.size, 1, none⟩ = some (.slice a6 (x.fTables).length cap7) := B15.out.cell 1 rfl
   go_wp2_with fail
   have R105 := Lib.hid (Gw.nil w36 w36.heap.size 91 5 (Nat.le_refl _)); have lr105 := R105.out.1
   obtain ⟨a35, p35, hv35, o35⟩ := R35.out.ow; rw [List.length_map] at hv35 o35; subst hv35
   have X35 := Lib.hid o35; have lx35 := o35.1; clear o35 R35
   go_loopw [36] (fun i wr => ∃ (n : Nat) (v' : Value) (hi' : Nat), n ≤ (x.fTables).length ∧ i = .int .i64 n ∧ Hid (Gw wr (w36.heap.size) hi' 91 5 (((x.fTables).take n).map TMethodTable.enc) v') ∧ Hid (Bx wr (w.heap.size) [.slice a1 (x.fSpecializations).length cap2, .slice a6 (x.fTables).length cap7] 35) ∧ Hid (Bx wr (w11.heap.size) [.slice none 0 0, .slice none 0 0] 30) ∧ Hid (Bx wr (w16.heap.size) [.slice a35 (x.fSpecializations).length p35, v'] 30) ∧ Hid (Ow wr (w30.heap.size) (hi39) (.sl ((((x.fSpecializations).map (fun y => (cmpOf y).1))).map TCode.enc)) [.slice a35 (x.fSpecializations).length p35]) ∧ Hid (Below w.heap.size w wr) ∧ w36.heap.size ≤ wr.heap.size) (fun i _ => (x.fTables).length - (intOf i).toNat)
   case atStart => exact ⟨0, _, _, Nat.zero_le _, rfl, R105, B15, B20, B25, X35, hV, Nat.le_refl _⟩
   case round =>
    clear g104
    clear R105 B15 B20 B25 X35 hV
    obtain ⟨n107, v108, hi109, hn, rfl, R105, B15, B20, B25, X35, hV, z110⟩ := hrel
    rename World => w106
    have lb15_w106 := B15.out.lt
    have lb20_w106 := B20.out.lt
    have lb25_w106 := B25.out.lt
    have lx35_w106 := X35.out.1
    have lr105_w106 := R105.out.1; have lr105_w106_ := R105.out.2.1
    by_cases hlt : n107 < (x.fTables).length
    ·
     obtain ⟨bk111, of112, rfl, hb113, cs114, hcs115, hr116⟩ := hE10.out n107 hlt
     replace hcs115 := Lib.hid hcs115; replace hr116 := Lib.hid hr116
     have hmem : (x.fTables)[n107] ∈ x.fTables := List.getElem_mem hlt
     have Ht := Lib.hid (take_snoc (fun y => y) hlt)
     have Hl := Lib.hid (show (((x.fTables).take n107)).length = n107 from by simp; omega)
     have Hs := Lib.hid (show SizeOf.sizeOf (x.fTables)[n107] < SizeOf.sizeOf (x.fTables) from List.sizeOf_lt_of_mem hmem)
     have Hz := Lib.hid (show TMethodTable.sz (x.fTables)[n107] ≤ 1048576 from (by have h1 := szL_le TMethodTable.sz hmem; have h0 := (by have h0 := hz.out; rw [TMonoProgram.sz_eq] at h0; omega); unfold szs at h0; omega))
     generalize (x.fTables)[n107] = y116 at *
     have e116_one := Lib.hid (Rep.one _ _ (hr116.out))
     obtain ⟨e116_1, e116_2, e116_3, e116_4, rfl, he116_Trait, he116_Type, he116_Entries⟩ := TMethodTable.opn (hr116.out)
     replace he116_Trait := Lib.hid he116_Trait
     replace he116_Type := Lib.hid he116_Type
     replace he116_Entries := Lib.hid he116_Entries
     have hc117 : Cells w106 (bk111) (of112 + n107 * 5) [.string y116.fTrait, e116_1, e116_2, e116_3, e116_4] := (hcs115.out.ext hV.out (hK _ hb113))
     have hi118 : (Tryz.prog.info? 91).map (·.size) = some ([.string y116.fTrait, e116_1, e116_2, e116_3, e116_4] : List Value).length := isz91Wh
     go_wp2_with (first | (with_reducible refine ld rfl 91 _ rfl (bk111) (of112 + n107 * 5) rfl [.string y116.fTrait, e116_1, e116_2, e116_3, e116_4] hc117 _ Tryz.underlying91 hi118 ?_) | (with_reducible refine e_al rfl 91 rfl [.string ⟨#[]⟩, .int .i64 0, .string ⟨#[]⟩, .slice none 0 0, .slice none 0 0] izr91Wh rfl ?_))
     intro w119 c120 b121
     clear hc117 hi118
     replace B15 := Lib.hid (B15.out.ch c120 (.inr (.inr (Nat.le_refl _))))
     replace B20 := Lib.hid (B20.out.ch c120 (.inr (.inr (Nat.le_refl _))))
     replace B25 := Lib.hid (B25.out.ch c120 (.inr (.inr (Nat.le_refl _))))
     replace X35 := Lib.hid (X35.out.ch c120 (.inr (.inr (Nat.le_refl _))))
     replace R105 := Lib.hid (R105.out.ch c120 (.inr (.inr (Nat.le_refl _))))
     replace hV := Lib.hid (below_ch hV.out c120 (.inr (Nat.le_refl _)) hV.out.size)
     have z122 := c120.size
     clear c120
     have B123 := Lib.hid b121; have lb123 := b121.lt; clear b121
     have hi127 := Lib.hid (show (Tryz.prog.info? 91).map (·.size) = some ([.string y116.fTrait, e116_1, e116_2, e116_3, e116_4] : List Value).length from isz91Wh)
     have hf124 := Lib.hid (show 0 + ([.string y116.fTrait, e116_1, e116_2, e116_3, e116_4] : List Value).length ≤ ([.string ⟨#[]⟩, .int .i64 0, .string ⟨#[]⟩, .slice none 0 0, .slice none 0 0] : List Value).length from (by decide : 5 ≤ 5))
     have ha125 := Lib.hid (show ([.string ⟨#[]⟩, .int .i64 0, .string ⟨#[]⟩, .slice none 0 0, .slice none 0 0] : List Value).take 0 ++ [.string y116.fTrait, e116_1, e116_2, e116_3, e116_4] ++ ([.string ⟨#[]⟩, .int .i64 0, .string ⟨#[]⟩, .slice none 0 0, .slice none 0 0] : List Value).drop (0 + ([.string y116.fTrait, e116_1, e116_2, e116_3, e116_4] : List Value).length) = [.string y116.fTrait, e116_1, e116_2, e116_3, e116_4] from rfl)
     have ho126 := Lib.hid (show ∀ u ∈ ([.string y116.fTrait, e116_1, e116_2, e116_3, e116_4] : List Value), u.oneCell' = true from (one_cons rfl (one_cons (e116_one.out _ (by simp)) (one_cons (e116_one.out _ (by simp)) (one_cons (e116_one.out _ (by simp)) (one_cons (e116_one.out _ (by simp)) one_nil))))))
     go_wp2_with (with_reducible refine e_st rfl 91 _ _ rfl (w106.heap.size) 0 rfl [.string y116.fTrait, e116_1, e116_2, e116_3, e116_4] rfl hi127.out ho126.out [.string ⟨#[]⟩, .int .i64 0, .string ⟨#[]⟩, .slice none 0 0, .slice none 0 0] [.string y116.fTrait, e116_1, e116_2, e116_3, e116_4] 91 B123.out hf124.out ha125.out ?_)
     intro w128 c129 b130
     replace B15 := Lib.hid (B15.out.ch c129 (by omega))
     replace B20 := Lib.hid (B20.out.ch c129 (by omega))
     replace B25 := Lib.hid (B25.out.ch c129 (by omega))
     replace X35 := Lib.hid (X35.out.ch c129 (by omega))
     replace R105 := Lib.hid (R105.out.ch c129 (by omega))
     replace hV := Lib.hid (below_ch hV.out c129 (by omega) hV.out.size)
     have z131 := c129.size
     clear c129
     replace B123 := Lib.hid b130; clear b130 hi127 hf124 ha125 ho126
     go_wp2_with fail
     refine rj 15 12 (Below w128.drew.heap.size w128.drew) (by kernel_rfl) rfl ?_
     have c133 : Ch w128 w128.drew 0 0 := Ch.of_below (Below.refl _ _).drew
     generalize w128.drew = w132 at *
     replace B15 := Lib.hid (B15.out.ch c133 (.inr (.inr (Nat.le_refl _))))
     replace B20 := Lib.hid (B20.out.ch c133 (.inr (.inr (Nat.le_refl _))))
     replace B25 := Lib.hid (B25.out.ch c133 (.inr (.inr (Nat.le_refl _))))
     replace B123 := Lib.hid (B123.out.ch c133 (.inr (.inr (Nat.le_refl _))))
     replace X35 := Lib.hid (X35.out.ch c133 (.inr (.inr (Nat.le_refl _))))
     replace R105 := Lib.hid (R105.out.ch c133 (.inr (.inr (Nat.le_refl _))))
     replace hV := Lib.hid (below_ch hV.out c133 (.inr (Nat.le_refl _)) hV.out.size)
     have z134 := c133.size
     clear c133
     have hI := Lib.hid (Below.refl w132.heap.size w132)
     refine rj_seg (fuel := 7) [0, 1, 2, 3, 4, 5, 7, 8] hI.out (by kernel_rfl) rfl ?_
     simp only [pick, pD, pE]
     refine sg_fix _ rfl (fun w' h' => by go_simp; rfl) ?_
     simp only [Act.put, pA, pB, pC]
     refine sg_fix _ rfl (fun w' h' => by have h0 : w'.cell? ⟨w16.heap.size, 1, none⟩ = some (v108) := (B25.out.below h').cell 1 rfl; go_simp; rfl) ?_
     simp only [Act.put, pA, pB, pC]
     refine sg_fix _ rfl (fun w' h' => by go_simp; rfl) ?_
     simp only [Act.put, pA, pB, pC]
     refine sg_fix _ rfl (fun w' h' => by have h0 : w'.cell? ⟨w106.heap.size, 0, none⟩ = some (.string y116.fTrait) := (B123.out.below h').cell 0 rfl; go_simp; rfl) ?_
     simp only [Act.put, pA, pB, pC]
     refine sg_fix _ rfl (fun w' h' => by go_simp; rfl) ?_
     simp only [Act.put, pA, pB, pC]
     refine sg_fix _ rfl (fun w' h' => by exact run_ld 88 _ rfl (w106.heap.size) (0 + 1) rfl [e116_1, e116_2, e116_3] (cells_sub (o := 0) 1 ((B123.out.below h').cells) rfl) _ Tryz.underlying88 isz88Wh) ?_
     simp only [Act.put, pA, pB, pC]
     refine sg_fix _ rfl (fun w' h' => by go_simp; rfl) ?_
     simp only [Act.put, pA, pB, pC]
     refine sg_fix _ rfl (fun w' h' => by have h0 : w'.cell? ⟨w106.heap.size, 4, none⟩ = some (e116_4) := (B123.out.below h').cell 4 rfl; go_simp; rfl) ?_
     simp only [Act.put, pA, pB, pC]
     refine sg_nil ?_
     refine rj_es (fuel := 5) [⟨6, none, false, gdAg (TType.enc y116.fType)⟩, ⟨9, none, false, gdSl TMethodEntry.enc (y116.fEntries)⟩] (by kernel_rfl) rfl (fun w' h' => h') (fun e he hd hfi w' h' => ?_) (fun e he f hf hd w' v lo hi h' hg hl hh => ?_) (fun e he hfi xs w' hA => ?_) (fun e he hfi => ?_) (fun xs wk h' hF hA hD => ?_)
     ·simp only [List.mem_cons, List.not_mem_nil, or_false] at he
      rcases he with rfl | rfl
      ·simp only [pick, pD, pE]
       refine ov_call rfl 40 #[.agg #[e116_1, e116_2, e116_3]] (by go_simp <;> rfl) ?_
       exact (implcopyType_o (y116.fType) (by have h0 := Hz.out; rw [TMethodTable.sz_eq] at h0; omega) _ _ (fun b h => Nat.lt_of_lt_of_le (hK b h) (Nat.le_trans hV.out.size h'.size)) _ ((Rep.ext (hV.out.trans (h'.mono hV.out.size)) hK (he116_Type.out)))).mono fun e w2 ⟨cs', he, ho, hb⟩ => ⟨_, he, hb, cs', rfl, ho⟩
      ·simp only [pick, pD, pE]
       refine ov_call rfl 41 #[e116_4] (by go_simp <;> rfl) ?_
       exact (slicesClone_implMethodEntry_implMethodEntry_o (y116.fEntries) (by have h0 := Hz.out; rw [TMethodTable.sz_eq] at h0; omega) _ _ (fun b h => Nat.lt_of_lt_of_le (hK b h) (Nat.le_trans hV.out.size h'.size)) _ ((Rep.ext (hV.out.trans (h'.mono hV.out.size)) hK (he116_Entries.out)))).mono fun e w2 ⟨a, p, he, ho, hb⟩ => ⟨_, he, hb, a, p, rfl, ho⟩
     ·simp only [List.mem_cons, List.not_mem_nil, or_false] at he hf
      (rcases he with rfl | rfl) <;> exact absurd hd (by simp)
     ·simp only [List.mem_cons, List.not_mem_nil, or_false] at he
      (rcases he with rfl | rfl) <;> exact absurd hfi (by simp)
     ·simp only [List.mem_cons, List.not_mem_nil, or_false] at he
      (rcases he with rfl | rfl) <;> first | rfl | (cases hfi; done)
     ·
      obtain ⟨v6, lo6, hi6, xs, rfl, g6, l6, u6, hA⟩ := hA
      obtain ⟨v9, lo9, hi9, xs, rfl, g9, l9, u9, hA⟩ := hA
      have hA : xs = [] := hA; subst hA
      obtain ⟨⟨q6_9, -⟩, -, -⟩ := hD
      clear hF
      have q6_9 : hi6 ≤ lo9 ∨ hi9 ≤ lo6 := q6_9 (by simp) (by simp)
      replace hI := Lib.hid h'
      have c135 := Ch.of_below h'; clear h'
      replace g6 := g6 (by intro f hf; simp only [List.mem_cons, List.not_mem_nil, or_false] at hf; rcases hf with rfl | rfl <;> simp)
      replace g9 := g9 (by intro f hf; simp only [List.mem_cons, List.not_mem_nil, or_false] at hf; rcases hf with rfl | rfl <;> simp)
      obtain ⟨cs136, rfl, o136⟩ := g6
      have d136_one := Lib.hid (Rep.one _ _ (o136.rep))
      obtain ⟨d136_2, rfl, hd136_Kind, hd136_Name, hd136_Args⟩ := TType.opn (o136.rep)
      replace hd136_Kind := Lib.hid hd136_Kind
      replace hd136_Name := Lib.hid hd136_Name
      replace hd136_Args := Lib.hid hd136_Args
      have X136 := Lib.hid o136; clear o136
      obtain ⟨a137, p137, rfl, o137⟩ := g9
      have X137 := Lib.hid o137; clear o137
      simp only [putE, dstOf, pD, pE, Option.bind_some]
      simp only [Act.put, pA, pB, pC]
      generalize wk = w138 at *
      replace B15 := Lib.hid (B15.out.ch c135 (.inr (.inr (Nat.le_refl _))))
      replace B20 := Lib.hid (B20.out.ch c135 (.inr (.inr (Nat.le_refl _))))
      replace B25 := Lib.hid (B25.out.ch c135 (.inr (.inr (Nat.le_refl _))))
      replace B123 := Lib.hid (B123.out.ch c135 (.inr (.inr (Nat.le_refl _))))
      replace X35 := Lib.hid (X35.out.ch c135 (.inr (.inr (Nat.le_refl _))))
      replace R105 := Lib.hid (R105.out.ch c135 (.inr (.inr (Nat.le_refl _))))
      replace hV := Lib.hid (below_ch hV.out c135 (.inr (Nat.le_refl _)) hV.out.size)
      have z139 := c135.size
      clear c135
      have lx136 := X136.out.1
      have lx137 := X137.out.1
      refine rj_free (fuel := 4) [10] hI.out (by kernel_rfl) rfl ?_
      simp only [pick, pD, pE]
      refine sg_fix _ rfl (fun w' h' => by go_simp; rfl) ?_
      simp only [Act.put, pA, pB, pC]
      refine sg_nil ?_
      refine rj_one (fuel := 3) 11 (by kernel_rfl) rfl (fun K0 K140 => ?_)
      simp only [pick, pD, pE]
      have hl144 : ([.string y116.fTrait, .int .i64 y116.fType.fKind, .string y116.fType.fName, d136_2, .slice a137 (y116.fEntries).length p137] : List Value).length = 5 := rfl
      refine q_bs1 rfl 28 _ rfl Tryz.underlying28 irw91Wh (by decide) (by decide) _ rfl [.string y116.fTrait, .int .i64 y116.fType.fKind, .string y116.fType.fName, d136_2, .slice a137 (y116.fEntries).length p137] rfl hl144 ?_
      intro w141 c142 b143
      replace hI := Lib.hid (below_ch hI.out c142 (.inr (Nat.le_refl _)) hI.out.size)
      refine K140 _ _ (fun _ => hI.out) ?_
      simp only [Act.put, pA, pB, pC]
      clear hl144
      replace B15 := Lib.hid (B15.out.ch c142 (.inr (.inr (Nat.le_refl _))))
      replace B20 := Lib.hid (B20.out.ch c142 (.inr (.inr (Nat.le_refl _))))
      replace B25 := Lib.hid (B25.out.ch c142 (.inr (.inr (Nat.le_refl _))))
      replace B123 := Lib.hid (B123.out.ch c142 (.inr (.inr (Nat.le_refl _))))
      replace X35 := Lib.hid (X35.out.ch c142 (.inr (.inr (Nat.le_refl _))))
      replace X136 := Lib.hid (X136.out.ch c142 (.inr (.inr (Nat.le_refl _))))
      replace X137 := Lib.hid (X137.out.ch c142 (.inr (.inr (Nat.le_refl _))))
      replace R105 := Lib.hid (R105.out.ch c142 (.inr (.inr (Nat.le_refl _))))
      replace hV := Lib.hid (below_ch hV.out c142 (.inr (Nat.le_refl _)) hV.out.size)
      have z145 := c142.size
      clear c142
      have B146 := Lib.hid b143; have lb146 := b143.lt; clear b143
      refine rj_one (fuel := 2) 12 (by kernel_rfl) rfl (fun K0 K147 => ?_)
      simp only [pick, pD, pE]
      have X152 : Hid (Ow w141 (w132.heap.size) (w141.heap.size) (TMethodTable.enc y116) [.string y116.fTrait, .int .i64 y116.fType.fKind, .string y116.fType.fName, d136_2, .slice a137 (y116.fEntries).length p137]) := Lib.hid ((by rw [TMethodTable.enc_eq]; exact Ow.st (OwS.leaf (ownS he116_Trait.out) (OwS.cons (c1 := [.int .i64 y116.fType.fKind, .string y116.fType.fName, d136_2]) (c2 := [.slice a137 (y116.fEntries).length p137]) (X136.out) (OwS.cons (c1 := [.slice a137 (y116.fEntries).length p137]) (c2 := []) (X137.out) (OwS.nil) (by simp)) (by intro p hp; simp only [List.mem_cons, List.not_mem_nil, or_false] at hp; subst hp <;> (show _ ≤ _ ∨ _ ≤ _; omega)))) (by intro p hp; simp only [List.mem_cons, List.not_mem_nil, or_false] at hp; rcases hp with rfl | rfl <;> (show _ ≤ _ ∧ _ ≤ _; omega)) (by omega)))
      have lx152 := X152.out.1
      have hb153 : ((((x.fTables).take n107)).map TMethodTable.enc).length + 1 ≤ 1048577 := by simp only [List.length_map, List.length_take] <;> omega
      have hw154 : (TMethodTable.enc y116).width = 5 := TMethodTable.width _
      have hc155 := B146.out.cells
      have h63156 : ((((x.fTables).take n107)).map TMethodTable.enc).length + 1 ≤ maxLen := by unfold maxLen; omega
      have hby157 : (((((x.fTables).take n107)).map TMethodTable.enc).length + 1) * 88 ≤ 140737488355328 := by omega
      have hd158 : w141.heap.size ≤ w36.heap.size ∨ hi109 ≤ w132.heap.size := by omega
      have hl159 : w36.heap.size ≤ w132.heap.size := by omega
      refine q_ap rfl _ _ 28 rfl (.agg #[.string ⟨#[]⟩, .int .i64 0, .string ⟨#[]⟩, .slice none 0 0, .slice none 0 0]) 88 Tryz.underlying28 irw91Wh irz91Wh (by decide) rfl R105.out (w138.heap.size) rfl hw154 hc155 X152.out hd158 hl159 h63156 hby157 ?_
      intro v150 w151 hG148 c149
      clear hb153 hw154 hc155 h63156 hby157 hd158 hl159
      clear B146 lb146
      clear X152
      have hG_ : Gw w151 (w36.heap.size) w151.heap.size 91 5 ((((x.fTables).take n107) ++ [y116]).map TMethodTable.enc) v150 := by (have h := hG148; simp only [List.map_append, List.map_take, List.map_cons, List.map_nil] at h ⊢; exact h)
      clear hG148
      refine K147 _ _ (jw_done (by kernel_rfl)) ?_
      simp only [Act.put, pA, pB, pC]
      replace B15 := Lib.hid (B15.out.ch c149 (by omega))
      replace B20 := Lib.hid (B20.out.ch c149 (by omega))
      replace B25 := Lib.hid (B25.out.ch c149 (by omega))
      replace B123 := Lib.hid (B123.out.ch c149 (by omega))
      replace X35 := Lib.hid (X35.out.ch c149 (by omega))
      replace X136 := Lib.hid (X136.out.ch c149 (by omega))
      replace X137 := Lib.hid (X137.out.ch c149 (by omega))
      replace hV := Lib.hid (below_ch hV.out c149 (by omega) hV.out.size)
      have z160 := c149.size
      clear c149
      replace R105 := Lib.hid hG_; clear hG_
      have lr105_w151 := R105.out.2.1
      refine rj_free' (fuel := 1) [13] (by kernel_rfl) rfl ?_
      simp only [pick, pD, pE]
      refine sg_fix _ rfl (fun w' h' => by go_simp; rfl) ?_
      simp only [Act.put, pA, pB, pC]
      refine sg_nil ?_
      refine rj_one (fuel := 0) 14 (by kernel_rfl) rfl (fun K0 K161 => ?_)
      simp only [pick, pD, pE]
      have hf162 := Lib.hid (show 1 < ([.slice a35 (x.fSpecializations).length p35, v108] : List Value).length from (by decide : 1 < 2))
      have ha163 := Lib.hid (show ([.slice a35 (x.fSpecializations).length p35, v108] : List Value).take 1 ++ [v150] ++ ([.slice a35 (x.fSpecializations).length p35, v108] : List Value).drop (1 + 1) = [.slice a35 (x.fSpecializations).length p35, v150] from rfl)
      have ho164 := Lib.hid (show (v150 : Value).oneCell' = true from R105.out.one)
      refine q_st1 rfl 28 _ _ rfl (w16.heap.size) 1 rfl (v150) rfl isz28Wh ho164.out [.slice a35 (x.fSpecializations).length p35, v108] [.slice a35 (x.fSpecializations).length p35, v150] 30 B25.out hf162.out ha163.out ?_
      intro w165 c166 b167
      refine K161 _ _ (jw_done (by kernel_rfl)) ?_
      refine rj_end (by kernel_rfl) ?_
      (try simp only [Act.put])
      (try simp only [Act.put, pA, pB, pC])
      replace B15 := Lib.hid (B15.out.ch c166 (by omega))
      replace B20 := Lib.hid (B20.out.ch c166 (by omega))
      replace B123 := Lib.hid (B123.out.ch c166 (by omega))
      replace X35 := Lib.hid (X35.out.ch c166 (by omega))
      replace X136 := Lib.hid (X136.out.ch c166 (by omega))
      replace X137 := Lib.hid (X137.out.ch c166 (by omega))
      replace R105 := Lib.hid (R105.out.ch c166 (by omega))
      replace hV := Lib.hid (below_ch hV.out c166 (by omega) hV.out.size)
      have z168 := c166.size
      clear c166
      replace B25 := Lib.hid b167; clear b167 hf162 ha163 ho164
      go_wp2_with fail
      go_roundw
      case rel => exact ⟨n107 + 1, _, _, hlt, by go_num, Lib.hid (by have hR := R105.out; rw [show _ ++ [y116] = _ from (by have := Ht.out; simpa using this)] at hR; exact hR), B15, B20, B25, X35, hV, by omega⟩
      case measure => simp [intOf]; omega
    ·
     obtain rfl : n107 = (x.fTables).length := by omega
     have hR := R105.out; rw [List.take_of_length_le (Nat.le_refl _)] at hR; replace R105 := Lib.hid hR; clear hR
     have hc169 : Cells w106 (w16.heap.size) (0) [.slice a35 (x.fSpecializations).length p35, v108] := (B25.out.cells)
     have hi170 : (Tryz.prog.info? 30).map (·.size) = some ([.slice a35 (x.fSpecializations).length p35, v108] : List Value).length := isz30Wh
     have hi174 := Lib.hid (show (Tryz.prog.info? 30).map (·.size) = some ([.slice a35 (x.fSpecializations).length p35, v108] : List Value).length from isz30Wh)
     have hf171 := Lib.hid (show 0 + ([.slice a35 (x.fSpecializations).length p35, v108] : List Value).length ≤ ([.slice none 0 0, .slice none 0 0] : List Value).length from (by decide : 2 ≤ 2))
     have ha172 := Lib.hid (show ([.slice none 0 0, .slice none 0 0] : List Value).take 0 ++ [.slice a35 (x.fSpecializations).length p35, v108] ++ ([.slice none 0 0, .slice none 0 0] : List Value).drop (0 + ([.slice a35 (x.fSpecializations).length p35, v108] : List Value).length) = [.slice a35 (x.fSpecializations).length p35, v108] from rfl)
     have ho173 := Lib.hid (show ∀ u ∈ ([.slice a35 (x.fSpecializations).length p35, v108] : List Value), u.oneCell' = true from (one_cons rfl (one_cons R105.out.one one_nil)))
     go_wp2_with (first | (with_reducible refine ld rfl 30 _ rfl (w16.heap.size) (0) rfl [.slice a35 (x.fSpecializations).length p35, v108] hc169 _ Tryz.underlying30 hi170 ?_) | (with_reducible refine e_st rfl 30 _ _ rfl (w11.heap.size) 0 rfl [.slice a35 (x.fSpecializations).length p35, v108] rfl hi174.out ho173.out [.slice none 0 0, .slice none 0 0] [.slice a35 (x.fSpecializations).length p35, v108] 30 B20.out hf171.out ha172.out ?_))
     intro w175 c176 b177
     clear hc169 hi170
     replace B15 := Lib.hid (B15.out.ch c176 (by omega))
     replace B25 := Lib.hid (B25.out.ch c176 (by omega))
     replace X35 := Lib.hid (X35.out.ch c176 (by omega))
     replace R105 := Lib.hid (R105.out.ch c176 (by omega))
     replace hV := Lib.hid (below_ch hV.out c176 (by omega) hV.out.size)
     have z178 := c176.size
     clear c176
     replace B20 := Lib.hid b177; clear b177 hi174 hf171 ha172 ho173
     go_wp2_with fail
     obtain ⟨a105, p105, rfl, o105⟩ := R105.out.ow
     have X105 := Lib.hid o105; have lx105 := o105.1; clear o105 R105
     have X179 : Hid (Ow w175 (w30.heap.size) (w175.heap.size) (TMachine.enc (⟨((x.fSpecializations).map (fun y => (cmpOf y).1)), x.fTables⟩ : TMachine)) [.slice a35 (x.fSpecializations).length p35, .slice a105 (x.fTables).length p105]) := Lib.hid ((by rw [TMachine.enc_eq]; exact Ow.st (OwS.cons (c1 := [.slice a35 (x.fSpecializations).length p35]) (c2 := [.slice a105 (x.fTables).length p105]) (X35.out) (OwS.cons (c1 := [.slice a105 (x.fTables).length p105]) (c2 := []) (X105.out) (OwS.nil) (by simp)) (by intro p hp; simp only [List.mem_cons, List.not_mem_nil, or_false] at hp; subst hp <;> (show _ ≤ _ ∨ _ ≤ _; omega))) (by intro p hp; simp only [List.mem_cons, List.not_mem_nil, or_false] at hp; rcases hp with rfl | rfl <;> (show _ ≤ _ ∧ _ ≤ _; omega)) (by omega)))
     have lx179 := X179.out.1
     have hiR : (Tryz.prog.info? 30).map (·.size) = some ([.slice a35 (x.fSpecializations).length p35, .slice a105 (x.fTables).length p105] : List Value).length := isz30Wh
     (try simp only [Exit.inBlock, Exit.then])
     exact bodyPost_ret (v := .tuple #[.agg #[.slice a35 (x.fSpecializations).length p35, .slice a105 (x.fTables).length p105], .bool true]) (run_resB Tryz.results9 (w11.heap.size) rfl [.slice a35 (x.fSpecializations).length p35, .slice a105 (x.fTables).length p105] B20.out.cells _ Tryz.underlying30 hiR (.bool true) rfl) rfl ⟨[.slice a35 (x.fSpecializations).length p35, .slice a105 (x.fTables).length p105], by rw [(cprog_ok HE.out)], by rw [(cprog_ok HE.out)]; exact X179.out.wide (by omega) (by omega) (Nat.le_refl _), hV.out⟩
end Go.Proofs.YtkmiecgcibjkbaaGreat
