/- Functions walked once, their results in memory of their own. Condition: the value's size is at most 1048576. -/
import Derived.Test.YtkmiecgcibjkbaaGreatEng
import Derived.Test.YtkmiecgcibjkbaaGreatTo
import Derived.Test.YtkmiecgcibjkbaaGreatWa
import Derived.Test.YtkmiecgcibjkbaaGreatWd
namespace Go.Proofs.YtkmiecgcibjkbaaGreat
open Go.RowKit
theorem TMethodEntry.flatEWe (x : TMethodEntry) : flatD x.enc = true := by
 rw [TMethodEntry.enc_eq]
 rfl
theorem izr136We : (Tryz.prog.info? 136).map (·.zero) = some (some (.agg #[.int .i64 0, .string ⟨#[]⟩, .string ⟨#[]⟩, .int .i64 0, .int .i64 0, .string ⟨#[]⟩, .slice none 0 0, .slice none 0 0, .slice none 0 0, .slice none 0 0, .slice none 0 0])) := by kernel_rfl
theorem isz136We : (Tryz.prog.info? 136).map (·.size) = some 11 := by kernel_rfl
theorem izr35We : (Tryz.prog.info? 35).map (·.zero) = some (some (.agg #[.slice none 0 0, .slice none 0 0])) := by kernel_rfl
theorem isz35We : (Tryz.prog.info? 35).map (·.size) = some 2 := by kernel_rfl
theorem isz163We : (Tryz.prog.info? 163).map (·.size) = some 14 := by kernel_rfl
theorem izr163We : (Tryz.prog.info? 163).map (·.zero) = some (some (.agg #[.int .i64 0, .slice none 0 0, .slice none 0 0, .int .i64 0, .string ⟨#[]⟩, .string ⟨#[]⟩, .int .i64 0, .int .i64 0, .string ⟨#[]⟩, .slice none 0 0, .slice none 0 0, .slice none 0 0, .slice none 0 0, .slice none 0 0])) := by kernel_rfl
theorem iso9We : ((Tryz.prog.info? 9).map (·.size)).isSome = true := by kernel_rfl
theorem irw9We : (Tryz.prog.info? 9).map (fun i => (i.zero, i.size, i.bytes)) = some (some (.string ⟨#[]⟩), 1, 16) := by kernel_rfl
theorem irz9We : ((.string ⟨#[]⟩) : Value).cells.size = 1 := rfl
theorem irw163We : (Tryz.prog.info? 163).map (fun i => (i.zero, i.size, i.bytes)) = some (some (.agg #[.int .i64 0, .slice none 0 0, .slice none 0 0, .int .i64 0, .string ⟨#[]⟩, .string ⟨#[]⟩, .int .i64 0, .int .i64 0, .string ⟨#[]⟩, .slice none 0 0, .slice none 0 0, .slice none 0 0, .slice none 0 0, .slice none 0 0]), 14, 248) := by kernel_rfl
theorem irz163We : ((.agg #[.int .i64 0, .slice none 0 0, .slice none 0 0, .int .i64 0, .string ⟨#[]⟩, .string ⟨#[]⟩, .int .i64 0, .int .i64 0, .string ⟨#[]⟩, .slice none 0 0, .slice none 0 0, .slice none 0 0, .slice none 0 0, .slice none 0 0]) : Value).cells.size = 14 := rfl
theorem isz33We : (Tryz.prog.info? 33).map (·.size) = some 1 := by kernel_rfl
theorem isz91We : (Tryz.prog.info? 91).map (·.size) = some 5 := by kernel_rfl
theorem izr91We : (Tryz.prog.info? 91).map (·.zero) = some (some (.agg #[.string ⟨#[]⟩, .int .i64 0, .string ⟨#[]⟩, .slice none 0 0, .slice none 0 0])) := by kernel_rfl
theorem isz88We : (Tryz.prog.info? 88).map (·.size) = some 3 := by kernel_rfl
theorem iso95We : ((Tryz.prog.info? 95).map (·.size)).isSome = true := by kernel_rfl
theorem irw95We : (Tryz.prog.info? 95).map (fun i => (i.zero, i.size, i.bytes)) = some (some (.agg #[.string ⟨#[]⟩, .string ⟨#[]⟩, .int .i64 0]), 3, 40) := by kernel_rfl
theorem irz95We : ((.agg #[.string ⟨#[]⟩, .string ⟨#[]⟩, .int .i64 0]) : Value).cells.size = 3 := rfl
theorem irw91We : (Tryz.prog.info? 91).map (fun i => (i.zero, i.size, i.bytes)) = some (some (.agg #[.string ⟨#[]⟩, .int .i64 0, .string ⟨#[]⟩, .slice none 0 0, .slice none 0 0]), 5, 88) := by kernel_rfl
theorem irz91We : ((.agg #[.string ⟨#[]⟩, .int .i64 0, .string ⟨#[]⟩, .slice none 0 0, .slice none 0 0]) : Value).cells.size = 5 := rfl
theorem isz28We : (Tryz.prog.info? 28).map (·.size) = some 1 := by kernel_rfl
set_option maxRecDepth 100000 in
set_option maxHeartbeats 4000000 in
theorem specl31Copy_o (x : TCore) : ∀ (_ : x.sz ≤ 1048576) (w : World) (K : Nat → Prop) (_ : ∀ b, K b → b < w.heap.size) (cs : List Value) (_ : Rep w K x.enc cs),
  Calls Tryz.prog 91 #[.agg cs.toArray] w fun e w' => ∃ cs', e = .returned (.agg cs'.toArray) ∧ Ow w' w.heap.size w'.heap.size x.enc cs' ∧ Below w.heap.size w w' := by
 intro hz w K hK cs h
 have hV : Hid (Below w.heap.size w w) := Lib.hid (Below.refl _ _)
 replace hz := Lib.hid hz
 have pone := Lib.hid (Rep.one _ _ (h))
 obtain ⟨p4, p5, p6, p7, p8, p9, p10, rfl, hpKind, hpTrait, hpName, hpN, hpType, hpTypeArgs, hpEvidence, hpArgs, hpArms⟩ := TCore.opn (h)
 replace hpKind := Lib.hid hpKind
 replace hpTrait := Lib.hid hpTrait
 replace hpName := Lib.hid hpName
 replace hpN := Lib.hid hpN
 replace hpType := Lib.hid hpType
 replace hpTypeArgs := Lib.hid hpTypeArgs
 replace hpEvidence := Lib.hid hpEvidence
 replace hpArgs := Lib.hid hpArgs
 replace hpArms := Lib.hid hpArms
 replace h := Lib.hid h
 go_enter Tryz.func91, Tryz.ntmps91
 go_wp2_with (with_reducible refine e_box rfl 136 _ rfl _ rfl [.int .i64 x.fKind, .string x.fTrait, .string x.fName, .int .i64 x.fN, p4, p5, p6, p7, p8, p9, p10] rfl ?_)
 intro w1 c2 b3
 replace hV := Lib.hid (below_ch hV.out c2 (.inr (Nat.le_refl _)) hV.out.size)
 have z4 := c2.size
 clear c2
 have B5 := Lib.hid b3; have lb5 := b3.lt; clear b3
 go_wp2_with (with_reducible refine e_al rfl 136 rfl [.int .i64 0, .string ⟨#[]⟩, .string ⟨#[]⟩, .int .i64 0, .int .i64 0, .string ⟨#[]⟩, .slice none 0 0, .slice none 0 0, .slice none 0 0, .slice none 0 0, .slice none 0 0] izr136We rfl ?_)
 intro w6 c7 b8
 replace B5 := Lib.hid (B5.out.ch c7 (.inr (.inr (Nat.le_refl _))))
 replace hV := Lib.hid (below_ch hV.out c7 (.inr (Nat.le_refl _)) hV.out.size)
 have z9 := c7.size
 clear c7
 have B10 := Lib.hid b8; have lb10 := b8.lt; clear b8
 have hc11 : Cells w6 (w.heap.size) (0) [.int .i64 x.fKind, .string x.fTrait, .string x.fName, .int .i64 x.fN, p4, p5, p6, p7, p8, p9, p10] := (B5.out.cells)
 have hi12 : (Tryz.prog.info? 136).map (·.size) = some ([.int .i64 x.fKind, .string x.fTrait, .string x.fName, .int .i64 x.fN, p4, p5, p6, p7, p8, p9, p10] : List Value).length := isz136We
 go_wp2_with (with_reducible refine ld rfl 136 _ rfl (w.heap.size) (0) rfl [.int .i64 x.fKind, .string x.fTrait, .string x.fName, .int .i64 x.fN, p4, p5, p6, p7, p8, p9, p10] hc11 _ Tryz.underlying136 hi12 ?_)
 refine (specSubstituteCore_o (x) hz.out _ _ (fun b h => Nat.lt_of_lt_of_le (hK b h) hV.out.size) _ ((Rep.ext hV.out hK (h.out)))).mono ?_
 rintro e w13 ⟨cs15, rfl, o15, hB15⟩
 have d15_one := Lib.hid (Rep.one _ _ (o15.rep))
 obtain ⟨d15_4, d15_5, d15_6, d15_7, d15_8, d15_9, d15_10, rfl, hd15_Kind, hd15_Trait, hd15_Name, hd15_N, hd15_Type, hd15_TypeArgs, hd15_Evidence, hd15_Args, hd15_Arms⟩ := TCore.opn (o15.rep)
 replace hd15_Kind := Lib.hid hd15_Kind
 replace hd15_Trait := Lib.hid hd15_Trait
 replace hd15_Name := Lib.hid hd15_Name
 replace hd15_N := Lib.hid hd15_N
 replace hd15_Type := Lib.hid hd15_Type
 replace hd15_TypeArgs := Lib.hid hd15_TypeArgs
 replace hd15_Evidence := Lib.hid hd15_Evidence
 replace hd15_Args := Lib.hid hd15_Args
 replace hd15_Arms := Lib.hid hd15_Arms
 have X15 := Lib.hid o15; clear o15
 have c14 := Ch.of_below hB15; clear hB15
 clear hc11 hi12
 replace B5 := Lib.hid (B5.out.ch c14 (.inr (.inr (Nat.le_refl _))))
 replace B10 := Lib.hid (B10.out.ch c14 (.inr (.inr (Nat.le_refl _))))
 replace hV := Lib.hid (below_ch hV.out c14 (.inr (Nat.le_refl _)) hV.out.size)
 have z16 := c14.size
 clear c14
 have lx15 := X15.out.1
 have hi20 := Lib.hid (show (Tryz.prog.info? 136).map (·.size) = some ([.int .i64 x.fKind, .string x.fTrait, .string x.fName, .int .i64 x.fN, d15_4, d15_5, d15_6, d15_7, d15_8, d15_9, d15_10] : List Value).length from isz136We)
 have hf17 := Lib.hid (show 0 + ([.int .i64 x.fKind, .string x.fTrait, .string x.fName, .int .i64 x.fN, d15_4, d15_5, d15_6, d15_7, d15_8, d15_9, d15_10] : List Value).length ≤ ([.int .i64 0, .string ⟨#[]⟩, .string ⟨#[]⟩, .int .i64 0, .int .i64 0, .string ⟨#[]⟩, .slice none 0 0, .slice none 0 0, .slice none 0 0, .slice none 0 0, .slice none 0 0] : List Value).length from (by decide : 11 ≤ 11))
 have ha18 := Lib.hid (show ([.int .i64 0, .string ⟨#[]⟩, .string ⟨#[]⟩, .int .i64 0, .int .i64 0, .string ⟨#[]⟩, .slice none 0 0, .slice none 0 0, .slice none 0 0, .slice none 0 0, .slice none 0 0] : List Value).take 0 ++ [.int .i64 x.fKind, .string x.fTrait, .string x.fName, .int .i64 x.fN, d15_4, d15_5, d15_6, d15_7, d15_8, d15_9, d15_10] ++ ([.int .i64 0, .string ⟨#[]⟩, .string ⟨#[]⟩, .int .i64 0, .int .i64 0, .string ⟨#[]⟩, .slice none 0 0, .slice none 0 0, .slice none 0 0, .slice none 0 0, .slice none 0 0] : List Value).drop (0 + ([.int .i64 x.fKind, .string x.fTrait, .string x.fName, .int .i64 x.fN, d15_4, d15_5, d15_6, d15_7, d15_8, d15_9, d15_10] : List Value).length) = [.int .i64 x.fKind, .string x.fTrait, .string x.fName, .int .i64 x.fN, d15_4, d15_5, d15_6, d15_7, d15_8, d15_9, d15_10] from rfl)
 have ho19 := Lib.hid (show ∀ u ∈ ([.int .i64 x.fKind, .string x.fTrait, .string x.fName, .int .i64 x.fN, d15_4, d15_5, d15_6, d15_7, d15_8, d15_9, d15_10] : List Value), u.oneCell' = true from (one_cons rfl (one_cons rfl (one_cons rfl (one_cons rfl (one_cons (d15_one.out _ (by simp)) (one_cons (d15_one.out _ (by simp)) (one_cons (d15_one.out _ (by simp)) (one_cons (d15_one.out _ (by simp)) (one_cons (d15_one.out _ (by simp)) (one_cons (d15_one.out _ (by simp)) (one_cons (d15_one.out _ (by simp)) one_nil))))))))))))
 go_wp2_with (with_reducible refine e_st rfl 136 _ _ rfl (w1.heap.size) 0 rfl [.int .i64 x.fKind, .string x.fTrait, .string x.fName, .int .i64 x.fN, d15_4, d15_5, d15_6, d15_7, d15_8, d15_9, d15_10] rfl hi20.out ho19.out [.int .i64 0, .string ⟨#[]⟩, .string ⟨#[]⟩, .int .i64 0, .int .i64 0, .string ⟨#[]⟩, .slice none 0 0, .slice none 0 0, .slice none 0 0, .slice none 0 0, .slice none 0 0] [.int .i64 x.fKind, .string x.fTrait, .string x.fName, .int .i64 x.fN, d15_4, d15_5, d15_6, d15_7, d15_8, d15_9, d15_10] 136 B10.out hf17.out ha18.out ?_)
 intro w21 c22 b23
 replace B5 := Lib.hid (B5.out.ch c22 (by omega))
 replace X15 := Lib.hid (X15.out.ch c22 (by omega))
 replace hV := Lib.hid (below_ch hV.out c22 (by omega) hV.out.size)
 have z24 := c22.size
 clear c22
 replace B10 := Lib.hid b23; clear b23 hi20 hf17 ha18 ho19
 go_wp2_with fail
 have hiR : (Tryz.prog.info? 136).map (·.size) = some ([.int .i64 x.fKind, .string x.fTrait, .string x.fName, .int .i64 x.fN, d15_4, d15_5, d15_6, d15_7, d15_8, d15_9, d15_10] : List Value).length := isz136We
 (try simp only [Exit.inBlock, Exit.then])
 exact bodyPost_ret (v := .agg #[.int .i64 x.fKind, .string x.fTrait, .string x.fName, .int .i64 x.fN, d15_4, d15_5, d15_6, d15_7, d15_8, d15_9, d15_10]) (run_res Tryz.results91 (w1.heap.size) rfl [.int .i64 x.fKind, .string x.fTrait, .string x.fName, .int .i64 x.fN, d15_4, d15_5, d15_6, d15_7, d15_8, d15_9, d15_10] B10.out.cells _ Tryz.underlying136 hiR) rfl ⟨[.int .i64 x.fKind, .string x.fTrait, .string x.fName, .int .i64 x.fN, d15_4, d15_5, d15_6, d15_7, d15_8, d15_9, d15_10], rfl, X15.out.wide (by omega) (by omega) (Nat.le_refl _), hV.out⟩
set_option maxRecDepth 100000 in
set_option maxHeartbeats 4000000 in
theorem specl39Clone_o (x : TMonoProgram) : ∀ (_ : x.sz ≤ 1048576) (w : World) (K : Nat → Prop) (_ : ∀ b, K b → b < w.heap.size) (cs : List Value) (_ : Rep w K x.enc cs),
  Calls Tryz.prog 35 #[.agg cs.toArray] w fun e w' => ∃ cs', e = .returned (.agg cs'.toArray) ∧ Ow w' w.heap.size w'.heap.size x.enc cs' ∧ Below w.heap.size w w' := by
 intro hz w K hK cs h
 have hV : Hid (Below w.heap.size w w) := Lib.hid (Below.refl _ _)
 replace hz := Lib.hid hz
 have pone := Lib.hid (Rep.one _ _ (h))
 obtain ⟨p0, p1, rfl, hpSpecializations, hpTables⟩ := TMonoProgram.opn (h)
 replace hpSpecializations := Lib.hid hpSpecializations
 replace hpTables := Lib.hid hpTables
 replace h := Lib.hid h
 obtain ⟨a1, cap2, rfl, hcp3, hcm4, -, hE5⟩ := open_sl TSpecialization.width hpSpecializations.out
 unfold maxLen at hcm4
 replace hE5 := Lib.hid hE5
 have hcm4_ : (x.fSpecializations).length ≤ 1048576 := by have h0 := (by have h0 := hz.out; rw [TMonoProgram.sz_eq] at h0; omega); unfold szs at h0; omega
 obtain ⟨a6, cap7, rfl, hcp8, hcm9, -, hE10⟩ := open_sl TMethodTable.width hpTables.out
 unfold maxLen at hcm9
 replace hE10 := Lib.hid hE10
 have hcm9_ : (x.fTables).length ≤ 1048576 := by have h0 := (by have h0 := hz.out; rw [TMonoProgram.sz_eq] at h0; omega); unfold szs at h0; omega
 go_enter Tryz.func35, Tryz.ntmps35
 go_wp2_with (with_reducible refine e_box rfl 35 _ rfl _ rfl [.slice a1 (x.fSpecializations).length cap2, .slice a6 (x.fTables).length cap7] rfl ?_)
 intro w11 c12 b13
 replace hV := Lib.hid (below_ch hV.out c12 (.inr (Nat.le_refl _)) hV.out.size)
 have z14 := c12.size
 clear c12
 have B15 := Lib.hid b13; have lb15 := b13.lt; clear b13
 go_wp2_with (with_reducible refine e_al rfl 35 rfl [.slice none 0 0, .slice none 0 0] izr35We rfl ?_)
 intro w16 c17 b18
 replace B15 := Lib.hid (B15.out.ch c17 (.inr (.inr (Nat.le_refl _))))
 replace hV := Lib.hid (below_ch hV.out c17 (.inr (Nat.le_refl _)) hV.out.size)
 have z19 := c17.size
 clear c17
 have B20 := Lib.hid b18; have lb20 := b18.lt; clear b18
 go_wp2_with (with_reducible refine e_al rfl 35 rfl [.slice none 0 0, .slice none 0 0] izr35We rfl ?_)
 intro w21 c22 b23
 replace B15 := Lib.hid (B15.out.ch c22 (.inr (.inr (Nat.le_refl _))))
 replace B20 := Lib.hid (B20.out.ch c22 (.inr (.inr (Nat.le_refl _))))
 replace hV := Lib.hid (below_ch hV.out c22 (.inr (Nat.le_refl _)) hV.out.size)
 have z24 := c22.size
 clear c22
 have B25 := Lib.hid b23; have lb25 := b23.lt; clear b23
 have hi29 := Lib.hid (show (Tryz.prog.info? 35).map (·.size) = some ([.slice none 0 0, .slice none 0 0] : List Value).length from isz35We)
 have hf26 := Lib.hid (show 0 + ([.slice none 0 0, .slice none 0 0] : List Value).length ≤ ([.slice none 0 0, .slice none 0 0] : List Value).length from (by decide : 2 ≤ 2))
 have ha27 := Lib.hid (show ([.slice none 0 0, .slice none 0 0] : List Value).take 0 ++ [.slice none 0 0, .slice none 0 0] ++ ([.slice none 0 0, .slice none 0 0] : List Value).drop (0 + ([.slice none 0 0, .slice none 0 0] : List Value).length) = [.slice none 0 0, .slice none 0 0] from rfl)
 have ho28 := Lib.hid (show ∀ u ∈ ([.slice none 0 0, .slice none 0 0] : List Value), u.oneCell' = true from (one_cons rfl (one_cons rfl one_nil)))
 go_wp2_with (with_reducible refine e_st rfl 35 _ _ rfl (w16.heap.size) 0 rfl [.slice none 0 0, .slice none 0 0] rfl hi29.out ho28.out [.slice none 0 0, .slice none 0 0] [.slice none 0 0, .slice none 0 0] 35 B25.out hf26.out ha27.out ?_)
 intro w30 c31 b32
 replace B15 := Lib.hid (B15.out.ch c31 (by omega))
 replace B20 := Lib.hid (B20.out.ch c31 (by omega))
 replace hV := Lib.hid (below_ch hV.out c31 (by omega) hV.out.size)
 have z33 := c31.size
 clear c31
 replace B25 := Lib.hid b32; clear b32 hi29 hf26 ha27 ho28
 go_wp2_with fail
 have R34 := Lib.hid (Gw.nil w30 w30.heap.size 163 14 (Nat.le_refl _)); have lr34 := R34.out.1
 go_loopw [4] (fun i wr => ∃ (n : Nat) (v' : Value) (hi' : Nat), n ≤ (x.fSpecializations).length ∧ i = .int .i64 n ∧ Hid (Gw wr (w30.heap.size) hi' 163 14 (((x.fSpecializations).take n).map TSpecialization.enc) v') ∧ Hid (Bx wr (w.heap.size) [.slice a1 (x.fSpecializations).length cap2, .slice a6 (x.fTables).length cap7] 35) ∧ Hid (Bx wr (w11.heap.size) [.slice none 0 0, .slice none 0 0] 35) ∧ Hid (Bx wr (w16.heap.size) [v', .slice none 0 0] 35) ∧ Hid (Below w.heap.size w wr) ∧ w30.heap.size ≤ wr.heap.size) (fun i _ => (x.fSpecializations).length - (intOf i).toNat)
 case atStart => exact ⟨0, _, _, Nat.zero_le _, rfl, R34, B15, B20, B25, hV, Nat.le_refl _⟩
 case round =>
  clear R34 B15 B20 B25 hV
  obtain ⟨n36, v37, hi38, hn, rfl, R34, B15, B20, B25, hV, z39⟩ := hrel
  rename World => w35
  have lb15_w35 := B15.out.lt
  have lb20_w35 := B20.out.lt
  have lb25_w35 := B25.out.lt
  have lr34_w35 := R34.out.1; have lr34_w35_ := R34.out.2.1
  by_cases hlt : n36 < (x.fSpecializations).length
  ·
   obtain ⟨bk40, of41, rfl, hb42, cs43, hcs44, hr45⟩ := hE5.out n36 hlt
   replace hcs44 := Lib.hid hcs44; replace hr45 := Lib.hid hr45
   have hmem : (x.fSpecializations)[n36] ∈ x.fSpecializations := List.getElem_mem hlt
   have Ht := Lib.hid (take_snoc (fun y => y) hlt)
   have Hl := Lib.hid (show (((x.fSpecializations).take n36)).length = n36 from by simp; omega)
   have Hs := Lib.hid (show SizeOf.sizeOf (x.fSpecializations)[n36] < SizeOf.sizeOf (x.fSpecializations) from List.sizeOf_lt_of_mem hmem)
   have Hz := Lib.hid (show TSpecialization.sz (x.fSpecializations)[n36] ≤ 1048576 from (by have h1 := szL_le TSpecialization.sz hmem; have h0 := (by have h0 := hz.out; rw [TMonoProgram.sz_eq] at h0; omega); unfold szs at h0; omega))
   generalize (x.fSpecializations)[n36] = y45 at *
   have e45_one := Lib.hid (Rep.one _ _ (hr45.out))
   obtain ⟨e45_1, e45_2, e45_3, e45_4, e45_5, e45_6, e45_7, e45_8, e45_9, e45_10, e45_11, e45_12, e45_13, rfl, he45_Unit, he45_TypeArgs, he45_Params, he45_Body⟩ := TSpecialization.opn (hr45.out)
   replace he45_Unit := Lib.hid he45_Unit
   replace he45_TypeArgs := Lib.hid he45_TypeArgs
   replace he45_Params := Lib.hid he45_Params
   replace he45_Body := Lib.hid he45_Body
   have g46 : w35.cell? ⟨w.heap.size, 0, none⟩ = some (.slice (some ⟨bk40, of41, none⟩) (x.fSpecializations).length cap2) := B15.out.cell 0 rfl
   have hc47 : Cells w35 (bk40) (of41 + n36 * 14) [.int .i64 y45.fUnit, e45_1, e45_2, e45_3, e45_4, e45_5, e45_6, e45_7, e45_8, e45_9, e45_10, e45_11, e45_12, e45_13] := (hcs44.out.ext hV.out (hK _ hb42))
   have hi48 : (Tryz.prog.info? 163).map (·.size) = some ([.int .i64 y45.fUnit, e45_1, e45_2, e45_3, e45_4, e45_5, e45_6, e45_7, e45_8, e45_9, e45_10, e45_11, e45_12, e45_13] : List Value).length := isz163We
   go_wp2_with (first | (with_reducible refine ld rfl 163 _ rfl (bk40) (of41 + n36 * 14) rfl [.int .i64 y45.fUnit, e45_1, e45_2, e45_3, e45_4, e45_5, e45_6, e45_7, e45_8, e45_9, e45_10, e45_11, e45_12, e45_13] hc47 _ Tryz.underlying163 hi48 ?_) | (with_reducible refine e_al rfl 163 rfl [.int .i64 0, .slice none 0 0, .slice none 0 0, .int .i64 0, .string ⟨#[]⟩, .string ⟨#[]⟩, .int .i64 0, .int .i64 0, .string ⟨#[]⟩, .slice none 0 0, .slice none 0 0, .slice none 0 0, .slice none 0 0, .slice none 0 0] izr163We rfl ?_))
   intro w49 c50 b51
   clear g46 hc47 hi48
   replace B15 := Lib.hid (B15.out.ch c50 (.inr (.inr (Nat.le_refl _))))
   replace B20 := Lib.hid (B20.out.ch c50 (.inr (.inr (Nat.le_refl _))))
   replace B25 := Lib.hid (B25.out.ch c50 (.inr (.inr (Nat.le_refl _))))
   replace R34 := Lib.hid (R34.out.ch c50 (.inr (.inr (Nat.le_refl _))))
   replace hV := Lib.hid (below_ch hV.out c50 (.inr (Nat.le_refl _)) hV.out.size)
   have z52 := c50.size
   clear c50
   have B53 := Lib.hid b51; have lb53 := b51.lt; clear b51
   have hi57 := Lib.hid (show (Tryz.prog.info? 163).map (·.size) = some ([.int .i64 y45.fUnit, e45_1, e45_2, e45_3, e45_4, e45_5, e45_6, e45_7, e45_8, e45_9, e45_10, e45_11, e45_12, e45_13] : List Value).length from isz163We)
   have hf54 := Lib.hid (show 0 + ([.int .i64 y45.fUnit, e45_1, e45_2, e45_3, e45_4, e45_5, e45_6, e45_7, e45_8, e45_9, e45_10, e45_11, e45_12, e45_13] : List Value).length ≤ ([.int .i64 0, .slice none 0 0, .slice none 0 0, .int .i64 0, .string ⟨#[]⟩, .string ⟨#[]⟩, .int .i64 0, .int .i64 0, .string ⟨#[]⟩, .slice none 0 0, .slice none 0 0, .slice none 0 0, .slice none 0 0, .slice none 0 0] : List Value).length from (by decide : 14 ≤ 14))
   have ha55 := Lib.hid (show ([.int .i64 0, .slice none 0 0, .slice none 0 0, .int .i64 0, .string ⟨#[]⟩, .string ⟨#[]⟩, .int .i64 0, .int .i64 0, .string ⟨#[]⟩, .slice none 0 0, .slice none 0 0, .slice none 0 0, .slice none 0 0, .slice none 0 0] : List Value).take 0 ++ [.int .i64 y45.fUnit, e45_1, e45_2, e45_3, e45_4, e45_5, e45_6, e45_7, e45_8, e45_9, e45_10, e45_11, e45_12, e45_13] ++ ([.int .i64 0, .slice none 0 0, .slice none 0 0, .int .i64 0, .string ⟨#[]⟩, .string ⟨#[]⟩, .int .i64 0, .int .i64 0, .string ⟨#[]⟩, .slice none 0 0, .slice none 0 0, .slice none 0 0, .slice none 0 0, .slice none 0 0] : List Value).drop (0 + ([.int .i64 y45.fUnit, e45_1, e45_2, e45_3, e45_4, e45_5, e45_6, e45_7, e45_8, e45_9, e45_10, e45_11, e45_12, e45_13] : List Value).length) = [.int .i64 y45.fUnit, e45_1, e45_2, e45_3, e45_4, e45_5, e45_6, e45_7, e45_8, e45_9, e45_10, e45_11, e45_12, e45_13] from rfl)
   have ho56 := Lib.hid (show ∀ u ∈ ([.int .i64 y45.fUnit, e45_1, e45_2, e45_3, e45_4, e45_5, e45_6, e45_7, e45_8, e45_9, e45_10, e45_11, e45_12, e45_13] : List Value), u.oneCell' = true from (one_cons rfl (one_cons (e45_one.out _ (by simp)) (one_cons (e45_one.out _ (by simp)) (one_cons (e45_one.out _ (by simp)) (one_cons (e45_one.out _ (by simp)) (one_cons (e45_one.out _ (by simp)) (one_cons (e45_one.out _ (by simp)) (one_cons (e45_one.out _ (by simp)) (one_cons (e45_one.out _ (by simp)) (one_cons (e45_one.out _ (by simp)) (one_cons (e45_one.out _ (by simp)) (one_cons (e45_one.out _ (by simp)) (one_cons (e45_one.out _ (by simp)) (one_cons (e45_one.out _ (by simp)) one_nil)))))))))))))))
   go_wp2_with (with_reducible refine e_st rfl 163 _ _ rfl (w35.heap.size) 0 rfl [.int .i64 y45.fUnit, e45_1, e45_2, e45_3, e45_4, e45_5, e45_6, e45_7, e45_8, e45_9, e45_10, e45_11, e45_12, e45_13] rfl hi57.out ho56.out [.int .i64 0, .slice none 0 0, .slice none 0 0, .int .i64 0, .string ⟨#[]⟩, .string ⟨#[]⟩, .int .i64 0, .int .i64 0, .string ⟨#[]⟩, .slice none 0 0, .slice none 0 0, .slice none 0 0, .slice none 0 0, .slice none 0 0] [.int .i64 y45.fUnit, e45_1, e45_2, e45_3, e45_4, e45_5, e45_6, e45_7, e45_8, e45_9, e45_10, e45_11, e45_12, e45_13] 163 B53.out hf54.out ha55.out ?_)
   intro w58 c59 b60
   replace B15 := Lib.hid (B15.out.ch c59 (by omega))
   replace B20 := Lib.hid (B20.out.ch c59 (by omega))
   replace B25 := Lib.hid (B25.out.ch c59 (by omega))
   replace R34 := Lib.hid (R34.out.ch c59 (by omega))
   replace hV := Lib.hid (below_ch hV.out c59 (by omega) hV.out.size)
   have z61 := c59.size
   clear c59
   replace B53 := Lib.hid b60; clear b60 hi57 hf54 ha55 ho56
   go_wp2_with fail
   refine rj 19 16 (Below w58.drew.heap.size w58.drew) (by kernel_rfl) rfl ?_
   have c63 : Ch w58 w58.drew 0 0 := Ch.of_below (Below.refl _ _).drew
   generalize w58.drew = w62 at *
   replace B15 := Lib.hid (B15.out.ch c63 (.inr (.inr (Nat.le_refl _))))
   replace B20 := Lib.hid (B20.out.ch c63 (.inr (.inr (Nat.le_refl _))))
   replace B25 := Lib.hid (B25.out.ch c63 (.inr (.inr (Nat.le_refl _))))
   replace B53 := Lib.hid (B53.out.ch c63 (.inr (.inr (Nat.le_refl _))))
   replace R34 := Lib.hid (R34.out.ch c63 (.inr (.inr (Nat.le_refl _))))
   replace hV := Lib.hid (below_ch hV.out c63 (.inr (Nat.le_refl _)) hV.out.size)
   have z64 := c63.size
   clear c63
   have hI := Lib.hid (Below.refl w62.heap.size w62)
   refine rj_seg (fuel := 9) [0, 1, 2, 3, 4, 5, 8, 9, 11, 12] hI.out (by kernel_rfl) rfl ?_
   simp only [pick, pD, pE]
   refine sg_fix _ rfl (fun w' h' => by go_simp; rfl) ?_
   simp only [Act.put, pA, pB, pC]
   refine sg_fix _ rfl (fun w' h' => by have h0 : w'.cell? ⟨w16.heap.size, 0, none⟩ = some (v37) := (B25.out.below h').cell 0 rfl; go_simp; rfl) ?_
   simp only [Act.put, pA, pB, pC]
   refine sg_fix _ rfl (fun w' h' => by go_simp; rfl) ?_
   simp only [Act.put, pA, pB, pC]
   refine sg_fix _ rfl (fun w' h' => by have h0 : w'.cell? ⟨w35.heap.size, 0, none⟩ = some (.int .i64 y45.fUnit) := (B53.out.below h').cell 0 rfl; go_simp; rfl) ?_
   simp only [Act.put, pA, pB, pC]
   refine sg_fix _ rfl (fun w' h' => by go_simp; rfl) ?_
   simp only [Act.put, pA, pB, pC]
   refine sg_fix _ rfl (fun w' h' => by have h0 : w'.cell? ⟨w35.heap.size, 1, none⟩ = some (e45_1) := (B53.out.below h').cell 1 rfl; go_simp; rfl) ?_
   simp only [Act.put, pA, pB, pC]
   refine sg_fix _ rfl (fun w' h' => by go_simp; rfl) ?_
   simp only [Act.put, pA, pB, pC]
   refine sg_fix _ rfl (fun w' h' => by have h0 : w'.cell? ⟨w35.heap.size, 2, none⟩ = some (e45_2) := (B53.out.below h').cell 2 rfl; go_simp; rfl) ?_
   simp only [Act.put, pA, pB, pC]
   refine sg_fix _ rfl (fun w' h' => by go_simp; rfl) ?_
   simp only [Act.put, pA, pB, pC]
   refine sg_fix _ rfl (fun w' h' => by exact run_ld 136 _ rfl (w35.heap.size) (0 + 3) rfl [e45_3, e45_4, e45_5, e45_6, e45_7, e45_8, e45_9, e45_10, e45_11, e45_12, e45_13] (cells_sub (o := 0) 3 ((B53.out.below h').cells) rfl) _ Tryz.underlying136 isz136We) ?_
   simp only [Act.put, pA, pB, pC]
   refine sg_nil ?_
   refine rj_es (fuel := 5) [⟨6, none, false, gdSl TType.enc (y45.fTypeArgs)⟩, ⟨7, none, false, gdRow 9⟩, ⟨10, some 7, false, gdSl encS (y45.fParams)⟩, ⟨13, none, false, gdAg (TCore.enc y45.fBody)⟩] (by kernel_rfl) rfl (fun w' h' => h') (fun e he hd hfi w' h' => ?_) (fun e he f hf hd w' v lo hi h' hg hl hh => ?_) (fun e he hfi xs w' hA => ?_) (fun e he hfi => ?_) (fun xs wk h' hF hA hD => ?_)
   ·simp only [List.mem_cons, List.not_mem_nil, or_false] at he
    rcases he with rfl | rfl | rfl | rfl
    ·simp only [pick, pD, pE]
     refine ov_call rfl 90 #[e45_1] (by go_simp <;> rfl) ?_
     exact (specl4Copies_o (y45.fTypeArgs) (by have h0 := Hz.out; rw [TSpecialization.sz_eq] at h0; omega) _ _ (fun b h => Nat.lt_of_lt_of_le (hK b h) (Nat.le_trans hV.out.size h'.size)) _ ((Rep.ext (hV.out.trans (h'.mono hV.out.size)) hK (he45_TypeArgs.out)))).mono fun e w2 ⟨a, p, he, ho, hb⟩ => ⟨_, he, hb, a, p, rfl, ho⟩
    ·simp only [pick, pD, pE]
     exact v_bs0 rfl 48 rfl Tryz.underlying48 iso9We
    ·exact absurd hd (by simp)
    ·simp only [pick, pD, pE]
     refine ov_call rfl 91 #[.agg #[e45_3, e45_4, e45_5, e45_6, e45_7, e45_8, e45_9, e45_10, e45_11, e45_12, e45_13]] (by go_simp <;> rfl) ?_
     exact (specl31Copy_o (y45.fBody) (by have h0 := Hz.out; rw [TSpecialization.sz_eq] at h0; omega) _ _ (fun b h => Nat.lt_of_lt_of_le (hK b h) (Nat.le_trans hV.out.size h'.size)) _ ((Rep.ext (hV.out.trans (h'.mono hV.out.size)) hK (he45_Body.out)))).mono fun e w2 ⟨cs', he, ho, hb⟩ => ⟨_, he, hb, cs', rfl, ho⟩
   ·simp only [List.mem_cons, List.not_mem_nil, or_false] at he hf
    rcases he with rfl | rfl | rfl | rfl <;> rcases hf with rfl | rfl | rfl | rfl <;> first | (simp at hd; done) | skip
    ·simp only [pick, pD, pE]
     simp only [dstOf, pD, pE, Option.bind_some]
     simp only [Act.put, pA, pB, pC]
     exact v_ap (v := v) (xv := e45_2) rfl _ _ 48 rfl (.string ⟨#[]⟩) 16 Tryz.underlying48 irw9We irz9We (by decide) rfl hg rfl (Rep.ext (hV.out.trans (h'.mono hV.out.size)) hK (he45_Params.out)) hh encS_w flatS (by unfold maxLen; have := (show (y45.fParams).length ≤ 1048576 from (by have h0 := (by have h0 := Hz.out; rw [TSpecialization.sz_eq] at h0; omega); unfold szs at h0; omega)); omega) (by have := (show (y45.fParams).length ≤ 1048576 from (by have h0 := (by have h0 := Hz.out; rw [TSpecialization.sz_eq] at h0; omega); unfold szs at h0; omega)); omega)
   ·simp only [List.mem_cons, List.not_mem_nil, or_false] at he
    (rcases he with rfl | rfl | rfl | rfl) <;> exact absurd hfi (by simp)
   ·simp only [List.mem_cons, List.not_mem_nil, or_false] at he
    (rcases he with rfl | rfl | rfl | rfl) <;> first | rfl | (cases hfi; done)
   ·
    obtain ⟨v6, lo6, hi6, xs, rfl, g6, l6, u6, hA⟩ := hA
    obtain ⟨v7, lo7, hi7, xs, rfl, g7, l7, u7, hA⟩ := hA
    obtain ⟨v10, lo10, hi10, xs, rfl, g10, l10, u10, hA⟩ := hA
    obtain ⟨v13, lo13, hi13, xs, rfl, g13, l13, u13, hA⟩ := hA
    have hA : xs = [] := hA; subst hA
    obtain ⟨⟨-, q6_10, q6_13, -⟩, ⟨-, -, -⟩, ⟨q10_13, -⟩, -, -⟩ := hD
    clear hF
    have q6_10 : hi6 ≤ lo10 ∨ hi10 ≤ lo6 := q6_10 (by simp) (by simp)
    have q6_13 : hi6 ≤ lo13 ∨ hi13 ≤ lo6 := q6_13 (by simp) (by simp)
    have q10_13 : hi10 ≤ lo13 ∨ hi13 ≤ lo10 := q10_13 (by simp) (by simp)
    replace hI := Lib.hid h'
    have c65 := Ch.of_below h'; clear h'
    replace g6 := g6 (by intro f hf; simp only [List.mem_cons, List.not_mem_nil, or_false] at hf; rcases hf with rfl | rfl | rfl | rfl <;> simp)
    clear g7 l7 u7
    replace g10 := g10 (by intro f hf; simp only [List.mem_cons, List.not_mem_nil, or_false] at hf; rcases hf with rfl | rfl | rfl | rfl <;> simp)
    replace g13 := g13 (by intro f hf; simp only [List.mem_cons, List.not_mem_nil, or_false] at hf; rcases hf with rfl | rfl | rfl | rfl <;> simp)
    obtain ⟨a66, p66, rfl, o66⟩ := g6
    have X66 := Lib.hid o66; clear o66
    obtain ⟨a67, p67, rfl, o67⟩ := g10
    have X67 := Lib.hid o67; clear o67
    obtain ⟨cs68, rfl, o68⟩ := g13
    have d68_one := Lib.hid (Rep.one _ _ (o68.rep))
    obtain ⟨d68_4, d68_5, d68_6, d68_7, d68_8, d68_9, d68_10, rfl, hd68_Kind, hd68_Trait, hd68_Name, hd68_N, hd68_Type, hd68_TypeArgs, hd68_Evidence, hd68_Args, hd68_Arms⟩ := TCore.opn (o68.rep)
    replace hd68_Kind := Lib.hid hd68_Kind
    replace hd68_Trait := Lib.hid hd68_Trait
    replace hd68_Name := Lib.hid hd68_Name
    replace hd68_N := Lib.hid hd68_N
    replace hd68_Type := Lib.hid hd68_Type
    replace hd68_TypeArgs := Lib.hid hd68_TypeArgs
    replace hd68_Evidence := Lib.hid hd68_Evidence
    replace hd68_Args := Lib.hid hd68_Args
    replace hd68_Arms := Lib.hid hd68_Arms
    have X68 := Lib.hid o68; clear o68
    simp only [putE, dstOf, pD, pE, Option.bind_some]
    simp only [Act.put, pA, pB, pC]
    generalize wk = w69 at *
    replace B15 := Lib.hid (B15.out.ch c65 (.inr (.inr (Nat.le_refl _))))
    replace B20 := Lib.hid (B20.out.ch c65 (.inr (.inr (Nat.le_refl _))))
    replace B25 := Lib.hid (B25.out.ch c65 (.inr (.inr (Nat.le_refl _))))
    replace B53 := Lib.hid (B53.out.ch c65 (.inr (.inr (Nat.le_refl _))))
    replace R34 := Lib.hid (R34.out.ch c65 (.inr (.inr (Nat.le_refl _))))
    replace hV := Lib.hid (below_ch hV.out c65 (.inr (Nat.le_refl _)) hV.out.size)
    have z70 := c65.size
    clear c65
    have lx66 := X66.out.1
    have lx67 := X67.out.1
    have lx68 := X68.out.1
    refine rj_free (fuel := 4) [14] hI.out (by kernel_rfl) rfl ?_
    simp only [pick, pD, pE]
    refine sg_fix _ rfl (fun w' h' => by go_simp; rfl) ?_
    simp only [Act.put, pA, pB, pC]
    refine sg_nil ?_
    refine rj_one (fuel := 3) 15 (by kernel_rfl) rfl (fun K0 K71 => ?_)
    simp only [pick, pD, pE]
    have hl75 : ([.int .i64 y45.fUnit, .slice a66 (y45.fTypeArgs).length p66, .slice a67 (y45.fParams).length p67, .int .i64 y45.fBody.fKind, .string y45.fBody.fTrait, .string y45.fBody.fName, .int .i64 y45.fBody.fN, d68_4, d68_5, d68_6, d68_7, d68_8, d68_9, d68_10] : List Value).length = 14 := rfl
    refine q_bs1 rfl 33 _ rfl Tryz.underlying33 irw163We (by decide) (by decide) _ rfl [.int .i64 y45.fUnit, .slice a66 (y45.fTypeArgs).length p66, .slice a67 (y45.fParams).length p67, .int .i64 y45.fBody.fKind, .string y45.fBody.fTrait, .string y45.fBody.fName, .int .i64 y45.fBody.fN, d68_4, d68_5, d68_6, d68_7, d68_8, d68_9, d68_10] rfl hl75 ?_
    intro w72 c73 b74
    replace hI := Lib.hid (below_ch hI.out c73 (.inr (Nat.le_refl _)) hI.out.size)
    refine K71 _ _ (fun _ => hI.out) ?_
    simp only [Act.put, pA, pB, pC]
    clear hl75
    replace B15 := Lib.hid (B15.out.ch c73 (.inr (.inr (Nat.le_refl _))))
    replace B20 := Lib.hid (B20.out.ch c73 (.inr (.inr (Nat.le_refl _))))
    replace B25 := Lib.hid (B25.out.ch c73 (.inr (.inr (Nat.le_refl _))))
    replace B53 := Lib.hid (B53.out.ch c73 (.inr (.inr (Nat.le_refl _))))
    replace X66 := Lib.hid (X66.out.ch c73 (.inr (.inr (Nat.le_refl _))))
    replace X67 := Lib.hid (X67.out.ch c73 (.inr (.inr (Nat.le_refl _))))
    replace X68 := Lib.hid (X68.out.ch c73 (.inr (.inr (Nat.le_refl _))))
    replace R34 := Lib.hid (R34.out.ch c73 (.inr (.inr (Nat.le_refl _))))
    replace hV := Lib.hid (below_ch hV.out c73 (.inr (Nat.le_refl _)) hV.out.size)
    have z76 := c73.size
    clear c73
    have B77 := Lib.hid b74; have lb77 := b74.lt; clear b74
    refine rj_one (fuel := 2) 16 (by kernel_rfl) rfl (fun K0 K78 => ?_)
    simp only [pick, pD, pE]
    have X83 : Hid (Ow w72 (w62.heap.size) (w72.heap.size) (TSpecialization.enc y45) [.int .i64 y45.fUnit, .slice a66 (y45.fTypeArgs).length p66, .slice a67 (y45.fParams).length p67, .int .i64 y45.fBody.fKind, .string y45.fBody.fTrait, .string y45.fBody.fName, .int .i64 y45.fBody.fN, d68_4, d68_5, d68_6, d68_7, d68_8, d68_9, d68_10]) := Lib.hid ((by rw [TSpecialization.enc_eq]; exact Ow.st (OwS.leaf (ownI he45_Unit.out) (OwS.cons (c1 := [.slice a66 (y45.fTypeArgs).length p66]) (c2 := [.slice a67 (y45.fParams).length p67, .int .i64 y45.fBody.fKind, .string y45.fBody.fTrait, .string y45.fBody.fName, .int .i64 y45.fBody.fN, d68_4, d68_5, d68_6, d68_7, d68_8, d68_9, d68_10]) (X66.out) (OwS.cons (c1 := [.slice a67 (y45.fParams).length p67]) (c2 := [.int .i64 y45.fBody.fKind, .string y45.fBody.fTrait, .string y45.fBody.fName, .int .i64 y45.fBody.fN, d68_4, d68_5, d68_6, d68_7, d68_8, d68_9, d68_10]) (X67.out) (OwS.cons (c1 := [.int .i64 y45.fBody.fKind, .string y45.fBody.fTrait, .string y45.fBody.fName, .int .i64 y45.fBody.fN, d68_4, d68_5, d68_6, d68_7, d68_8, d68_9, d68_10]) (c2 := []) (X68.out) (OwS.nil) (by simp)) (by intro p hp; simp only [List.mem_cons, List.not_mem_nil, or_false] at hp; subst hp <;> (show _ ≤ _ ∨ _ ≤ _; omega))) (by intro p hp; simp only [List.mem_cons, List.not_mem_nil, or_false] at hp; rcases hp with rfl | rfl <;> (show _ ≤ _ ∨ _ ≤ _; omega)))) (by intro p hp; simp only [List.mem_cons, List.not_mem_nil, or_false] at hp; rcases hp with rfl | rfl | rfl <;> (show _ ≤ _ ∧ _ ≤ _; omega)) (by omega)))
    have lx83 := X83.out.1
    have hb84 : ((((x.fSpecializations).take n36)).map TSpecialization.enc).length + 1 ≤ 1048577 := by simp only [List.length_map, List.length_take] <;> omega
    have hw85 : (TSpecialization.enc y45).width = 14 := TSpecialization.width _
    have hc86 := B77.out.cells
    have h6387 : ((((x.fSpecializations).take n36)).map TSpecialization.enc).length + 1 ≤ maxLen := by unfold maxLen; omega
    have hby88 : (((((x.fSpecializations).take n36)).map TSpecialization.enc).length + 1) * 248 ≤ 140737488355328 := by omega
    have hd89 : w72.heap.size ≤ w30.heap.size ∨ hi38 ≤ w62.heap.size := by omega
    have hl90 : w30.heap.size ≤ w62.heap.size := by omega
    refine q_ap rfl _ _ 33 rfl (.agg #[.int .i64 0, .slice none 0 0, .slice none 0 0, .int .i64 0, .string ⟨#[]⟩, .string ⟨#[]⟩, .int .i64 0, .int .i64 0, .string ⟨#[]⟩, .slice none 0 0, .slice none 0 0, .slice none 0 0, .slice none 0 0, .slice none 0 0]) 248 Tryz.underlying33 irw163We irz163We (by decide) rfl R34.out (w69.heap.size) rfl hw85 hc86 X83.out hd89 hl90 h6387 hby88 ?_
    intro v81 w82 hG79 c80
    clear hb84 hw85 hc86 h6387 hby88 hd89 hl90
    clear B77 lb77
    clear X83
    have hG_ : Gw w82 (w30.heap.size) w82.heap.size 163 14 ((((x.fSpecializations).take n36) ++ [y45]).map TSpecialization.enc) v81 := by (have h := hG79; simp only [List.map_append, List.map_take, List.map_cons, List.map_nil] at h ⊢; exact h)
    clear hG79
    refine K78 _ _ (jw_done (by kernel_rfl)) ?_
    simp only [Act.put, pA, pB, pC]
    replace B15 := Lib.hid (B15.out.ch c80 (by omega))
    replace B20 := Lib.hid (B20.out.ch c80 (by omega))
    replace B25 := Lib.hid (B25.out.ch c80 (by omega))
    replace B53 := Lib.hid (B53.out.ch c80 (by omega))
    replace X66 := Lib.hid (X66.out.ch c80 (by omega))
    replace X67 := Lib.hid (X67.out.ch c80 (by omega))
    replace X68 := Lib.hid (X68.out.ch c80 (by omega))
    replace hV := Lib.hid (below_ch hV.out c80 (by omega) hV.out.size)
    have z91 := c80.size
    clear c80
    replace R34 := Lib.hid hG_; clear hG_
    have lr34_w82 := R34.out.2.1
    refine rj_free' (fuel := 1) [17] (by kernel_rfl) rfl ?_
    simp only [pick, pD, pE]
    refine sg_fix _ rfl (fun w' h' => by go_simp; rfl) ?_
    simp only [Act.put, pA, pB, pC]
    refine sg_nil ?_
    refine rj_one (fuel := 0) 18 (by kernel_rfl) rfl (fun K0 K92 => ?_)
    simp only [pick, pD, pE]
    have hf93 := Lib.hid (show 0 < ([v37, .slice none 0 0] : List Value).length from (by decide : 0 < 2))
    have ha94 := Lib.hid (show ([v37, .slice none 0 0] : List Value).take 0 ++ [v81] ++ ([v37, .slice none 0 0] : List Value).drop (0 + 1) = [v81, .slice none 0 0] from rfl)
    have ho95 := Lib.hid (show (v81 : Value).oneCell' = true from R34.out.one)
    refine q_st1 rfl 33 _ _ rfl (w16.heap.size) 0 rfl (v81) rfl isz33We ho95.out [v37, .slice none 0 0] [v81, .slice none 0 0] 35 B25.out hf93.out ha94.out ?_
    intro w96 c97 b98
    refine K92 _ _ (jw_done (by kernel_rfl)) ?_
    refine rj_end (by kernel_rfl) ?_
    (try simp only [Act.put])
    (try simp only [Act.put, pA, pB, pC])
    replace B15 := Lib.hid (B15.out.ch c97 (by omega))
    replace B20 := Lib.hid (B20.out.ch c97 (by omega))
    replace B53 := Lib.hid (B53.out.ch c97 (by omega))
    replace X66 := Lib.hid (X66.out.ch c97 (by omega))
    replace X67 := Lib.hid (X67.out.ch c97 (by omega))
    replace X68 := Lib.hid (X68.out.ch c97 (by omega))
    replace R34 := Lib.hid (R34.out.ch c97 (by omega))
    replace hV := Lib.hid (below_ch hV.out c97 (by omega) hV.out.size)
    have z99 := c97.size
    clear c97
    replace B25 := Lib.hid b98; clear b98 hf93 ha94 ho95
    go_wp2_with fail
    go_roundw
    case rel => exact ⟨n36 + 1, _, _, hlt, by go_num, Lib.hid (by have hR := R34.out; rw [show _ ++ [y45] = _ from (by have := Ht.out; simpa using this)] at hR; exact hR), B15, B20, B25, hV, by omega⟩
    case measure => simp [intOf]; omega
  ·
   obtain rfl : n36 = (x.fSpecializations).length := by omega
   have hR := R34.out; rw [List.take_of_length_le (Nat.le_refl _)] at hR; replace R34 := Lib.hid hR; clear hR
   have g100 : w35.cell? ⟨w.heap.size, 0, none⟩ = some (.slice a1 (x.fSpecializations).length cap2) := B15.out.cell 0 rfl
   go_wp2_with fail
   have R101 := Lib.hid (Gw.nil w35 w35.heap.size 91 5 (Nat.le_refl _)); have lr101 := R101.out.1
   obtain ⟨a34, p34, rfl, o34⟩ := R34.out.ow
   have X34 := Lib.hid o34; have lx34 := o34.1; clear o34 R34
   go_loopw [6] (fun i wr => ∃ (n : Nat) (v' : Value) (hi' : Nat), n ≤ (x.fTables).length ∧ i = .int .i64 n ∧ Hid (Gw wr (w35.heap.size) hi' 91 5 (((x.fTables).take n).map TMethodTable.enc) v') ∧ Hid (Bx wr (w.heap.size) [.slice a1 (x.fSpecializations).length cap2, .slice a6 (x.fTables).length cap7] 35) ∧ Hid (Bx wr (w11.heap.size) [.slice none 0 0, .slice none 0 0] 35) ∧ Hid (Bx wr (w16.heap.size) [.slice a34 (x.fSpecializations).length p34, v'] 35) ∧ Hid (Ow wr (w30.heap.size) (hi38) (.sl ((x.fSpecializations).map TSpecialization.enc)) [.slice a34 (x.fSpecializations).length p34]) ∧ Hid (Below w.heap.size w wr) ∧ w35.heap.size ≤ wr.heap.size) (fun i _ => (x.fTables).length - (intOf i).toNat)
   case atStart => exact ⟨0, _, _, Nat.zero_le _, rfl, R101, B15, B20, B25, X34, hV, Nat.le_refl _⟩
   case round =>
    clear g100
    clear R101 B15 B20 B25 X34 hV
    obtain ⟨n103, v104, hi105, hn, rfl, R101, B15, B20, B25, X34, hV, z106⟩ := hrel
    rename World => w102
    have lb15_w102 := B15.out.lt
    have lb20_w102 := B20.out.lt
    have lb25_w102 := B25.out.lt
    have lx34_w102 := X34.out.1
    have lr101_w102 := R101.out.1; have lr101_w102_ := R101.out.2.1
    by_cases hlt : n103 < (x.fTables).length
    ·
     obtain ⟨bk107, of108, rfl, hb109, cs110, hcs111, hr112⟩ := hE10.out n103 hlt
     replace hcs111 := Lib.hid hcs111; replace hr112 := Lib.hid hr112
     have hmem : (x.fTables)[n103] ∈ x.fTables := List.getElem_mem hlt
     have Ht := Lib.hid (take_snoc (fun y => y) hlt)
     have Hl := Lib.hid (show (((x.fTables).take n103)).length = n103 from by simp; omega)
     have Hs := Lib.hid (show SizeOf.sizeOf (x.fTables)[n103] < SizeOf.sizeOf (x.fTables) from List.sizeOf_lt_of_mem hmem)
     have Hz := Lib.hid (show TMethodTable.sz (x.fTables)[n103] ≤ 1048576 from (by have h1 := szL_le TMethodTable.sz hmem; have h0 := (by have h0 := hz.out; rw [TMonoProgram.sz_eq] at h0; omega); unfold szs at h0; omega))
     generalize (x.fTables)[n103] = y112 at *
     have e112_one := Lib.hid (Rep.one _ _ (hr112.out))
     obtain ⟨e112_1, e112_2, e112_3, e112_4, rfl, he112_Trait, he112_Type, he112_Entries⟩ := TMethodTable.opn (hr112.out)
     replace he112_Trait := Lib.hid he112_Trait
     replace he112_Type := Lib.hid he112_Type
     replace he112_Entries := Lib.hid he112_Entries
     have g113 : w102.cell? ⟨w.heap.size, 1, none⟩ = some (.slice (some ⟨bk107, of108, none⟩) (x.fTables).length cap7) := B15.out.cell 1 rfl
     have hc114 : Cells w102 (bk107) (of108 + n103 * 5) [.string y112.fTrait, e112_1, e112_2, e112_3, e112_4] := (hcs111.out.ext hV.out (hK _ hb109))
     have hi115 : (Tryz.prog.info? 91).map (·.size) = some ([.string y112.fTrait, e112_1, e112_2, e112_3, e112_4] : List Value).length := isz91We
     go_wp2_with (first | (with_reducible refine ld rfl 91 _ rfl (bk107) (of108 + n103 * 5) rfl [.string y112.fTrait, e112_1, e112_2, e112_3, e112_4] hc114 _ Tryz.underlying91 hi115 ?_) | (with_reducible refine e_al rfl 91 rfl [.string ⟨#[]⟩, .int .i64 0, .string ⟨#[]⟩, .slice none 0 0, .slice none 0 0] izr91We rfl ?_))
     intro w116 c117 b118
     clear g113 hc114 hi115
     replace B15 := Lib.hid (B15.out.ch c117 (.inr (.inr (Nat.le_refl _))))
     replace B20 := Lib.hid (B20.out.ch c117 (.inr (.inr (Nat.le_refl _))))
     replace B25 := Lib.hid (B25.out.ch c117 (.inr (.inr (Nat.le_refl _))))
     replace X34 := Lib.hid (X34.out.ch c117 (.inr (.inr (Nat.le_refl _))))
     replace R101 := Lib.hid (R101.out.ch c117 (.inr (.inr (Nat.le_refl _))))
     replace hV := Lib.hid (below_ch hV.out c117 (.inr (Nat.le_refl _)) hV.out.size)
     have z119 := c117.size
     clear c117
     have B120 := Lib.hid b118; have lb120 := b118.lt; clear b118
     have hi124 := Lib.hid (show (Tryz.prog.info? 91).map (·.size) = some ([.string y112.fTrait, e112_1, e112_2, e112_3, e112_4] : List Value).length from isz91We)
     have hf121 := Lib.hid (show 0 + ([.string y112.fTrait, e112_1, e112_2, e112_3, e112_4] : List Value).length ≤ ([.string ⟨#[]⟩, .int .i64 0, .string ⟨#[]⟩, .slice none 0 0, .slice none 0 0] : List Value).length from (by decide : 5 ≤ 5))
     have ha122 := Lib.hid (show ([.string ⟨#[]⟩, .int .i64 0, .string ⟨#[]⟩, .slice none 0 0, .slice none 0 0] : List Value).take 0 ++ [.string y112.fTrait, e112_1, e112_2, e112_3, e112_4] ++ ([.string ⟨#[]⟩, .int .i64 0, .string ⟨#[]⟩, .slice none 0 0, .slice none 0 0] : List Value).drop (0 + ([.string y112.fTrait, e112_1, e112_2, e112_3, e112_4] : List Value).length) = [.string y112.fTrait, e112_1, e112_2, e112_3, e112_4] from rfl)
     have ho123 := Lib.hid (show ∀ u ∈ ([.string y112.fTrait, e112_1, e112_2, e112_3, e112_4] : List Value), u.oneCell' = true from (one_cons rfl (one_cons (e112_one.out _ (by simp)) (one_cons (e112_one.out _ (by simp)) (one_cons (e112_one.out _ (by simp)) (one_cons (e112_one.out _ (by simp)) one_nil))))))
     go_wp2_with (with_reducible refine e_st rfl 91 _ _ rfl (w102.heap.size) 0 rfl [.string y112.fTrait, e112_1, e112_2, e112_3, e112_4] rfl hi124.out ho123.out [.string ⟨#[]⟩, .int .i64 0, .string ⟨#[]⟩, .slice none 0 0, .slice none 0 0] [.string y112.fTrait, e112_1, e112_2, e112_3, e112_4] 91 B120.out hf121.out ha122.out ?_)
     intro w125 c126 b127
     replace B15 := Lib.hid (B15.out.ch c126 (by omega))
     replace B20 := Lib.hid (B20.out.ch c126 (by omega))
     replace B25 := Lib.hid (B25.out.ch c126 (by omega))
     replace X34 := Lib.hid (X34.out.ch c126 (by omega))
     replace R101 := Lib.hid (R101.out.ch c126 (by omega))
     replace hV := Lib.hid (below_ch hV.out c126 (by omega) hV.out.size)
     have z128 := c126.size
     clear c126
     replace B120 := Lib.hid b127; clear b127 hi124 hf121 ha122 ho123
     go_wp2_with fail
     refine rj 16 13 (Below w125.drew.heap.size w125.drew) (by kernel_rfl) rfl ?_
     have c130 : Ch w125 w125.drew 0 0 := Ch.of_below (Below.refl _ _).drew
     generalize w125.drew = w129 at *
     replace B15 := Lib.hid (B15.out.ch c130 (.inr (.inr (Nat.le_refl _))))
     replace B20 := Lib.hid (B20.out.ch c130 (.inr (.inr (Nat.le_refl _))))
     replace B25 := Lib.hid (B25.out.ch c130 (.inr (.inr (Nat.le_refl _))))
     replace B120 := Lib.hid (B120.out.ch c130 (.inr (.inr (Nat.le_refl _))))
     replace X34 := Lib.hid (X34.out.ch c130 (.inr (.inr (Nat.le_refl _))))
     replace R101 := Lib.hid (R101.out.ch c130 (.inr (.inr (Nat.le_refl _))))
     replace hV := Lib.hid (below_ch hV.out c130 (.inr (Nat.le_refl _)) hV.out.size)
     have z131 := c130.size
     clear c130
     have hI := Lib.hid (Below.refl w129.heap.size w129)
     refine rj_seg (fuel := 8) [0, 1, 2, 3, 4, 5, 8, 9] hI.out (by kernel_rfl) rfl ?_
     simp only [pick, pD, pE]
     refine sg_fix _ rfl (fun w' h' => by go_simp; rfl) ?_
     simp only [Act.put, pA, pB, pC]
     refine sg_fix _ rfl (fun w' h' => by have h0 : w'.cell? ⟨w16.heap.size, 1, none⟩ = some (v104) := (B25.out.below h').cell 1 rfl; go_simp; rfl) ?_
     simp only [Act.put, pA, pB, pC]
     refine sg_fix _ rfl (fun w' h' => by go_simp; rfl) ?_
     simp only [Act.put, pA, pB, pC]
     refine sg_fix _ rfl (fun w' h' => by have h0 : w'.cell? ⟨w102.heap.size, 0, none⟩ = some (.string y112.fTrait) := (B120.out.below h').cell 0 rfl; go_simp; rfl) ?_
     simp only [Act.put, pA, pB, pC]
     refine sg_fix _ rfl (fun w' h' => by go_simp; rfl) ?_
     simp only [Act.put, pA, pB, pC]
     refine sg_fix _ rfl (fun w' h' => by exact run_ld 88 _ rfl (w102.heap.size) (0 + 1) rfl [e112_1, e112_2, e112_3] (cells_sub (o := 0) 1 ((B120.out.below h').cells) rfl) _ Tryz.underlying88 isz88We) ?_
     simp only [Act.put, pA, pB, pC]
     refine sg_fix _ rfl (fun w' h' => by go_simp; rfl) ?_
     simp only [Act.put, pA, pB, pC]
     refine sg_fix _ rfl (fun w' h' => by have h0 : w'.cell? ⟨w102.heap.size, 4, none⟩ = some (e112_4) := (B120.out.below h').cell 4 rfl; go_simp; rfl) ?_
     simp only [Act.put, pA, pB, pC]
     refine sg_nil ?_
     refine rj_es (fuel := 5) [⟨6, none, false, gdAg (TType.enc y112.fType)⟩, ⟨7, none, false, gdRow 95⟩, ⟨10, some 7, false, gdSl TMethodEntry.enc (y112.fEntries)⟩] (by kernel_rfl) rfl (fun w' h' => h') (fun e he hd hfi w' h' => ?_) (fun e he f hf hd w' v lo hi h' hg hl hh => ?_) (fun e he hfi xs w' hA => ?_) (fun e he hfi => ?_) (fun xs wk h' hF hA hD => ?_)
     ·simp only [List.mem_cons, List.not_mem_nil, or_false] at he
      rcases he with rfl | rfl | rfl
      ·simp only [pick, pD, pE]
       refine ov_call rfl 92 #[.agg #[e112_1, e112_2, e112_3]] (by go_simp <;> rfl) ?_
       exact (specl4Copy_o (y112.fType) (by have h0 := Hz.out; rw [TMethodTable.sz_eq] at h0; omega) _ _ (fun b h => Nat.lt_of_lt_of_le (hK b h) (Nat.le_trans hV.out.size h'.size)) _ ((Rep.ext (hV.out.trans (h'.mono hV.out.size)) hK (he112_Type.out)))).mono fun e w2 ⟨cs', he, ho, hb⟩ => ⟨_, he, hb, cs', rfl, ho⟩
      ·simp only [pick, pD, pE]
       exact v_bs0 rfl 89 rfl Tryz.underlying89 iso95We
      ·exact absurd hd (by simp)
     ·simp only [List.mem_cons, List.not_mem_nil, or_false] at he hf
      rcases he with rfl | rfl | rfl <;> rcases hf with rfl | rfl | rfl <;> first | (simp at hd; done) | skip
      ·simp only [pick, pD, pE]
       simp only [dstOf, pD, pE, Option.bind_some]
       simp only [Act.put, pA, pB, pC]
       exact v_ap (v := v) (xv := e112_4) rfl _ _ 89 rfl (.agg #[.string ⟨#[]⟩, .string ⟨#[]⟩, .int .i64 0]) 40 Tryz.underlying89 irw95We irz95We (by decide) rfl hg rfl (Rep.ext (hV.out.trans (h'.mono hV.out.size)) hK (he112_Entries.out)) hh TMethodEntry.width TMethodEntry.flatEWe (by unfold maxLen; have := (show (y112.fEntries).length ≤ 1048576 from (by have h0 := (by have h0 := Hz.out; rw [TMethodTable.sz_eq] at h0; omega); unfold szs at h0; omega)); omega) (by have := (show (y112.fEntries).length ≤ 1048576 from (by have h0 := (by have h0 := Hz.out; rw [TMethodTable.sz_eq] at h0; omega); unfold szs at h0; omega)); omega)
     ·simp only [List.mem_cons, List.not_mem_nil, or_false] at he
      (rcases he with rfl | rfl | rfl) <;> exact absurd hfi (by simp)
     ·simp only [List.mem_cons, List.not_mem_nil, or_false] at he
      (rcases he with rfl | rfl | rfl) <;> first | rfl | (cases hfi; done)
     ·
      obtain ⟨v6, lo6, hi6, xs, rfl, g6, l6, u6, hA⟩ := hA
      obtain ⟨v7, lo7, hi7, xs, rfl, g7, l7, u7, hA⟩ := hA
      obtain ⟨v10, lo10, hi10, xs, rfl, g10, l10, u10, hA⟩ := hA
      have hA : xs = [] := hA; subst hA
      obtain ⟨⟨-, q6_10, -⟩, ⟨-, -⟩, -, -⟩ := hD
      clear hF
      have q6_10 : hi6 ≤ lo10 ∨ hi10 ≤ lo6 := q6_10 (by simp) (by simp)
      replace hI := Lib.hid h'
      have c132 := Ch.of_below h'; clear h'
      replace g6 := g6 (by intro f hf; simp only [List.mem_cons, List.not_mem_nil, or_false] at hf; rcases hf with rfl | rfl | rfl <;> simp)
      clear g7 l7 u7
      replace g10 := g10 (by intro f hf; simp only [List.mem_cons, List.not_mem_nil, or_false] at hf; rcases hf with rfl | rfl | rfl <;> simp)
      obtain ⟨cs133, rfl, o133⟩ := g6
      have d133_one := Lib.hid (Rep.one _ _ (o133.rep))
      obtain ⟨d133_2, rfl, hd133_Kind, hd133_Name, hd133_Args⟩ := TType.opn (o133.rep)
      replace hd133_Kind := Lib.hid hd133_Kind
      replace hd133_Name := Lib.hid hd133_Name
      replace hd133_Args := Lib.hid hd133_Args
      have X133 := Lib.hid o133; clear o133
      obtain ⟨a134, p134, rfl, o134⟩ := g10
      have X134 := Lib.hid o134; clear o134
      simp only [putE, dstOf, pD, pE, Option.bind_some]
      simp only [Act.put, pA, pB, pC]
      generalize wk = w135 at *
      replace B15 := Lib.hid (B15.out.ch c132 (.inr (.inr (Nat.le_refl _))))
      replace B20 := Lib.hid (B20.out.ch c132 (.inr (.inr (Nat.le_refl _))))
      replace B25 := Lib.hid (B25.out.ch c132 (.inr (.inr (Nat.le_refl _))))
      replace B120 := Lib.hid (B120.out.ch c132 (.inr (.inr (Nat.le_refl _))))
      replace X34 := Lib.hid (X34.out.ch c132 (.inr (.inr (Nat.le_refl _))))
      replace R101 := Lib.hid (R101.out.ch c132 (.inr (.inr (Nat.le_refl _))))
      replace hV := Lib.hid (below_ch hV.out c132 (.inr (Nat.le_refl _)) hV.out.size)
      have z136 := c132.size
      clear c132
      have lx133 := X133.out.1
      have lx134 := X134.out.1
      refine rj_free (fuel := 4) [11] hI.out (by kernel_rfl) rfl ?_
      simp only [pick, pD, pE]
      refine sg_fix _ rfl (fun w' h' => by go_simp; rfl) ?_
      simp only [Act.put, pA, pB, pC]
      refine sg_nil ?_
      refine rj_one (fuel := 3) 12 (by kernel_rfl) rfl (fun K0 K137 => ?_)
      simp only [pick, pD, pE]
      have hl141 : ([.string y112.fTrait, .int .i64 y112.fType.fKind, .string y112.fType.fName, d133_2, .slice a134 (y112.fEntries).length p134] : List Value).length = 5 := rfl
      refine q_bs1 rfl 28 _ rfl Tryz.underlying28 irw91We (by decide) (by decide) _ rfl [.string y112.fTrait, .int .i64 y112.fType.fKind, .string y112.fType.fName, d133_2, .slice a134 (y112.fEntries).length p134] rfl hl141 ?_
      intro w138 c139 b140
      replace hI := Lib.hid (below_ch hI.out c139 (.inr (Nat.le_refl _)) hI.out.size)
      refine K137 _ _ (fun _ => hI.out) ?_
      simp only [Act.put, pA, pB, pC]
      clear hl141
      replace B15 := Lib.hid (B15.out.ch c139 (.inr (.inr (Nat.le_refl _))))
      replace B20 := Lib.hid (B20.out.ch c139 (.inr (.inr (Nat.le_refl _))))
      replace B25 := Lib.hid (B25.out.ch c139 (.inr (.inr (Nat.le_refl _))))
      replace B120 := Lib.hid (B120.out.ch c139 (.inr (.inr (Nat.le_refl _))))
      replace X34 := Lib.hid (X34.out.ch c139 (.inr (.inr (Nat.le_refl _))))
      replace X133 := Lib.hid (X133.out.ch c139 (.inr (.inr (Nat.le_refl _))))
      replace X134 := Lib.hid (X134.out.ch c139 (.inr (.inr (Nat.le_refl _))))
      replace R101 := Lib.hid (R101.out.ch c139 (.inr (.inr (Nat.le_refl _))))
      replace hV := Lib.hid (below_ch hV.out c139 (.inr (Nat.le_refl _)) hV.out.size)
      have z142 := c139.size
      clear c139
      have B143 := Lib.hid b140; have lb143 := b140.lt; clear b140
      refine rj_one (fuel := 2) 13 (by kernel_rfl) rfl (fun K0 K144 => ?_)
      simp only [pick, pD, pE]
      have X149 : Hid (Ow w138 (w129.heap.size) (w138.heap.size) (TMethodTable.enc y112) [.string y112.fTrait, .int .i64 y112.fType.fKind, .string y112.fType.fName, d133_2, .slice a134 (y112.fEntries).length p134]) := Lib.hid ((by rw [TMethodTable.enc_eq]; exact Ow.st (OwS.leaf (ownS he112_Trait.out) (OwS.cons (c1 := [.int .i64 y112.fType.fKind, .string y112.fType.fName, d133_2]) (c2 := [.slice a134 (y112.fEntries).length p134]) (X133.out) (OwS.cons (c1 := [.slice a134 (y112.fEntries).length p134]) (c2 := []) (X134.out) (OwS.nil) (by simp)) (by intro p hp; simp only [List.mem_cons, List.not_mem_nil, or_false] at hp; subst hp <;> (show _ ≤ _ ∨ _ ≤ _; omega)))) (by intro p hp; simp only [List.mem_cons, List.not_mem_nil, or_false] at hp; rcases hp with rfl | rfl <;> (show _ ≤ _ ∧ _ ≤ _; omega)) (by omega)))
      have lx149 := X149.out.1
      have hb150 : ((((x.fTables).take n103)).map TMethodTable.enc).length + 1 ≤ 1048577 := by simp only [List.length_map, List.length_take] <;> omega
      have hw151 : (TMethodTable.enc y112).width = 5 := TMethodTable.width _
      have hc152 := B143.out.cells
      have h63153 : ((((x.fTables).take n103)).map TMethodTable.enc).length + 1 ≤ maxLen := by unfold maxLen; omega
      have hby154 : (((((x.fTables).take n103)).map TMethodTable.enc).length + 1) * 88 ≤ 140737488355328 := by omega
      have hd155 : w138.heap.size ≤ w35.heap.size ∨ hi105 ≤ w129.heap.size := by omega
      have hl156 : w35.heap.size ≤ w129.heap.size := by omega
      refine q_ap rfl _ _ 28 rfl (.agg #[.string ⟨#[]⟩, .int .i64 0, .string ⟨#[]⟩, .slice none 0 0, .slice none 0 0]) 88 Tryz.underlying28 irw91We irz91We (by decide) rfl R101.out (w135.heap.size) rfl hw151 hc152 X149.out hd155 hl156 h63153 hby154 ?_
      intro v147 w148 hG145 c146
      clear hb150 hw151 hc152 h63153 hby154 hd155 hl156
      clear B143 lb143
      clear X149
      have hG_ : Gw w148 (w35.heap.size) w148.heap.size 91 5 ((((x.fTables).take n103) ++ [y112]).map TMethodTable.enc) v147 := by (have h := hG145; simp only [List.map_append, List.map_take, List.map_cons, List.map_nil] at h ⊢; exact h)
      clear hG145
      refine K144 _ _ (jw_done (by kernel_rfl)) ?_
      simp only [Act.put, pA, pB, pC]
      replace B15 := Lib.hid (B15.out.ch c146 (by omega))
      replace B20 := Lib.hid (B20.out.ch c146 (by omega))
      replace B25 := Lib.hid (B25.out.ch c146 (by omega))
      replace B120 := Lib.hid (B120.out.ch c146 (by omega))
      replace X34 := Lib.hid (X34.out.ch c146 (by omega))
      replace X133 := Lib.hid (X133.out.ch c146 (by omega))
      replace X134 := Lib.hid (X134.out.ch c146 (by omega))
      replace hV := Lib.hid (below_ch hV.out c146 (by omega) hV.out.size)
      have z157 := c146.size
      clear c146
      replace R101 := Lib.hid hG_; clear hG_
      have lr101_w148 := R101.out.2.1
      refine rj_free' (fuel := 1) [14] (by kernel_rfl) rfl ?_
      simp only [pick, pD, pE]
      refine sg_fix _ rfl (fun w' h' => by go_simp; rfl) ?_
      simp only [Act.put, pA, pB, pC]
      refine sg_nil ?_
      refine rj_one (fuel := 0) 15 (by kernel_rfl) rfl (fun K0 K158 => ?_)
      simp only [pick, pD, pE]
      have hf159 := Lib.hid (show 1 < ([.slice a34 (x.fSpecializations).length p34, v104] : List Value).length from (by decide : 1 < 2))
      have ha160 := Lib.hid (show ([.slice a34 (x.fSpecializations).length p34, v104] : List Value).take 1 ++ [v147] ++ ([.slice a34 (x.fSpecializations).length p34, v104] : List Value).drop (1 + 1) = [.slice a34 (x.fSpecializations).length p34, v147] from rfl)
      have ho161 := Lib.hid (show (v147 : Value).oneCell' = true from R101.out.one)
      refine q_st1 rfl 28 _ _ rfl (w16.heap.size) 1 rfl (v147) rfl isz28We ho161.out [.slice a34 (x.fSpecializations).length p34, v104] [.slice a34 (x.fSpecializations).length p34, v147] 35 B25.out hf159.out ha160.out ?_
      intro w162 c163 b164
      refine K158 _ _ (jw_done (by kernel_rfl)) ?_
      refine rj_end (by kernel_rfl) ?_
      (try simp only [Act.put])
      (try simp only [Act.put, pA, pB, pC])
      replace B15 := Lib.hid (B15.out.ch c163 (by omega))
      replace B20 := Lib.hid (B20.out.ch c163 (by omega))
      replace B120 := Lib.hid (B120.out.ch c163 (by omega))
      replace X34 := Lib.hid (X34.out.ch c163 (by omega))
      replace X133 := Lib.hid (X133.out.ch c163 (by omega))
      replace X134 := Lib.hid (X134.out.ch c163 (by omega))
      replace R101 := Lib.hid (R101.out.ch c163 (by omega))
      replace hV := Lib.hid (below_ch hV.out c163 (by omega) hV.out.size)
      have z165 := c163.size
      clear c163
      replace B25 := Lib.hid b164; clear b164 hf159 ha160 ho161
      go_wp2_with fail
      go_roundw
      case rel => exact ⟨n103 + 1, _, _, hlt, by go_num, Lib.hid (by have hR := R101.out; rw [show _ ++ [y112] = _ from (by have := Ht.out; simpa using this)] at hR; exact hR), B15, B20, B25, X34, hV, by omega⟩
      case measure => simp [intOf]; omega
    ·
     obtain rfl : n103 = (x.fTables).length := by omega
     have hR := R101.out; rw [List.take_of_length_le (Nat.le_refl _)] at hR; replace R101 := Lib.hid hR; clear hR
     have g166 : w102.cell? ⟨w.heap.size, 1, none⟩ = some (.slice a6 (x.fTables).length cap7) := B15.out.cell 1 rfl
     have hc167 : Cells w102 (w16.heap.size) (0) [.slice a34 (x.fSpecializations).length p34, v104] := (B25.out.cells)
     have hi168 : (Tryz.prog.info? 35).map (·.size) = some ([.slice a34 (x.fSpecializations).length p34, v104] : List Value).length := isz35We
     have hi172 := Lib.hid (show (Tryz.prog.info? 35).map (·.size) = some ([.slice a34 (x.fSpecializations).length p34, v104] : List Value).length from isz35We)
     have hf169 := Lib.hid (show 0 + ([.slice a34 (x.fSpecializations).length p34, v104] : List Value).length ≤ ([.slice none 0 0, .slice none 0 0] : List Value).length from (by decide : 2 ≤ 2))
     have ha170 := Lib.hid (show ([.slice none 0 0, .slice none 0 0] : List Value).take 0 ++ [.slice a34 (x.fSpecializations).length p34, v104] ++ ([.slice none 0 0, .slice none 0 0] : List Value).drop (0 + ([.slice a34 (x.fSpecializations).length p34, v104] : List Value).length) = [.slice a34 (x.fSpecializations).length p34, v104] from rfl)
     have ho171 := Lib.hid (show ∀ u ∈ ([.slice a34 (x.fSpecializations).length p34, v104] : List Value), u.oneCell' = true from (one_cons rfl (one_cons R101.out.one one_nil)))
     go_wp2_with (first | (with_reducible refine ld rfl 35 _ rfl (w16.heap.size) (0) rfl [.slice a34 (x.fSpecializations).length p34, v104] hc167 _ Tryz.underlying35 hi168 ?_) | (with_reducible refine e_st rfl 35 _ _ rfl (w11.heap.size) 0 rfl [.slice a34 (x.fSpecializations).length p34, v104] rfl hi172.out ho171.out [.slice none 0 0, .slice none 0 0] [.slice a34 (x.fSpecializations).length p34, v104] 35 B20.out hf169.out ha170.out ?_))
     intro w173 c174 b175
     clear g166 hc167 hi168
     replace B15 := Lib.hid (B15.out.ch c174 (by omega))
     replace B25 := Lib.hid (B25.out.ch c174 (by omega))
     replace X34 := Lib.hid (X34.out.ch c174 (by omega))
     replace R101 := Lib.hid (R101.out.ch c174 (by omega))
     replace hV := Lib.hid (below_ch hV.out c174 (by omega) hV.out.size)
     have z176 := c174.size
     clear c174
     replace B20 := Lib.hid b175; clear b175 hi172 hf169 ha170 ho171
     go_wp2_with fail
     obtain ⟨a101, p101, rfl, o101⟩ := R101.out.ow
     have X101 := Lib.hid o101; have lx101 := o101.1; clear o101 R101
     have X177 : Hid (Ow w173 (w30.heap.size) (w173.heap.size) (TMonoProgram.enc x) [.slice a34 (x.fSpecializations).length p34, .slice a101 (x.fTables).length p101]) := Lib.hid ((by rw [TMonoProgram.enc_eq]; exact Ow.st (OwS.cons (c1 := [.slice a34 (x.fSpecializations).length p34]) (c2 := [.slice a101 (x.fTables).length p101]) (X34.out) (OwS.cons (c1 := [.slice a101 (x.fTables).length p101]) (c2 := []) (X101.out) (OwS.nil) (by simp)) (by intro p hp; simp only [List.mem_cons, List.not_mem_nil, or_false] at hp; subst hp <;> (show _ ≤ _ ∨ _ ≤ _; omega))) (by intro p hp; simp only [List.mem_cons, List.not_mem_nil, or_false] at hp; rcases hp with rfl | rfl <;> (show _ ≤ _ ∧ _ ≤ _; omega)) (by omega)))
     have lx177 := X177.out.1
     have hiR : (Tryz.prog.info? 35).map (·.size) = some ([.slice a34 (x.fSpecializations).length p34, .slice a101 (x.fTables).length p101] : List Value).length := isz35We
     (try simp only [Exit.inBlock, Exit.then])
     exact bodyPost_ret (v := .agg #[.slice a34 (x.fSpecializations).length p34, .slice a101 (x.fTables).length p101]) (run_res Tryz.results35 (w11.heap.size) rfl [.slice a34 (x.fSpecializations).length p34, .slice a101 (x.fTables).length p101] B20.out.cells _ Tryz.underlying35 hiR) rfl ⟨[.slice a34 (x.fSpecializations).length p34, .slice a101 (x.fTables).length p101], rfl, X177.out.wide (by omega) (by omega) (Nat.le_refl _), hV.out⟩
end Go.Proofs.YtkmiecgcibjkbaaGreat
