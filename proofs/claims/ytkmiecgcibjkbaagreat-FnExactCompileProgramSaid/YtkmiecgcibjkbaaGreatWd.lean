/- Functions walked once, their results in memory of their own. Condition: the value's size is at most 1048576. -/
import Derived.Test.YtkmiecgcibjkbaaGreatEng
import Derived.Test.YtkmiecgcibjkbaaGreatTo
import Derived.Test.YtkmiecgcibjkbaaGreatWb
import Derived.Test.YtkmiecgcibjkbaaGreatWc
namespace Go.Proofs.YtkmiecgcibjkbaaGreat
open Go.RowKit
theorem izr136Wd : (Tryz.prog.info? 136).map (·.zero) = some (some (.agg #[.int .i64 0, .string ⟨#[]⟩, .string ⟨#[]⟩, .int .i64 0, .int .i64 0, .string ⟨#[]⟩, .slice none 0 0, .slice none 0 0, .slice none 0 0, .slice none 0 0, .slice none 0 0])) := by kernel_rfl
theorem isz88Wd : (Tryz.prog.info? 88).map (·.size) = some 3 := by kernel_rfl
theorem isz136Wd : (Tryz.prog.info? 136).map (·.size) = some 11 := by kernel_rfl
theorem irw136Wd : (Tryz.prog.info? 136).map (fun i => (i.zero, i.size, i.bytes)) = some (some (.agg #[.int .i64 0, .string ⟨#[]⟩, .string ⟨#[]⟩, .int .i64 0, .int .i64 0, .string ⟨#[]⟩, .slice none 0 0, .slice none 0 0, .slice none 0 0, .slice none 0 0, .slice none 0 0]), 11, 192) := by kernel_rfl
theorem irz136Wd : ((.agg #[.int .i64 0, .string ⟨#[]⟩, .string ⟨#[]⟩, .int .i64 0, .int .i64 0, .string ⟨#[]⟩, .slice none 0 0, .slice none 0 0, .slice none 0 0, .slice none 0 0, .slice none 0 0]) : Value).cells.size = 11 := rfl
theorem isz133Wd : (Tryz.prog.info? 133).map (·.size) = some 1 := by kernel_rfl
theorem iso9Wd : ((Tryz.prog.info? 9).map (·.size)).isSome = true := by kernel_rfl
theorem irw9Wd : (Tryz.prog.info? 9).map (fun i => (i.zero, i.size, i.bytes)) = some (some (.string ⟨#[]⟩), 1, 16) := by kernel_rfl
theorem irz9Wd : ((.string ⟨#[]⟩) : Value).cells.size = 1 := rfl
theorem irw242Wd : (Tryz.prog.info? 242).map (fun i => (i.zero, i.size, i.bytes)) = some (some (.agg #[.string ⟨#[]⟩, .slice none 0 0, .int .i64 0, .string ⟨#[]⟩, .string ⟨#[]⟩, .int .i64 0, .int .i64 0, .string ⟨#[]⟩, .slice none 0 0, .slice none 0 0, .slice none 0 0, .slice none 0 0, .slice none 0 0]), 13, 232) := by kernel_rfl
theorem irz242Wd : ((.agg #[.string ⟨#[]⟩, .slice none 0 0, .int .i64 0, .string ⟨#[]⟩, .string ⟨#[]⟩, .int .i64 0, .int .i64 0, .string ⟨#[]⟩, .slice none 0 0, .slice none 0 0, .slice none 0 0, .slice none 0 0, .slice none 0 0]) : Value).cells.size = 13 := rfl
theorem isz134Wd : (Tryz.prog.info? 134).map (·.size) = some 1 := by kernel_rfl
def CPspecSubstituteCore_o (N : Nat) : Prop := ∀ (x : TCore), SizeOf.sizeOf x < N → ∀ (_ : x.sz ≤ 1048576) (w : World) (K : Nat → Prop) (_ : ∀ b, K b → b < w.heap.size) (cs : List Value) (_ : Rep w K x.enc cs),
  Calls Tryz.prog 151 #[.slice none 0 0, .agg cs.toArray] w fun e w' => ∃ cs', e = .returned (.agg cs'.toArray) ∧ Ow w' w.heap.size w'.heap.size x.enc cs' ∧ Below w.heap.size w w'
set_option maxRecDepth 100000 in
set_option maxHeartbeats 4000000 in
theorem stepspecSubstituteCore_o (N : Nat) (ispecSubstituteCore_o : CPspecSubstituteCore_o N) : CPspecSubstituteCore_o (N + 1) := by
 intro x hN hz w K hK cs h
 have hV : Hid (Below w.heap.size w w) := Lib.hid (Below.refl _ _)
 replace hz := Lib.hid hz
 have pone := Lib.hid (Rep.one _ _ (h))
 obtain ⟨p4, p5, p6, p7, p8, p9, p10, rfl, hpKind, hpTrait, hpName, hpN, hpType, hpTypeArgs, hpEvidence, hpArgs, hpArms⟩ := TCore.opn (h)
 replace hpKind := Lib.hid hpKind
 replace hpTrait := Lib.hid hpTrait
 replace hpName := Lib.hid hpName
 replace hpN := Lib.hid hpN
 replace hpType := Lib.hid hpType
 replace hpTypeArgs := Lib.hid hpTypeArgs
 replace hpEvidence := Lib.hid hpEvidence
 replace hpArgs := Lib.hid hpArgs
 replace hpArms := Lib.hid hpArms
 replace h := Lib.hid h
 obtain ⟨a1, cap2, rfl, hcp3, hcm4, -, hE5⟩ := open_sl TCore.width hpArgs.out
 unfold maxLen at hcm4
 replace hE5 := Lib.hid hE5
 have hcm4_ : (x.fArgs).length ≤ 1048576 := by have h0 := (by have h0 := hz.out; rw [TCore.sz_eq] at h0; omega); unfold szs at h0; omega
 obtain ⟨a6, cap7, rfl, hcp8, hcm9, -, hE10⟩ := open_sl TCoreArm.width hpArms.out
 unfold maxLen at hcm9
 replace hE10 := Lib.hid hE10
 have hcm9_ : (x.fArms).length ≤ 1048576 := by have h0 := (by have h0 := hz.out; rw [TCore.sz_eq] at h0; omega); unfold szs at h0; omega
 go_enter Tryz.func151, Tryz.ntmps151
 go_wp2_with (with_reducible refine e_box rfl 136 _ rfl _ rfl [.int .i64 x.fKind, .string x.fTrait, .string x.fName, .int .i64 x.fN, p4, p5, p6, p7, p8, .slice a1 (x.fArgs).length cap2, .slice a6 (x.fArms).length cap7] rfl ?_)
 intro w11 c12 b13
 replace hV := Lib.hid (below_ch hV.out c12 (.inr (Nat.le_refl _)) hV.out.size)
 have z14 := c12.size
 clear c12
 have B15 := Lib.hid b13; have lb15 := b13.lt; clear b13
 go_wp2_with (with_reducible refine e_al rfl 136 rfl [.int .i64 0, .string ⟨#[]⟩, .string ⟨#[]⟩, .int .i64 0, .int .i64 0, .string ⟨#[]⟩, .slice none 0 0, .slice none 0 0, .slice none 0 0, .slice none 0 0, .slice none 0 0] izr136Wd rfl ?_)
 intro w16 c17 b18
 replace B15 := Lib.hid (B15.out.ch c17 (.inr (.inr (Nat.le_refl _))))
 replace hV := Lib.hid (below_ch hV.out c17 (.inr (Nat.le_refl _)) hV.out.size)
 have z19 := c17.size
 clear c17
 have B20 := Lib.hid b18; have lb20 := b18.lt; clear b18
 go_wp2_with fail
 refine rj 22 21 (Below w16.drew.heap.size w16.drew) (by kernel_rfl) rfl ?_
 have c22 : Ch w16 w16.drew 0 0 := Ch.of_below (Below.refl _ _).drew
 generalize w16.drew = w21 at *
 replace B15 := Lib.hid (B15.out.ch c22 (.inr (.inr (Nat.le_refl _))))
 replace B20 := Lib.hid (B20.out.ch c22 (.inr (.inr (Nat.le_refl _))))
 replace hV := Lib.hid (below_ch hV.out c22 (.inr (Nat.le_refl _)) hV.out.size)
 have z23 := c22.size
 clear c22
 have hI := Lib.hid (Below.refl w21.heap.size w21)
 refine rj_seg (fuel := 6) [0, 1, 2, 3, 4, 5, 6, 7, 8, 9, 10, 12, 13, 14, 16, 17] hI.out (by kernel_rfl) rfl ?_
 simp only [pick, pD, pE]
 refine sg_fix _ rfl (fun w' h' => by go_simp; rfl) ?_
 simp only [Act.put, pA, pB, pC]
 refine sg_fix _ rfl (fun w' h' => by have h0 : w'.cell? ⟨w.heap.size, 0, none⟩ = some (.int .i64 x.fKind) := (B15.out.below h').cell 0 rfl; go_simp; rfl) ?_
 simp only [Act.put, pA, pB, pC]
 refine sg_fix _ rfl (fun w' h' => by go_simp; rfl) ?_
 simp only [Act.put, pA, pB, pC]
 refine sg_fix _ rfl (fun w' h' => by have h0 : w'.cell? ⟨w.heap.size, 1, none⟩ = some (.string x.fTrait) := (B15.out.below h').cell 1 rfl; go_simp; rfl) ?_
 simp only [Act.put, pA, pB, pC]
 refine sg_fix _ rfl (fun w' h' => by go_simp; rfl) ?_
 simp only [Act.put, pA, pB, pC]
 refine sg_fix _ rfl (fun w' h' => by have h0 : w'.cell? ⟨w.heap.size, 2, none⟩ = some (.string x.fName) := (B15.out.below h').cell 2 rfl; go_simp; rfl) ?_
 simp only [Act.put, pA, pB, pC]
 refine sg_fix _ rfl (fun w' h' => by go_simp; rfl) ?_
 simp only [Act.put, pA, pB, pC]
 refine sg_fix _ rfl (fun w' h' => by have h0 : w'.cell? ⟨w.heap.size, 3, none⟩ = some (.int .i64 x.fN) := (B15.out.below h').cell 3 rfl; go_simp; rfl) ?_
 simp only [Act.put, pA, pB, pC]
 refine sg_fix _ rfl (fun w' h' => by go_simp; rfl) ?_
 simp only [Act.put, pA, pB, pC]
 refine sg_fix _ rfl (fun w' h' => by go_simp; rfl) ?_
 simp only [Act.put, pA, pB, pC]
 refine sg_fix _ rfl (fun w' h' => by exact run_ld 88 _ rfl (w.heap.size) (0 + 4) rfl [p4, p5, p6] (cells_sub (o := 0) 4 ((B15.out.below h').cells) rfl) _ Tryz.underlying88 isz88Wd) ?_
 simp only [Act.put, pA, pB, pC]
 refine sg_fix _ rfl (fun w' h' => by go_simp; rfl) ?_
 simp only [Act.put, pA, pB, pC]
 refine sg_fix _ rfl (fun w' h' => by go_simp; rfl) ?_
 simp only [Act.put, pA, pB, pC]
 refine sg_fix _ rfl (fun w' h' => by have h0 : w'.cell? ⟨w.heap.size, 7, none⟩ = some (p7) := (B15.out.below h').cell 7 rfl; go_simp; rfl) ?_
 simp only [Act.put, pA, pB, pC]
 refine sg_fix _ rfl (fun w' h' => by go_simp; rfl) ?_
 simp only [Act.put, pA, pB, pC]
 refine sg_fix _ rfl (fun w' h' => by have h0 : w'.cell? ⟨w.heap.size, 8, none⟩ = some (p8) := (B15.out.below h').cell 8 rfl; go_simp; rfl) ?_
 simp only [Act.put, pA, pB, pC]
 refine sg_nil ?_
 refine rj_es (fuel := 1) [⟨11, none, false, gdAg (TType.enc x.fType)⟩, ⟨15, none, false, gdSl TType.enc (x.fTypeArgs)⟩, ⟨18, none, false, gdSl TEvidence.enc (x.fEvidence)⟩, ⟨19, none, true, gdT⟩, ⟨20, none, false, gdPt 136 [.int .i64 0, .string ⟨#[]⟩, .string ⟨#[]⟩, .int .i64 0, .int .i64 0, .string ⟨#[]⟩, .slice none 0 0, .slice none 0 0, .slice none 0 0, .slice none 0 0, .slice none 0 0]⟩] (by kernel_rfl) rfl (fun w' h' => h') (fun e he hd hfi w' h' => ?_) (fun e he f hf hd w' v lo hi h' hg hl hh => ?_) (fun e he hfi xs w' hA => ?_) (fun e he hfi => ?_) (fun xs wk h' hF hA hD => ?_)
 ·simp only [List.mem_cons, List.not_mem_nil, or_false] at he
  rcases he with rfl | rfl | rfl | rfl | rfl
  ·simp only [pick, pD, pE]
   refine ov_call rfl 204 #[.slice none 0 0, .agg #[p4, p5, p6]] (by go_simp <;> rfl) ?_
   exact (specApply_o (x.fType) (by have h0 := hz.out; rw [TCore.sz_eq] at h0; omega) _ _ (fun b h => Nat.lt_of_lt_of_le (hK b h) (Nat.le_trans hV.out.size h'.size)) _ ((Rep.ext (hV.out.trans (h'.mono hV.out.size)) hK (hpType.out)))).mono fun e w2 ⟨cs', he, ho, hb⟩ => ⟨_, he, hb, cs', rfl, ho⟩
  ·simp only [pick, pD, pE]
   refine ov_call rfl 205 #[.slice none 0 0, p7] (by go_simp <;> rfl) ?_
   exact (specApplyAll_o (x.fTypeArgs) (by have h0 := hz.out; rw [TCore.sz_eq] at h0; omega) _ _ (fun b h => Nat.lt_of_lt_of_le (hK b h) (Nat.le_trans hV.out.size h'.size)) _ ((Rep.ext (hV.out.trans (h'.mono hV.out.size)) hK (hpTypeArgs.out)))).mono fun e w2 ⟨a, p, he, ho, hb⟩ => ⟨_, he, hb, a, p, rfl, ho⟩
  ·simp only [pick, pD, pE]
   refine ov_call rfl 206 #[p8] (by go_simp <;> rfl) ?_
   exact (specl24Copies_o (x.fEvidence) (by have h0 := hz.out; rw [TCore.sz_eq] at h0; omega) _ _ (fun b h => Nat.lt_of_lt_of_le (hK b h) (Nat.le_trans hV.out.size h'.size)) _ ((Rep.ext (hV.out.trans (h'.mono hV.out.size)) hK (hpEvidence.out)))).mono fun e w2 ⟨a, p, he, ho, hb⟩ => ⟨_, he, hb, a, p, rfl, ho⟩
  ·exact absurd hfi (by simp)
  ·simp only [pick, pD, pE]
   exact v_al rfl 136 rfl [.int .i64 0, .string ⟨#[]⟩, .string ⟨#[]⟩, .int .i64 0, .int .i64 0, .string ⟨#[]⟩, .slice none 0 0, .slice none 0 0, .slice none 0 0, .slice none 0 0, .slice none 0 0] izr136Wd rfl
 ·simp only [List.mem_cons, List.not_mem_nil, or_false] at he hf
  (rcases he with rfl | rfl | rfl | rfl | rfl) <;> exact absurd hd (by simp)
 ·simp only [List.mem_cons, List.not_mem_nil, or_false] at he
  rcases he with rfl | rfl | rfl | rfl | rfl
  ·exact absurd hfi (by simp)
  ·exact absurd hfi (by simp)
  ·exact absurd hfi (by simp)
  ·change AllF _ w' [⟨11, none, false, gdAg (TType.enc x.fType)⟩, ⟨15, none, false, gdSl TType.enc (x.fTypeArgs)⟩, ⟨18, none, false, gdSl TEvidence.enc (x.fEvidence)⟩] xs at hA
   change oneF _ _ _ (putE _ _ [⟨11, none, false, gdAg (TType.enc x.fType)⟩, ⟨15, none, false, gdSl TType.enc (x.fTypeArgs)⟩, ⟨18, none, false, gdSl TEvidence.enc (x.fEvidence)⟩] xs)
   obtain ⟨v11, lo11, hi11, xs, rfl, g11, hA⟩ := hA
   obtain ⟨v15, lo15, hi15, xs, rfl, g15, hA⟩ := hA
   obtain ⟨v18, lo18, hi18, xs, rfl, g18, hA⟩ := hA
   have hA : xs = [] := hA; subst hA
   replace g11 := g11 (by intro f hf; simp only [List.mem_cons, List.not_mem_nil, or_false] at hf; rcases hf with rfl | rfl | rfl | rfl | rfl <;> simp)
   obtain ⟨cs24, rfl, o24⟩ := g11
   have d24_one := Lib.hid (Rep.one _ _ (o24.rep))
   obtain ⟨d24_2, rfl, hd24_Kind, hd24_Name, hd24_Args⟩ := TType.opn (o24.rep)
   replace hd24_Kind := Lib.hid hd24_Kind
   replace hd24_Name := Lib.hid hd24_Name
   replace hd24_Args := Lib.hid hd24_Args
   replace g15 := g15 (by intro f hf; simp only [List.mem_cons, List.not_mem_nil, or_false] at hf; rcases hf with rfl | rfl | rfl | rfl | rfl <;> simp)
   obtain ⟨a25, p25, rfl, o25⟩ := g15
   replace g18 := g18 (by intro f hf; simp only [List.mem_cons, List.not_mem_nil, or_false] at hf; rcases hf with rfl | rfl | rfl | rfl | rfl <;> simp)
   obtain ⟨a26, p26, rfl, o26⟩ := g18
   simp only [pick, pD, pE]
   simp only [putE, dstOf, pD, pE, Option.bind_some]
   simp only [Act.put, pA, pB, pC]
   exact ⟨.agg #[.int .i64 x.fKind, .string x.fTrait, .string x.fName, .int .i64 x.fN, .int .i64 x.fType.fKind, .string x.fType.fName, d24_2, .slice a25 (x.fTypeArgs).length p25, .slice a26 (x.fEvidence).length p26, .slice none 0 0, .slice none 0 0], rfl, fun w2 => by go_simp <;> rfl⟩
  ·exact absurd hfi (by simp)
 ·simp only [List.mem_cons, List.not_mem_nil, or_false] at he
  (rcases he with rfl | rfl | rfl | rfl | rfl) <;> first | rfl | (cases hfi; done)
 ·
  obtain ⟨v11, lo11, hi11, xs, rfl, g11, l11, u11, hA⟩ := hA
  obtain ⟨v15, lo15, hi15, xs, rfl, g15, l15, u15, hA⟩ := hA
  obtain ⟨v18, lo18, hi18, xs, rfl, g18, l18, u18, hA⟩ := hA
  obtain ⟨v19, lo19, hi19, xs, rfl, g19, l19, u19, hA⟩ := hA
  obtain ⟨v20, lo20, hi20, xs, rfl, g20, l20, u20, hA⟩ := hA
  have hA : xs = [] := hA; subst hA
  obtain ⟨⟨q11_15, q11_18, -, q11_20, -⟩, ⟨q15_18, -, q15_20, -⟩, ⟨-, q18_20, -⟩, ⟨-, -⟩, -, -⟩ := hD
  obtain ⟨-, -, -, f19, -, -⟩ := hF
  have q11_15 : hi11 ≤ lo15 ∨ hi15 ≤ lo11 := q11_15 (by simp) (by simp)
  have q11_18 : hi11 ≤ lo18 ∨ hi18 ≤ lo11 := q11_18 (by simp) (by simp)
  have q11_20 : hi11 ≤ lo20 ∨ hi20 ≤ lo11 := q11_20 (by simp) (by simp)
  have q15_18 : hi15 ≤ lo18 ∨ hi18 ≤ lo15 := q15_18 (by simp) (by simp)
  have q15_20 : hi15 ≤ lo20 ∨ hi20 ≤ lo15 := q15_20 (by simp) (by simp)
  have q18_20 : hi18 ≤ lo20 ∨ hi20 ≤ lo18 := q18_20 (by simp) (by simp)
  replace hI := Lib.hid h'
  have c27 := Ch.of_below h'; clear h'
  replace g11 := g11 (by intro f hf; simp only [List.mem_cons, List.not_mem_nil, or_false] at hf; rcases hf with rfl | rfl | rfl | rfl | rfl <;> simp)
  replace g15 := g15 (by intro f hf; simp only [List.mem_cons, List.not_mem_nil, or_false] at hf; rcases hf with rfl | rfl | rfl | rfl | rfl <;> simp)
  replace g18 := g18 (by intro f hf; simp only [List.mem_cons, List.not_mem_nil, or_false] at hf; rcases hf with rfl | rfl | rfl | rfl | rfl <;> simp)
  clear g19 l19 u19
  replace g20 := g20 (by intro f hf; simp only [List.mem_cons, List.not_mem_nil, or_false] at hf; rcases hf with rfl | rfl | rfl | rfl | rfl <;> simp)
  obtain ⟨cs28, rfl, o28⟩ := g11
  have d28_one := Lib.hid (Rep.one _ _ (o28.rep))
  obtain ⟨d28_2, rfl, hd28_Kind, hd28_Name, hd28_Args⟩ := TType.opn (o28.rep)
  replace hd28_Kind := Lib.hid hd28_Kind
  replace hd28_Name := Lib.hid hd28_Name
  replace hd28_Args := Lib.hid hd28_Args
  have X28 := Lib.hid o28; clear o28
  obtain ⟨a29, p29, rfl, o29⟩ := g15
  have X29 := Lib.hid o29; clear o29
  obtain ⟨a30, p30, rfl, o30⟩ := g18
  have X30 := Lib.hid o30; clear o30
  obtain ⟨rfl, hl20, b20⟩ := g20
  replace f19 := f19 rfl
  simp only [pick, pD, pE] at f19
  simp only [putE, dstOf, pD, pE, Option.bind_some] at f19
  simp only [Act.put, pA, pB, pC] at f19
  obtain rfl : v19 = .agg #[.int .i64 x.fKind, .string x.fTrait, .string x.fName, .int .i64 x.fN, .int .i64 x.fType.fKind, .string x.fType.fName, d28_2, .slice a29 (x.fTypeArgs).length p29, .slice a30 (x.fEvidence).length p30, .slice none 0 0, .slice none 0 0] := oneR_eq f19 wk (by go_simp <;> rfl)
  clear f19
  simp only [putE, dstOf, pD, pE, Option.bind_some]
  simp only [Act.put, pA, pB, pC]
  generalize wk = w32 at *
  replace B15 := Lib.hid (B15.out.ch c27 (.inr (.inr (Nat.le_refl _))))
  replace B20 := Lib.hid (B20.out.ch c27 (.inr (.inr (Nat.le_refl _))))
  replace hV := Lib.hid (below_ch hV.out c27 (.inr (Nat.le_refl _)) hV.out.size)
  have z33 := c27.size
  clear c27
  have lx28 := X28.out.1
  have lx29 := X29.out.1
  have lx30 := X30.out.1
  have B34 := Lib.hid b20; have lb34 := b20.lt; clear b20
  refine rj_one (fuel := 0) 21 (by kernel_rfl) rfl (fun K0 K35 => ?_)
  simp only [pick, pD, pE]
  have hi39 := Lib.hid (show (Tryz.prog.info? 136).map (·.size) = some ([.int .i64 x.fKind, .string x.fTrait, .string x.fName, .int .i64 x.fN, .int .i64 x.fType.fKind, .string x.fType.fName, d28_2, .slice a29 (x.fTypeArgs).length p29, .slice a30 (x.fEvidence).length p30, .slice none 0 0, .slice none 0 0] : List Value).length from isz136Wd)
  have hf36 := Lib.hid (show 0 + ([.int .i64 x.fKind, .string x.fTrait, .string x.fName, .int .i64 x.fN, .int .i64 x.fType.fKind, .string x.fType.fName, d28_2, .slice a29 (x.fTypeArgs).length p29, .slice a30 (x.fEvidence).length p30, .slice none 0 0, .slice none 0 0] : List Value).length ≤ ([.int .i64 0, .string ⟨#[]⟩, .string ⟨#[]⟩, .int .i64 0, .int .i64 0, .string ⟨#[]⟩, .slice none 0 0, .slice none 0 0, .slice none 0 0, .slice none 0 0, .slice none 0 0] : List Value).length from (by decide : 11 ≤ 11))
  have ha37 := Lib.hid (show ([.int .i64 0, .string ⟨#[]⟩, .string ⟨#[]⟩, .int .i64 0, .int .i64 0, .string ⟨#[]⟩, .slice none 0 0, .slice none 0 0, .slice none 0 0, .slice none 0 0, .slice none 0 0] : List Value).take 0 ++ [.int .i64 x.fKind, .string x.fTrait, .string x.fName, .int .i64 x.fN, .int .i64 x.fType.fKind, .string x.fType.fName, d28_2, .slice a29 (x.fTypeArgs).length p29, .slice a30 (x.fEvidence).length p30, .slice none 0 0, .slice none 0 0] ++ ([.int .i64 0, .string ⟨#[]⟩, .string ⟨#[]⟩, .int .i64 0, .int .i64 0, .string ⟨#[]⟩, .slice none 0 0, .slice none 0 0, .slice none 0 0, .slice none 0 0, .slice none 0 0] : List Value).drop (0 + ([.int .i64 x.fKind, .string x.fTrait, .string x.fName, .int .i64 x.fN, .int .i64 x.fType.fKind, .string x.fType.fName, d28_2, .slice a29 (x.fTypeArgs).length p29, .slice a30 (x.fEvidence).length p30, .slice none 0 0, .slice none 0 0] : List Value).length) = [.int .i64 x.fKind, .string x.fTrait, .string x.fName, .int .i64 x.fN, .int .i64 x.fType.fKind, .string x.fType.fName, d28_2, .slice a29 (x.fTypeArgs).length p29, .slice a30 (x.fEvidence).length p30, .slice none 0 0, .slice none 0 0] from rfl)
  have ho38 := Lib.hid (show ∀ u ∈ ([.int .i64 x.fKind, .string x.fTrait, .string x.fName, .int .i64 x.fN, .int .i64 x.fType.fKind, .string x.fType.fName, d28_2, .slice a29 (x.fTypeArgs).length p29, .slice a30 (x.fEvidence).length p30, .slice none 0 0, .slice none 0 0] : List Value), u.oneCell' = true from (one_cons rfl (one_cons rfl (one_cons rfl (one_cons rfl (one_cons rfl (one_cons rfl (one_cons (d28_one.out _ (by simp)) (one_cons rfl (one_cons rfl (one_cons rfl (one_cons rfl one_nil))))))))))))
  refine q_st rfl 136 _ _ rfl (lo20) 0 rfl [.int .i64 x.fKind, .string x.fTrait, .string x.fName, .int .i64 x.fN, .int .i64 x.fType.fKind, .string x.fType.fName, d28_2, .slice a29 (x.fTypeArgs).length p29, .slice a30 (x.fEvidence).length p30, .slice none 0 0, .slice none 0 0] rfl hi39.out ho38.out [.int .i64 0, .string ⟨#[]⟩, .string ⟨#[]⟩, .int .i64 0, .int .i64 0, .string ⟨#[]⟩, .slice none 0 0, .slice none 0 0, .slice none 0 0, .slice none 0 0, .slice none 0 0] [.int .i64 x.fKind, .string x.fTrait, .string x.fName, .int .i64 x.fN, .int .i64 x.fType.fKind, .string x.fType.fName, d28_2, .slice a29 (x.fTypeArgs).length p29, .slice a30 (x.fEvidence).length p30, .slice none 0 0, .slice none 0 0] 136 B34.out hf36.out ha37.out ?_
  intro w40 c41 b42
  refine K35 _ _ (jw_done (by kernel_rfl)) ?_
  refine rj_end (by kernel_rfl) ?_
  (try simp only [Act.put])
  (try simp only [Act.put, pA, pB, pC])
  replace B15 := Lib.hid (B15.out.ch c41 (by omega))
  replace B20 := Lib.hid (B20.out.ch c41 (by omega))
  replace X28 := Lib.hid (X28.out.ch c41 (by omega))
  replace X29 := Lib.hid (X29.out.ch c41 (by omega))
  replace X30 := Lib.hid (X30.out.ch c41 (by omega))
  replace hV := Lib.hid (below_ch hV.out c41 (by omega) hV.out.size)
  have z43 := c41.size
  clear c41
  replace B34 := Lib.hid b42; clear b42 hi39 hf36 ha37 ho38
  go_wp2_with fail
  have R44 := Lib.hid (Gw.nil w40 w40.heap.size 136 11 (Nat.le_refl _)); have lr44 := R44.out.1
  go_loopw [6] (fun i wr => ∃ (n : Nat) (v' : Value) (hi' : Nat), n ≤ (x.fArgs).length ∧ i = .int .i64 n ∧ Hid (Gw wr (w40.heap.size) hi' 136 11 (((x.fArgs).take n).map TCore.enc) v') ∧ Hid (Bx wr (w.heap.size) [.int .i64 x.fKind, .string x.fTrait, .string x.fName, .int .i64 x.fN, p4, p5, p6, p7, p8, .slice a1 (x.fArgs).length cap2, .slice a6 (x.fArms).length cap7] 136) ∧ Hid (Bx wr (w11.heap.size) [.int .i64 0, .string ⟨#[]⟩, .string ⟨#[]⟩, .int .i64 0, .int .i64 0, .string ⟨#[]⟩, .slice none 0 0, .slice none 0 0, .slice none 0 0, .slice none 0 0, .slice none 0 0] 136) ∧ Hid (Bx wr (lo20) [.int .i64 x.fKind, .string x.fTrait, .string x.fName, .int .i64 x.fN, .int .i64 x.fType.fKind, .string x.fType.fName, d28_2, .slice a29 (x.fTypeArgs).length p29, .slice a30 (x.fEvidence).length p30, v', .slice none 0 0] 136) ∧ Hid (Ow wr (lo11) (hi11) (TType.enc (x.fType)) [.int .i64 x.fType.fKind, .string x.fType.fName, d28_2]) ∧ Hid (Ow wr (lo15) (hi15) (.sl ((x.fTypeArgs).map TType.enc)) [.slice a29 (x.fTypeArgs).length p29]) ∧ Hid (Ow wr (lo18) (hi18) (.sl ((x.fEvidence).map TEvidence.enc)) [.slice a30 (x.fEvidence).length p30]) ∧ Hid (Below w.heap.size w wr) ∧ w40.heap.size ≤ wr.heap.size) (fun i _ => (x.fArgs).length - (intOf i).toNat)
  case atStart => exact ⟨0, _, _, Nat.zero_le _, rfl, R44, B15, B20, B34, X28, X29, X30, hV, Nat.le_refl _⟩
  case round =>
   clear R44 B15 B20 B34 X28 X29 X30 hV
   obtain ⟨n46, v47, hi48, hn, rfl, R44, B15, B20, B34, X28, X29, X30, hV, z49⟩ := hrel
   rename World => w45
   have lb15_w45 := B15.out.lt
   have lb20_w45 := B20.out.lt
   have lb34_w45 := B34.out.lt
   have lx28_w45 := X28.out.1
   have lx29_w45 := X29.out.1
   have lx30_w45 := X30.out.1
   have lr44_w45 := R44.out.1; have lr44_w45_ := R44.out.2.1
   by_cases hlt : n46 < (x.fArgs).length
   ·
    obtain ⟨bk50, of51, rfl, hb52, cs53, hcs54, hr55⟩ := hE5.out n46 hlt
    replace hcs54 := Lib.hid hcs54; replace hr55 := Lib.hid hr55
    have hmem : (x.fArgs)[n46] ∈ x.fArgs := List.getElem_mem hlt
    have Ht := Lib.hid (take_snoc (fun y => y) hlt)
    have Hl := Lib.hid (show (((x.fArgs).take n46)).length = n46 from by simp; omega)
    have Hs := Lib.hid (show SizeOf.sizeOf (x.fArgs)[n46] < SizeOf.sizeOf (x.fArgs) from List.sizeOf_lt_of_mem hmem)
    have Hz := Lib.hid (show TCore.sz (x.fArgs)[n46] ≤ 1048576 from (by have h1 := szL_le TCore.sz hmem; have h0 := (by have h0 := hz.out; rw [TCore.sz_eq] at h0; omega); unfold szs at h0; omega))
    generalize (x.fArgs)[n46] = y55 at *
    have e55_one := Lib.hid (Rep.one _ _ (hr55.out))
    obtain ⟨e55_4, e55_5, e55_6, e55_7, e55_8, e55_9, e55_10, rfl, he55_Kind, he55_Trait, he55_Name, he55_N, he55_Type, he55_TypeArgs, he55_Evidence, he55_Args, he55_Arms⟩ := TCore.opn (hr55.out)
    replace he55_Kind := Lib.hid he55_Kind
    replace he55_Trait := Lib.hid he55_Trait
    replace he55_Name := Lib.hid he55_Name
    replace he55_N := Lib.hid he55_N
    replace he55_Type := Lib.hid he55_Type
    replace he55_TypeArgs := Lib.hid he55_TypeArgs
    replace he55_Evidence := Lib.hid he55_Evidence
    replace he55_Args := Lib.hid he55_Args
    replace he55_Arms := Lib.hid he55_Arms
    have g56 : w45.cell? ⟨w.heap.size, 9, none⟩ = some (.slice (some ⟨bk50, of51, none⟩) (x.fArgs).length cap2) := B15.out.cell 9 rfl
    go_wp2_with fail
    refine rj 13 10 (Below w45.drew.heap.size w45.drew) (by kernel_rfl) rfl ?_
    have c58 : Ch w45 w45.drew 0 0 := Ch.of_below (Below.refl _ _).drew
    generalize w45.drew = w57 at *
    clear g56
    replace B15 := Lib.hid (B15.out.ch c58 (.inr (.inr (Nat.le_refl _))))
    replace B20 := Lib.hid (B20.out.ch c58 (.inr (.inr (Nat.le_refl _))))
    replace B34 := Lib.hid (B34.out.ch c58 (.inr (.inr (Nat.le_refl _))))
    replace X28 := Lib.hid (X28.out.ch c58 (.inr (.inr (Nat.le_refl _))))
    replace X29 := Lib.hid (X29.out.ch c58 (.inr (.inr (Nat.le_refl _))))
    replace X30 := Lib.hid (X30.out.ch c58 (.inr (.inr (Nat.le_refl _))))
    replace R44 := Lib.hid (R44.out.ch c58 (.inr (.inr (Nat.le_refl _))))
    replace hV := Lib.hid (below_ch hV.out c58 (.inr (Nat.le_refl _)) hV.out.size)
    have z59 := c58.size
    clear c58
    have hI := Lib.hid (Below.refl w57.heap.size w57)
    refine rj_seg (fuel := 5) [0, 1, 2, 3, 4, 5, 6, 7] hI.out (by kernel_rfl) rfl ?_
    simp only [pick, pD, pE]
    refine sg_fix _ rfl (fun w' h' => by go_simp; rfl) ?_
    simp only [Act.put, pA, pB, pC]
    refine sg_fix _ rfl (fun w' h' => by have h0 : w'.cell? ⟨lo20, 9, none⟩ = some (v47) := (B34.out.below h').cell 9 rfl; go_simp; rfl) ?_
    simp only [Act.put, pA, pB, pC]
    refine sg_fix _ rfl (fun w' h' => by go_simp; rfl) ?_
    simp only [Act.put, pA, pB, pC]
    refine sg_fix _ rfl (fun w' h' => by go_simp; rfl) ?_
    simp only [Act.put, pA, pB, pC]
    refine sg_fix _ rfl (fun w' h' => by have h0 : w'.cell? ⟨w.heap.size, 9, none⟩ = some (.slice (some ⟨bk50, of51, none⟩) (x.fArgs).length cap2) := (B15.out.below h').cell 9 rfl; go_simp; rfl) ?_
    simp only [Act.put, pA, pB, pC]
    refine sg_fix _ rfl (fun w' h' => by go_simp; rfl) ?_
    simp only [Act.put, pA, pB, pC]
    refine sg_fix _ rfl (fun w' h' => by go_simp; rfl) ?_
    simp only [Act.put, pA, pB, pC]
    refine sg_fix _ rfl (fun w' h' => by exact run_ld 136 _ rfl (bk50) (of51 + n46 * 11) rfl [.int .i64 y55.fKind, .string y55.fTrait, .string y55.fName, .int .i64 y55.fN, e55_4, e55_5, e55_6, e55_7, e55_8, e55_9, e55_10] (hcs54.out.ext (hV.out.trans (h'.mono hV.out.size)) (hK _ hb52)) _ Tryz.underlying136 isz136Wd) ?_
    simp only [Act.put, pA, pB, pC]
    refine sg_nil ?_
    refine rj_es (fuel := 4) [⟨8, none, false, gdAg (TCore.enc y55)⟩] (by kernel_rfl) rfl (fun w' h' => h') (fun e he hd hfi w' h' => ?_) (fun e he f hf hd w' v lo hi h' hg hl hh => ?_) (fun e he hfi xs w' hA => ?_) (fun e he hfi => ?_) (fun xs wk h' hF hA hD => ?_)
    ·simp only [List.mem_cons, List.not_mem_nil, or_false] at he
     subst he
     ·simp only [pick, pD, pE]
      refine ov_call rfl 151 #[.slice none 0 0, .agg #[.int .i64 y55.fKind, .string y55.fTrait, .string y55.fName, .int .i64 y55.fN, e55_4, e55_5, e55_6, e55_7, e55_8, e55_9, e55_10]] (by go_simp <;> rfl) ?_
      exact (ispecSubstituteCore_o (y55) (by have := TCore.lt_fArgs (x); have := Hs.out; omega) Hz.out _ _ (fun b h => Nat.lt_of_lt_of_le (hK b h) (Nat.le_trans hV.out.size h'.size)) _ ((Rep.ext (hV.out.trans (h'.mono hV.out.size)) hK (hr55.out)))).mono fun e w2 ⟨cs', he, ho, hb⟩ => ⟨_, he, hb, cs', rfl, ho⟩
    ·simp only [List.mem_cons, List.not_mem_nil, or_false] at he hf
     (subst he) <;> exact absurd hd (by simp)
    ·simp only [List.mem_cons, List.not_mem_nil, or_false] at he
     (subst he) <;> exact absurd hfi (by simp)
    ·simp only [List.mem_cons, List.not_mem_nil, or_false] at he
     (subst he) <;> first | rfl | (cases hfi; done)
    ·
     obtain ⟨v8, lo8, hi8, xs, rfl, g8, l8, u8, hA⟩ := hA
     have hA : xs = [] := hA; subst hA
     obtain ⟨-, -⟩ := hD
     clear hF
     replace hI := Lib.hid h'
     have c60 := Ch.of_below h'; clear h'
     replace g8 := g8 (by intro f hf; simp only [List.mem_cons, List.not_mem_nil, or_false] at hf; subst hf <;> simp)
     obtain ⟨cs61, rfl, o61⟩ := g8
     have d61_one := Lib.hid (Rep.one _ _ (o61.rep))
     obtain ⟨d61_4, d61_5, d61_6, d61_7, d61_8, d61_9, d61_10, rfl, hd61_Kind, hd61_Trait, hd61_Name, hd61_N, hd61_Type, hd61_TypeArgs, hd61_Evidence, hd61_Args, hd61_Arms⟩ := TCore.opn (o61.rep)
     replace hd61_Kind := Lib.hid hd61_Kind
     replace hd61_Trait := Lib.hid hd61_Trait
     replace hd61_Name := Lib.hid hd61_Name
     replace hd61_N := Lib.hid hd61_N
     replace hd61_Type := Lib.hid hd61_Type
     replace hd61_TypeArgs := Lib.hid hd61_TypeArgs
     replace hd61_Evidence := Lib.hid hd61_Evidence
     replace hd61_Args := Lib.hid hd61_Args
     replace hd61_Arms := Lib.hid hd61_Arms
     have X61 := Lib.hid o61; clear o61
     simp only [putE, dstOf, pD, pE, Option.bind_some]
     simp only [Act.put, pA, pB, pC]
     generalize wk = w62 at *
     replace B15 := Lib.hid (B15.out.ch c60 (.inr (.inr (Nat.le_refl _))))
     replace B20 := Lib.hid (B20.out.ch c60 (.inr (.inr (Nat.le_refl _))))
     replace B34 := Lib.hid (B34.out.ch c60 (.inr (.inr (Nat.le_refl _))))
     replace X28 := Lib.hid (X28.out.ch c60 (.inr (.inr (Nat.le_refl _))))
     replace X29 := Lib.hid (X29.out.ch c60 (.inr (.inr (Nat.le_refl _))))
     replace X30 := Lib.hid (X30.out.ch c60 (.inr (.inr (Nat.le_refl _))))
     replace R44 := Lib.hid (R44.out.ch c60 (.inr (.inr (Nat.le_refl _))))
     replace hV := Lib.hid (below_ch hV.out c60 (.inr (Nat.le_refl _)) hV.out.size)
     have z63 := c60.size
     clear c60
     have lx61 := X61.out.1
     refine rj_one (fuel := 3) 9 (by kernel_rfl) rfl (fun K0 K64 => ?_)
     simp only [pick, pD, pE]
     have hl68 : ([.int .i64 y55.fKind, .string y55.fTrait, .string y55.fName, .int .i64 y55.fN, d61_4, d61_5, d61_6, d61_7, d61_8, d61_9, d61_10] : List Value).length = 11 := rfl
     refine q_bs1 rfl 133 _ rfl Tryz.underlying133 irw136Wd (by decide) (by decide) _ rfl [.int .i64 y55.fKind, .string y55.fTrait, .string y55.fName, .int .i64 y55.fN, d61_4, d61_5, d61_6, d61_7, d61_8, d61_9, d61_10] rfl hl68 ?_
     intro w65 c66 b67
     replace hI := Lib.hid (below_ch hI.out c66 (.inr (Nat.le_refl _)) hI.out.size)
     refine K64 _ _ (fun _ => hI.out) ?_
     simp only [Act.put, pA, pB, pC]
     clear hl68
     replace B15 := Lib.hid (B15.out.ch c66 (.inr (.inr (Nat.le_refl _))))
     replace B20 := Lib.hid (B20.out.ch c66 (.inr (.inr (Nat.le_refl _))))
     replace B34 := Lib.hid (B34.out.ch c66 (.inr (.inr (Nat.le_refl _))))
     replace X28 := Lib.hid (X28.out.ch c66 (.inr (.inr (Nat.le_refl _))))
     replace X29 := Lib.hid (X29.out.ch c66 (.inr (.inr (Nat.le_refl _))))
     replace X30 := Lib.hid (X30.out.ch c66 (.inr (.inr (Nat.le_refl _))))
     replace X61 := Lib.hid (X61.out.ch c66 (.inr (.inr (Nat.le_refl _))))
     replace R44 := Lib.hid (R44.out.ch c66 (.inr (.inr (Nat.le_refl _))))
     replace hV := Lib.hid (below_ch hV.out c66 (.inr (Nat.le_refl _)) hV.out.size)
     have z69 := c66.size
     clear c66
     have B70 := Lib.hid b67; have lb70 := b67.lt; clear b67
     refine rj_one (fuel := 2) 10 (by kernel_rfl) rfl (fun K0 K71 => ?_)
     simp only [pick, pD, pE]
     have hb76 : ((((x.fArgs).take n46)).map TCore.enc).length + 1 ≤ 1048577 := by simp only [List.length_map, List.length_take] <;> omega
     have hw77 : (TCore.enc y55).width = 11 := TCore.width _
     have hc78 := B70.out.cells
     have h6379 : ((((x.fArgs).take n46)).map TCore.enc).length + 1 ≤ maxLen := by unfold maxLen; omega
     have hby80 : (((((x.fArgs).take n46)).map TCore.enc).length + 1) * 192 ≤ 140737488355328 := by omega
     have hd81 : hi8 ≤ w40.heap.size ∨ hi48 ≤ lo8 := by omega
     have hl82 : w40.heap.size ≤ lo8 := by omega
     refine q_ap rfl _ _ 133 rfl (.agg #[.int .i64 0, .string ⟨#[]⟩, .string ⟨#[]⟩, .int .i64 0, .int .i64 0, .string ⟨#[]⟩, .slice none 0 0, .slice none 0 0, .slice none 0 0, .slice none 0 0, .slice none 0 0]) 192 Tryz.underlying133 irw136Wd irz136Wd (by decide) rfl R44.out (w62.heap.size) rfl hw77 hc78 X61.out hd81 hl82 h6379 hby80 ?_
     intro v74 w75 hG72 c73
     clear hb76 hw77 hc78 h6379 hby80 hd81 hl82
     clear B70 lb70
     clear X61
     have hG_ : Gw w75 (w40.heap.size) w75.heap.size 136 11 ((((x.fArgs).take n46) ++ [y55]).map TCore.enc) v74 := by (have h := hG72; simp only [List.map_append, List.map_take, List.map_cons, List.map_nil] at h ⊢; exact h)
     clear hG72
     refine K71 _ _ (jw_done (by kernel_rfl)) ?_
     simp only [Act.put, pA, pB, pC]
     replace B15 := Lib.hid (B15.out.ch c73 (by omega))
     replace B20 := Lib.hid (B20.out.ch c73 (by omega))
     replace B34 := Lib.hid (B34.out.ch c73 (by omega))
     replace X28 := Lib.hid (X28.out.ch c73 (by omega))
     replace X29 := Lib.hid (X29.out.ch c73 (by omega))
     replace X30 := Lib.hid (X30.out.ch c73 (by omega))
     replace hV := Lib.hid (below_ch hV.out c73 (by omega) hV.out.size)
     have z83 := c73.size
     clear c73
     replace R44 := Lib.hid hG_; clear hG_
     have lr44_w75 := R44.out.2.1
     refine rj_free' (fuel := 1) [11] (by kernel_rfl) rfl ?_
     simp only [pick, pD, pE]
     refine sg_fix _ rfl (fun w' h' => by go_simp; rfl) ?_
     simp only [Act.put, pA, pB, pC]
     refine sg_nil ?_
     refine rj_one (fuel := 0) 12 (by kernel_rfl) rfl (fun K0 K84 => ?_)
     simp only [pick, pD, pE]
     have hf85 := Lib.hid (show 9 < ([.int .i64 x.fKind, .string x.fTrait, .string x.fName, .int .i64 x.fN, .int .i64 x.fType.fKind, .string x.fType.fName, d28_2, .slice a29 (x.fTypeArgs).length p29, .slice a30 (x.fEvidence).length p30, v47, .slice none 0 0] : List Value).length from (by decide : 9 < 11))
     have ha86 := Lib.hid (show ([.int .i64 x.fKind, .string x.fTrait, .string x.fName, .int .i64 x.fN, .int .i64 x.fType.fKind, .string x.fType.fName, d28_2, .slice a29 (x.fTypeArgs).length p29, .slice a30 (x.fEvidence).length p30, v47, .slice none 0 0] : List Value).take 9 ++ [v74] ++ ([.int .i64 x.fKind, .string x.fTrait, .string x.fName, .int .i64 x.fN, .int .i64 x.fType.fKind, .string x.fType.fName, d28_2, .slice a29 (x.fTypeArgs).length p29, .slice a30 (x.fEvidence).length p30, v47, .slice none 0 0] : List Value).drop (9 + 1) = [.int .i64 x.fKind, .string x.fTrait, .string x.fName, .int .i64 x.fN, .int .i64 x.fType.fKind, .string x.fType.fName, d28_2, .slice a29 (x.fTypeArgs).length p29, .slice a30 (x.fEvidence).length p30, v74, .slice none 0 0] from rfl)
     have ho87 := Lib.hid (show (v74 : Value).oneCell' = true from R44.out.one)
     refine q_st1 rfl 133 _ _ rfl (lo20) 9 rfl (v74) rfl isz133Wd ho87.out [.int .i64 x.fKind, .string x.fTrait, .string x.fName, .int .i64 x.fN, .int .i64 x.fType.fKind, .string x.fType.fName, d28_2, .slice a29 (x.fTypeArgs).length p29, .slice a30 (x.fEvidence).length p30, v47, .slice none 0 0] [.int .i64 x.fKind, .string x.fTrait, .string x.fName, .int .i64 x.fN, .int .i64 x.fType.fKind, .string x.fType.fName, d28_2, .slice a29 (x.fTypeArgs).length p29, .slice a30 (x.fEvidence).length p30, v74, .slice none 0 0] 136 B34.out hf85.out ha86.out ?_
     intro w88 c89 b90
     refine K84 _ _ (jw_done (by kernel_rfl)) ?_
     refine rj_end (by kernel_rfl) ?_
     (try simp only [Act.put])
     (try simp only [Act.put, pA, pB, pC])
     replace B15 := Lib.hid (B15.out.ch c89 (by omega))
     replace B20 := Lib.hid (B20.out.ch c89 (by omega))
     replace X28 := Lib.hid (X28.out.ch c89 (by omega))
     replace X29 := Lib.hid (X29.out.ch c89 (by omega))
     replace X30 := Lib.hid (X30.out.ch c89 (by omega))
     replace R44 := Lib.hid (R44.out.ch c89 (by omega))
     replace hV := Lib.hid (below_ch hV.out c89 (by omega) hV.out.size)
     have z91 := c89.size
     clear c89
     replace B34 := Lib.hid b90; clear b90 hf85 ha86 ho87
     go_wp2_with fail
     go_roundw
     case rel => exact ⟨n46 + 1, _, _, hlt, by go_num, Lib.hid (by have hR := R44.out; rw [show _ ++ [y55] = _ from (by have := Ht.out; simpa using this)] at hR; exact hR), B15, B20, B34, X28, X29, X30, hV, by omega⟩
     case measure => simp [intOf]; omega
   ·
    obtain rfl : n46 = (x.fArgs).length := by omega
    have hR := R44.out; rw [List.take_of_length_le (Nat.le_refl _)] at hR; replace R44 := Lib.hid hR; clear hR
    have g92 : w45.cell? ⟨w.heap.size, 9, none⟩ = some (.slice a1 (x.fArgs).length cap2) := B15.out.cell 9 rfl
    go_wp2_with fail
    have R93 := Lib.hid (Gw.nil w45 w45.heap.size 242 13 (Nat.le_refl _)); have lr93 := R93.out.1
    obtain ⟨a44, p44, rfl, o44⟩ := R44.out.ow
    have X44 := Lib.hid o44; have lx44 := o44.1; clear o44 R44
    go_loopw [7] (fun i wr => ∃ (n : Nat) (v' : Value) (hi' : Nat), n ≤ (x.fArms).length ∧ i = .int .i64 n ∧ Hid (Gw wr (w45.heap.size) hi' 242 13 (((x.fArms).take n).map TCoreArm.enc) v') ∧ Hid (Bx wr (w.heap.size) [.int .i64 x.fKind, .string x.fTrait, .string x.fName, .int .i64 x.fN, p4, p5, p6, p7, p8, .slice a1 (x.fArgs).length cap2, .slice a6 (x.fArms).length cap7] 136) ∧ Hid (Bx wr (w11.heap.size) [.int .i64 0, .string ⟨#[]⟩, .string ⟨#[]⟩, .int .i64 0, .int .i64 0, .string ⟨#[]⟩, .slice none 0 0, .slice none 0 0, .slice none 0 0, .slice none 0 0, .slice none 0 0] 136) ∧ Hid (Bx wr (lo20) [.int .i64 x.fKind, .string x.fTrait, .string x.fName, .int .i64 x.fN, .int .i64 x.fType.fKind, .string x.fType.fName, d28_2, .slice a29 (x.fTypeArgs).length p29, .slice a30 (x.fEvidence).length p30, .slice a44 (x.fArgs).length p44, v'] 136) ∧ Hid (Ow wr (lo11) (hi11) (TType.enc (x.fType)) [.int .i64 x.fType.fKind, .string x.fType.fName, d28_2]) ∧ Hid (Ow wr (lo15) (hi15) (.sl ((x.fTypeArgs).map TType.enc)) [.slice a29 (x.fTypeArgs).length p29]) ∧ Hid (Ow wr (lo18) (hi18) (.sl ((x.fEvidence).map TEvidence.enc)) [.slice a30 (x.fEvidence).length p30]) ∧ Hid (Ow wr (w40.heap.size) (hi48) (.sl ((x.fArgs).map TCore.enc)) [.slice a44 (x.fArgs).length p44]) ∧ Hid (Below w.heap.size w wr) ∧ w45.heap.size ≤ wr.heap.size) (fun i _ => (x.fArms).length - (intOf i).toNat)
    case atStart => exact ⟨0, _, _, Nat.zero_le _, rfl, R93, B15, B20, B34, X28, X29, X30, X44, hV, Nat.le_refl _⟩
    case round =>
     clear g92
     clear R93 B15 B20 B34 X28 X29 X30 X44 hV
     obtain ⟨n95, v96, hi97, hn, rfl, R93, B15, B20, B34, X28, X29, X30, X44, hV, z98⟩ := hrel
     rename World => w94
     have lb15_w94 := B15.out.lt
     have lb20_w94 := B20.out.lt
     have lb34_w94 := B34.out.lt
     have lx28_w94 := X28.out.1
     have lx29_w94 := X29.out.1
     have lx30_w94 := X30.out.1
     have lx44_w94 := X44.out.1
     have lr93_w94 := R93.out.1; have lr93_w94_ := R93.out.2.1
     by_cases hlt : n95 < (x.fArms).length
     ·
      obtain ⟨bk99, of100, rfl, hb101, cs102, hcs103, hr104⟩ := hE10.out n95 hlt
      replace hcs103 := Lib.hid hcs103; replace hr104 := Lib.hid hr104
      have hmem : (x.fArms)[n95] ∈ x.fArms := List.getElem_mem hlt
      have Ht := Lib.hid (take_snoc (fun y => y) hlt)
      have Hl := Lib.hid (show (((x.fArms).take n95)).length = n95 from by simp; omega)
      have Hs := Lib.hid (show SizeOf.sizeOf (x.fArms)[n95] < SizeOf.sizeOf (x.fArms) from List.sizeOf_lt_of_mem hmem)
      have Hz := Lib.hid (show TCoreArm.sz (x.fArms)[n95] ≤ 1048576 from (by have h1 := szL_le TCoreArm.sz hmem; have h0 := (by have h0 := hz.out; rw [TCore.sz_eq] at h0; omega); unfold szs at h0; omega))
      generalize (x.fArms)[n95] = y104 at *
      have e104_one := Lib.hid (Rep.one _ _ (hr104.out))
      obtain ⟨e104_1, e104_2, e104_3, e104_4, e104_5, e104_6, e104_7, e104_8, e104_9, e104_10, e104_11, e104_12, rfl, he104_Constructor, he104_Vars, he104_Body⟩ := TCoreArm.opn (hr104.out)
      replace he104_Constructor := Lib.hid he104_Constructor
      replace he104_Vars := Lib.hid he104_Vars
      replace he104_Body := Lib.hid he104_Body
      have g105 : w94.cell? ⟨w.heap.size, 10, none⟩ = some (.slice (some ⟨bk99, of100, none⟩) (x.fArms).length cap7) := B15.out.cell 10 rfl
      go_wp2_with fail
      refine rj 29 26 (Below w94.drew.heap.size w94.drew) (by kernel_rfl) rfl ?_
      have c107 : Ch w94 w94.drew 0 0 := Ch.of_below (Below.refl _ _).drew
      generalize w94.drew = w106 at *
      clear g105
      replace B15 := Lib.hid (B15.out.ch c107 (.inr (.inr (Nat.le_refl _))))
      replace B20 := Lib.hid (B20.out.ch c107 (.inr (.inr (Nat.le_refl _))))
      replace B34 := Lib.hid (B34.out.ch c107 (.inr (.inr (Nat.le_refl _))))
      replace X28 := Lib.hid (X28.out.ch c107 (.inr (.inr (Nat.le_refl _))))
      replace X29 := Lib.hid (X29.out.ch c107 (.inr (.inr (Nat.le_refl _))))
      replace X30 := Lib.hid (X30.out.ch c107 (.inr (.inr (Nat.le_refl _))))
      replace X44 := Lib.hid (X44.out.ch c107 (.inr (.inr (Nat.le_refl _))))
      replace R93 := Lib.hid (R93.out.ch c107 (.inr (.inr (Nat.le_refl _))))
      replace hV := Lib.hid (below_ch hV.out c107 (.inr (Nat.le_refl _)) hV.out.size)
      have z108 := c107.size
      clear c107
      have hI := Lib.hid (Below.refl w106.heap.size w106)
      refine rj_seg (fuel := 8) [0, 1, 2, 3, 4, 5, 6, 7, 9, 10, 11, 12, 13, 14, 16, 17, 18, 19, 20, 21, 22] hI.out (by kernel_rfl) rfl ?_
      simp only [pick, pD, pE]
      refine sg_fix _ rfl (fun w' h' => by go_simp; rfl) ?_
      simp only [Act.put, pA, pB, pC]
      refine sg_fix _ rfl (fun w' h' => by have h0 : w'.cell? ⟨lo20, 10, none⟩ = some (v96) := (B34.out.below h').cell 10 rfl; go_simp; rfl) ?_
      simp only [Act.put, pA, pB, pC]
      refine sg_fix _ rfl (fun w' h' => by go_simp; rfl) ?_
      simp only [Act.put, pA, pB, pC]
      refine sg_fix _ rfl (fun w' h' => by have h0 : w'.cell? ⟨w.heap.size, 10, none⟩ = some (.slice (some ⟨bk99, of100, none⟩) (x.fArms).length cap7) := (B15.out.below h').cell 10 rfl; go_simp; rfl) ?_
      simp only [Act.put, pA, pB, pC]
      refine sg_fix _ rfl (fun w' h' => by go_simp; rfl) ?_
      simp only [Act.put, pA, pB, pC]
      refine sg_fix _ rfl (fun w' h' => by go_simp; rfl) ?_
      simp only [Act.put, pA, pB, pC]
      refine sg_fix _ rfl (fun w' h' => by go_simp; rfl) ?_
      simp only [Act.put, pA, pB, pC]
      refine sg_fix _ rfl (fun w' h' => by have h0 : w'.cell? ⟨bk99, of100 + n95 * 13, none⟩ = some (.string y104.fConstructor) := (by have := (hcs103.out.ext (hV.out.trans (h'.mono hV.out.size)) (hK _ hb101)) 0 _ rfl; simpa using this); go_simp; rfl) ?_
      simp only [Act.put, pA, pB, pC]
      refine sg_fix _ rfl (fun w' h' => by go_simp; rfl) ?_
      simp only [Act.put, pA, pB, pC]
      refine sg_fix _ rfl (fun w' h' => by have h0 : w'.cell? ⟨w.heap.size, 10, none⟩ = some (.slice (some ⟨bk99, of100, none⟩) (x.fArms).length cap7) := (B15.out.below h').cell 10 rfl; go_simp; rfl) ?_
      simp only [Act.put, pA, pB, pC]
      refine sg_fix _ rfl (fun w' h' => by go_simp; rfl) ?_
      simp only [Act.put, pA, pB, pC]
      refine sg_fix _ rfl (fun w' h' => by go_simp; rfl) ?_
      simp only [Act.put, pA, pB, pC]
      refine sg_fix _ rfl (fun w' h' => by go_simp; rfl) ?_
      simp only [Act.put, pA, pB, pC]
      refine sg_fix _ rfl (fun w' h' => by have h0 : w'.cell? ⟨bk99, of100 + n95 * 13 + 1, none⟩ = some (e104_1) := (by have := (hcs103.out.ext (hV.out.trans (h'.mono hV.out.size)) (hK _ hb101)) 1 _ rfl; simpa using this); go_simp; rfl) ?_
      simp only [Act.put, pA, pB, pC]
      refine sg_fix _ rfl (fun w' h' => by go_simp; rfl) ?_
      simp only [Act.put, pA, pB, pC]
      refine sg_fix _ rfl (fun w' h' => by go_simp; rfl) ?_
      simp only [Act.put, pA, pB, pC]
      refine sg_fix _ rfl (fun w' h' => by have h0 : w'.cell? ⟨w.heap.size, 10, none⟩ = some (.slice (some ⟨bk99, of100, none⟩) (x.fArms).length cap7) := (B15.out.below h').cell 10 rfl; go_simp; rfl) ?_
      simp only [Act.put, pA, pB, pC]
      refine sg_fix _ rfl (fun w' h' => by go_simp; rfl) ?_
      simp only [Act.put, pA, pB, pC]
      refine sg_fix _ rfl (fun w' h' => by go_simp; rfl) ?_
      simp only [Act.put, pA, pB, pC]
      refine sg_fix _ rfl (fun w' h' => by go_simp; rfl) ?_
      simp only [Act.put, pA, pB, pC]
      refine sg_fix _ rfl (fun w' h' => by exact run_ld 136 _ rfl (bk99) (of100 + n95 * 13 + 2) rfl [e104_2, e104_3, e104_4, e104_5, e104_6, e104_7, e104_8, e104_9, e104_10, e104_11, e104_12] (cells_sub 2 (hcs103.out.ext (hV.out.trans (h'.mono hV.out.size)) (hK _ hb101)) rfl) _ Tryz.underlying136 isz136Wd) ?_
      simp only [Act.put, pA, pB, pC]
      refine sg_nil ?_
      refine rj_es (fuel := 5) [⟨8, none, false, gdRow 9⟩, ⟨15, some 8, false, gdSl encS (y104.fVars)⟩, ⟨23, none, false, gdAg (TCore.enc y104.fBody)⟩] (by kernel_rfl) rfl (fun w' h' => h') (fun e he hd hfi w' h' => ?_) (fun e he f hf hd w' v lo hi h' hg hl hh => ?_) (fun e he hfi xs w' hA => ?_) (fun e he hfi => ?_) (fun xs wk h' hF hA hD => ?_)
      ·simp only [List.mem_cons, List.not_mem_nil, or_false] at he
       rcases he with rfl | rfl | rfl
       ·simp only [pick, pD, pE]
        exact v_bs0 rfl 48 rfl Tryz.underlying48 iso9Wd
       ·exact absurd hd (by simp)
       ·simp only [pick, pD, pE]
        refine ov_call rfl 151 #[.slice none 0 0, .agg #[e104_2, e104_3, e104_4, e104_5, e104_6, e104_7, e104_8, e104_9, e104_10, e104_11, e104_12]] (by go_simp <;> rfl) ?_
        exact (ispecSubstituteCore_o (y104.fBody) (by have := TCore.lt_fArms (x); have := Hs.out; have := TCoreArm.lt_fBody (y104); omega) (by have h0 := Hz.out; rw [TCoreArm.sz_eq] at h0; omega) _ _ (fun b h => Nat.lt_of_lt_of_le (hK b h) (Nat.le_trans hV.out.size h'.size)) _ ((Rep.ext (hV.out.trans (h'.mono hV.out.size)) hK (he104_Body.out)))).mono fun e w2 ⟨cs', he, ho, hb⟩ => ⟨_, he, hb, cs', rfl, ho⟩
      ·simp only [List.mem_cons, List.not_mem_nil, or_false] at he hf
       rcases he with rfl | rfl | rfl <;> rcases hf with rfl | rfl | rfl <;> first | (simp at hd; done) | skip
       ·simp only [pick, pD, pE]
        simp only [dstOf, pD, pE, Option.bind_some]
        simp only [Act.put, pA, pB, pC]
        exact v_ap (v := v) (xv := e104_1) rfl _ _ 48 rfl (.string ⟨#[]⟩) 16 Tryz.underlying48 irw9Wd irz9Wd (by decide) rfl hg rfl (Rep.ext (hV.out.trans (h'.mono hV.out.size)) hK (he104_Vars.out)) hh encS_w flatS (by unfold maxLen; have := (show (y104.fVars).length ≤ 1048576 from (by have h0 := (by have h0 := Hz.out; rw [TCoreArm.sz_eq] at h0; omega); unfold szs at h0; omega)); omega) (by have := (show (y104.fVars).length ≤ 1048576 from (by have h0 := (by have h0 := Hz.out; rw [TCoreArm.sz_eq] at h0; omega); unfold szs at h0; omega)); omega)
      ·simp only [List.mem_cons, List.not_mem_nil, or_false] at he
       (rcases he with rfl | rfl | rfl) <;> exact absurd hfi (by simp)
      ·simp only [List.mem_cons, List.not_mem_nil, or_false] at he
       (rcases he with rfl | rfl | rfl) <;> first | rfl | (cases hfi; done)
      ·
       obtain ⟨v8, lo8, hi8, xs, rfl, g8, l8, u8, hA⟩ := hA
       obtain ⟨v15, lo15, hi15, xs, rfl, g15, l15, u15, hA⟩ := hA
       obtain ⟨v23, lo23, hi23, xs, rfl, g23, l23, u23, hA⟩ := hA
       have hA : xs = [] := hA; subst hA
       obtain ⟨⟨-, -, -⟩, ⟨q15_23, -⟩, -, -⟩ := hD
       clear hF
       have q15_23 : hi15 ≤ lo23 ∨ hi23 ≤ lo15 := q15_23 (by simp) (by simp)
       replace hI := Lib.hid h'
       have c109 := Ch.of_below h'; clear h'
       clear g8 l8 u8
       replace g15 := g15 (by intro f hf; simp only [List.mem_cons, List.not_mem_nil, or_false] at hf; rcases hf with rfl | rfl | rfl <;> simp)
       replace g23 := g23 (by intro f hf; simp only [List.mem_cons, List.not_mem_nil, or_false] at hf; rcases hf with rfl | rfl | rfl <;> simp)
       obtain ⟨a110, p110, rfl, o110⟩ := g15
       have X110 := Lib.hid o110; clear o110
       obtain ⟨cs111, rfl, o111⟩ := g23
       have d111_one := Lib.hid (Rep.one _ _ (o111.rep))
       obtain ⟨d111_4, d111_5, d111_6, d111_7, d111_8, d111_9, d111_10, rfl, hd111_Kind, hd111_Trait, hd111_Name, hd111_N, hd111_Type, hd111_TypeArgs, hd111_Evidence, hd111_Args, hd111_Arms⟩ := TCore.opn (o111.rep)
       replace hd111_Kind := Lib.hid hd111_Kind
       replace hd111_Trait := Lib.hid hd111_Trait
       replace hd111_Name := Lib.hid hd111_Name
       replace hd111_N := Lib.hid hd111_N
       replace hd111_Type := Lib.hid hd111_Type
       replace hd111_TypeArgs := Lib.hid hd111_TypeArgs
       replace hd111_Evidence := Lib.hid hd111_Evidence
       replace hd111_Args := Lib.hid hd111_Args
       replace hd111_Arms := Lib.hid hd111_Arms
       have X111 := Lib.hid o111; clear o111
       simp only [putE, dstOf, pD, pE, Option.bind_some]
       simp only [Act.put, pA, pB, pC]
       generalize wk = w112 at *
       replace B15 := Lib.hid (B15.out.ch c109 (.inr (.inr (Nat.le_refl _))))
       replace B20 := Lib.hid (B20.out.ch c109 (.inr (.inr (Nat.le_refl _))))
       replace B34 := Lib.hid (B34.out.ch c109 (.inr (.inr (Nat.le_refl _))))
       replace X28 := Lib.hid (X28.out.ch c109 (.inr (.inr (Nat.le_refl _))))
       replace X29 := Lib.hid (X29.out.ch c109 (.inr (.inr (Nat.le_refl _))))
       replace X30 := Lib.hid (X30.out.ch c109 (.inr (.inr (Nat.le_refl _))))
       replace X44 := Lib.hid (X44.out.ch c109 (.inr (.inr (Nat.le_refl _))))
       replace R93 := Lib.hid (R93.out.ch c109 (.inr (.inr (Nat.le_refl _))))
       replace hV := Lib.hid (below_ch hV.out c109 (.inr (Nat.le_refl _)) hV.out.size)
       have z113 := c109.size
       clear c109
       have lx110 := X110.out.1
       have lx111 := X111.out.1
       refine rj_free (fuel := 4) [24] hI.out (by kernel_rfl) rfl ?_
       simp only [pick, pD, pE]
       refine sg_fix _ rfl (fun w' h' => by go_simp; rfl) ?_
       simp only [Act.put, pA, pB, pC]
       refine sg_nil ?_
       refine rj_one (fuel := 3) 25 (by kernel_rfl) rfl (fun K0 K114 => ?_)
       simp only [pick, pD, pE]
       have hl118 : ([.string y104.fConstructor, .slice a110 (y104.fVars).length p110, .int .i64 y104.fBody.fKind, .string y104.fBody.fTrait, .string y104.fBody.fName, .int .i64 y104.fBody.fN, d111_4, d111_5, d111_6, d111_7, d111_8, d111_9, d111_10] : List Value).length = 13 := rfl
       refine q_bs1 rfl 134 _ rfl Tryz.underlying134 irw242Wd (by decide) (by decide) _ rfl [.string y104.fConstructor, .slice a110 (y104.fVars).length p110, .int .i64 y104.fBody.fKind, .string y104.fBody.fTrait, .string y104.fBody.fName, .int .i64 y104.fBody.fN, d111_4, d111_5, d111_6, d111_7, d111_8, d111_9, d111_10] rfl hl118 ?_
       intro w115 c116 b117
       replace hI := Lib.hid (below_ch hI.out c116 (.inr (Nat.le_refl _)) hI.out.size)
       refine K114 _ _ (fun _ => hI.out) ?_
       simp only [Act.put, pA, pB, pC]
       clear hl118
       replace B15 := Lib.hid (B15.out.ch c116 (.inr (.inr (Nat.le_refl _))))
       replace B20 := Lib.hid (B20.out.ch c116 (.inr (.inr (Nat.le_refl _))))
       replace B34 := Lib.hid (B34.out.ch c116 (.inr (.inr (Nat.le_refl _))))
       replace X28 := Lib.hid (X28.out.ch c116 (.inr (.inr (Nat.le_refl _))))
       replace X29 := Lib.hid (X29.out.ch c116 (.inr (.inr (Nat.le_refl _))))
       replace X30 := Lib.hid (X30.out.ch c116 (.inr (.inr (Nat.le_refl _))))
       replace X44 := Lib.hid (X44.out.ch c116 (.inr (.inr (Nat.le_refl _))))
       replace X110 := Lib.hid (X110.out.ch c116 (.inr (.inr (Nat.le_refl _))))
       replace X111 := Lib.hid (X111.out.ch c116 (.inr (.inr (Nat.le_refl _))))
       replace R93 := Lib.hid (R93.out.ch c116 (.inr (.inr (Nat.le_refl _))))
       replace hV := Lib.hid (below_ch hV.out c116 (.inr (Nat.le_refl _)) hV.out.size)
       have z119 := c116.size
       clear c116
       have B120 := Lib.hid b117; have lb120 := b117.lt; clear b117
       refine rj_one (fuel := 2) 26 (by kernel_rfl) rfl (fun K0 K121 => ?_)
       simp only [pick, pD, pE]
       have X126 : Hid (Ow w115 (w106.heap.size) (w115.heap.size) (TCoreArm.enc y104) [.string y104.fConstructor, .slice a110 (y104.fVars).length p110, .int .i64 y104.fBody.fKind, .string y104.fBody.fTrait, .string y104.fBody.fName, .int .i64 y104.fBody.fN, d111_4, d111_5, d111_6, d111_7, d111_8, d111_9, d111_10]) := Lib.hid ((by rw [TCoreArm.enc_eq]; exact Ow.st (OwS.leaf (ownS he104_Constructor.out) (OwS.cons (c1 := [.slice a110 (y104.fVars).length p110]) (c2 := [.int .i64 y104.fBody.fKind, .string y104.fBody.fTrait, .string y104.fBody.fName, .int .i64 y104.fBody.fN, d111_4, d111_5, d111_6, d111_7, d111_8, d111_9, d111_10]) (X110.out) (OwS.cons (c1 := [.int .i64 y104.fBody.fKind, .string y104.fBody.fTrait, .string y104.fBody.fName, .int .i64 y104.fBody.fN, d111_4, d111_5, d111_6, d111_7, d111_8, d111_9, d111_10]) (c2 := []) (X111.out) (OwS.nil) (by simp)) (by intro p hp; simp only [List.mem_cons, List.not_mem_nil, or_false] at hp; subst hp <;> (show _ ≤ _ ∨ _ ≤ _; omega)))) (by intro p hp; simp only [List.mem_cons, List.not_mem_nil, or_false] at hp; rcases hp with rfl | rfl <;> (show _ ≤ _ ∧ _ ≤ _; omega)) (by omega)))
       have lx126 := X126.out.1
       have hb127 : ((((x.fArms).take n95)).map TCoreArm.enc).length + 1 ≤ 1048577 := by simp only [List.length_map, List.length_take] <;> omega
       have hw128 : (TCoreArm.enc y104).width = 13 := TCoreArm.width _
       have hc129 := B120.out.cells
       have h63130 : ((((x.fArms).take n95)).map TCoreArm.enc).length + 1 ≤ maxLen := by unfold maxLen; omega
       have hby131 : (((((x.fArms).take n95)).map TCoreArm.enc).length + 1) * 232 ≤ 140737488355328 := by omega
       have hd132 : w115.heap.size ≤ w45.heap.size ∨ hi97 ≤ w106.heap.size := by omega
       have hl133 : w45.heap.size ≤ w106.heap.size := by omega
       refine q_ap rfl _ _ 134 rfl (.agg #[.string ⟨#[]⟩, .slice none 0 0, .int .i64 0, .string ⟨#[]⟩, .string ⟨#[]⟩, .int .i64 0, .int .i64 0, .string ⟨#[]⟩, .slice none 0 0, .slice none 0 0, .slice none 0 0, .slice none 0 0, .slice none 0 0]) 232 Tryz.underlying134 irw242Wd irz242Wd (by decide) rfl R93.out (w112.heap.size) rfl hw128 hc129 X126.out hd132 hl133 h63130 hby131 ?_
       intro v124 w125 hG122 c123
       clear hb127 hw128 hc129 h63130 hby131 hd132 hl133
       clear B120 lb120
       clear X126
       have hG_ : Gw w125 (w45.heap.size) w125.heap.size 242 13 ((((x.fArms).take n95) ++ [y104]).map TCoreArm.enc) v124 := by (have h := hG122; simp only [List.map_append, List.map_take, List.map_cons, List.map_nil] at h ⊢; exact h)
       clear hG122
       refine K121 _ _ (jw_done (by kernel_rfl)) ?_
       simp only [Act.put, pA, pB, pC]
       replace B15 := Lib.hid (B15.out.ch c123 (by omega))
       replace B20 := Lib.hid (B20.out.ch c123 (by omega))
       replace B34 := Lib.hid (B34.out.ch c123 (by omega))
       replace X28 := Lib.hid (X28.out.ch c123 (by omega))
       replace X29 := Lib.hid (X29.out.ch c123 (by omega))
       replace X30 := Lib.hid (X30.out.ch c123 (by omega))
       replace X44 := Lib.hid (X44.out.ch c123 (by omega))
       replace X110 := Lib.hid (X110.out.ch c123 (by omega))
       replace X111 := Lib.hid (X111.out.ch c123 (by omega))
       replace hV := Lib.hid (below_ch hV.out c123 (by omega) hV.out.size)
       have z134 := c123.size
       clear c123
       replace R93 := Lib.hid hG_; clear hG_
       have lr93_w125 := R93.out.2.1
       refine rj_free' (fuel := 1) [27] (by kernel_rfl) rfl ?_
       simp only [pick, pD, pE]
       refine sg_fix _ rfl (fun w' h' => by go_simp; rfl) ?_
       simp only [Act.put, pA, pB, pC]
       refine sg_nil ?_
       refine rj_one (fuel := 0) 28 (by kernel_rfl) rfl (fun K0 K135 => ?_)
       simp only [pick, pD, pE]
       have hf136 := Lib.hid (show 10 < ([.int .i64 x.fKind, .string x.fTrait, .string x.fName, .int .i64 x.fN, .int .i64 x.fType.fKind, .string x.fType.fName, d28_2, .slice a29 (x.fTypeArgs).length p29, .slice a30 (x.fEvidence).length p30, .slice a44 (x.fArgs).length p44, v96] : List Value).length from (by decide : 10 < 11))
       have ha137 := Lib.hid (show ([.int .i64 x.fKind, .string x.fTrait, .string x.fName, .int .i64 x.fN, .int .i64 x.fType.fKind, .string x.fType.fName, d28_2, .slice a29 (x.fTypeArgs).length p29, .slice a30 (x.fEvidence).length p30, .slice a44 (x.fArgs).length p44, v96] : List Value).take 10 ++ [v124] ++ ([.int .i64 x.fKind, .string x.fTrait, .string x.fName, .int .i64 x.fN, .int .i64 x.fType.fKind, .string x.fType.fName, d28_2, .slice a29 (x.fTypeArgs).length p29, .slice a30 (x.fEvidence).length p30, .slice a44 (x.fArgs).length p44, v96] : List Value).drop (10 + 1) = [.int .i64 x.fKind, .string x.fTrait, .string x.fName, .int .i64 x.fN, .int .i64 x.fType.fKind, .string x.fType.fName, d28_2, .slice a29 (x.fTypeArgs).length p29, .slice a30 (x.fEvidence).length p30, .slice a44 (x.fArgs).length p44, v124] from rfl)
       have ho138 := Lib.hid (show (v124 : Value).oneCell' = true from R93.out.one)
       refine q_st1 rfl 134 _ _ rfl (lo20) 10 rfl (v124) rfl isz134Wd ho138.out [.int .i64 x.fKind, .string x.fTrait, .string x.fName, .int .i64 x.fN, .int .i64 x.fType.fKind, .string x.fType.fName, d28_2, .slice a29 (x.fTypeArgs).length p29, .slice a30 (x.fEvidence).length p30, .slice a44 (x.fArgs).length p44, v96] [.int .i64 x.fKind, .string x.fTrait, .string x.fName, .int .i64 x.fN, .int .i64 x.fType.fKind, .string x.fType.fName, d28_2, .slice a29 (x.fTypeArgs).length p29, .slice a30 (x.fEvidence).length p30, .slice a44 (x.fArgs).length p44, v124] 136 B34.out hf136.out ha137.out ?_
       intro w139 c140 b141
       refine K135 _ _ (jw_done (by kernel_rfl)) ?_
       refine rj_end (by kernel_rfl) ?_
       (try simp only [Act.put])
       (try simp only [Act.put, pA, pB, pC])
       replace B15 := Lib.hid (B15.out.ch c140 (by omega))
       replace B20 := Lib.hid (B20.out.ch c140 (by omega))
       replace X28 := Lib.hid (X28.out.ch c140 (by omega))
       replace X29 := Lib.hid (X29.out.ch c140 (by omega))
       replace X30 := Lib.hid (X30.out.ch c140 (by omega))
       replace X44 := Lib.hid (X44.out.ch c140 (by omega))
       replace X110 := Lib.hid (X110.out.ch c140 (by omega))
       replace X111 := Lib.hid (X111.out.ch c140 (by omega))
       replace R93 := Lib.hid (R93.out.ch c140 (by omega))
       replace hV := Lib.hid (below_ch hV.out c140 (by omega) hV.out.size)
       have z142 := c140.size
       clear c140
       replace B34 := Lib.hid b141; clear b141 hf136 ha137 ho138
       go_wp2_with fail
       go_roundw
       case rel => exact ⟨n95 + 1, _, _, hlt, by go_num, Lib.hid (by have hR := R93.out; rw [show _ ++ [y104] = _ from (by have := Ht.out; simpa using this)] at hR; exact hR), B15, B20, B34, X28, X29, X30, X44, hV, by omega⟩
       case measure => simp [intOf]; omega
     ·
      obtain rfl : n95 = (x.fArms).length := by omega
      have hR := R93.out; rw [List.take_of_length_le (Nat.le_refl _)] at hR; replace R93 := Lib.hid hR; clear hR
      have g143 : w94.cell? ⟨w.heap.size, 10, none⟩ = some (.slice a6 (x.fArms).length cap7) := B15.out.cell 10 rfl
      have hc144 : Cells w94 (lo20) (0) [.int .i64 x.fKind, .string x.fTrait, .string x.fName, .int .i64 x.fN, .int .i64 x.fType.fKind, .string x.fType.fName, d28_2, .slice a29 (x.fTypeArgs).length p29, .slice a30 (x.fEvidence).length p30, .slice a44 (x.fArgs).length p44, v96] := (B34.out.cells)
      have hi145 : (Tryz.prog.info? 136).map (·.size) = some ([.int .i64 x.fKind, .string x.fTrait, .string x.fName, .int .i64 x.fN, .int .i64 x.fType.fKind, .string x.fType.fName, d28_2, .slice a29 (x.fTypeArgs).length p29, .slice a30 (x.fEvidence).length p30, .slice a44 (x.fArgs).length p44, v96] : List Value).length := isz136Wd
      have hi149 := Lib.hid (show (Tryz.prog.info? 136).map (·.size) = some ([.int .i64 x.fKind, .string x.fTrait, .string x.fName, .int .i64 x.fN, .int .i64 x.fType.fKind, .string x.fType.fName, d28_2, .slice a29 (x.fTypeArgs).length p29, .slice a30 (x.fEvidence).length p30, .slice a44 (x.fArgs).length p44, v96] : List Value).length from isz136Wd)
      have hf146 := Lib.hid (show 0 + ([.int .i64 x.fKind, .string x.fTrait, .string x.fName, .int .i64 x.fN, .int .i64 x.fType.fKind, .string x.fType.fName, d28_2, .slice a29 (x.fTypeArgs).length p29, .slice a30 (x.fEvidence).length p30, .slice a44 (x.fArgs).length p44, v96] : List Value).length ≤ ([.int .i64 0, .string ⟨#[]⟩, .string ⟨#[]⟩, .int .i64 0, .int .i64 0, .string ⟨#[]⟩, .slice none 0 0, .slice none 0 0, .slice none 0 0, .slice none 0 0, .slice none 0 0] : List Value).length from (by decide : 11 ≤ 11))
      have ha147 := Lib.hid (show ([.int .i64 0, .string ⟨#[]⟩, .string ⟨#[]⟩, .int .i64 0, .int .i64 0, .string ⟨#[]⟩, .slice none 0 0, .slice none 0 0, .slice none 0 0, .slice none 0 0, .slice none 0 0] : List Value).take 0 ++ [.int .i64 x.fKind, .string x.fTrait, .string x.fName, .int .i64 x.fN, .int .i64 x.fType.fKind, .string x.fType.fName, d28_2, .slice a29 (x.fTypeArgs).length p29, .slice a30 (x.fEvidence).length p30, .slice a44 (x.fArgs).length p44, v96] ++ ([.int .i64 0, .string ⟨#[]⟩, .string ⟨#[]⟩, .int .i64 0, .int .i64 0, .string ⟨#[]⟩, .slice none 0 0, .slice none 0 0, .slice none 0 0, .slice none 0 0, .slice none 0 0] : List Value).drop (0 + ([.int .i64 x.fKind, .string x.fTrait, .string x.fName, .int .i64 x.fN, .int .i64 x.fType.fKind, .string x.fType.fName, d28_2, .slice a29 (x.fTypeArgs).length p29, .slice a30 (x.fEvidence).length p30, .slice a44 (x.fArgs).length p44, v96] : List Value).length) = [.int .i64 x.fKind, .string x.fTrait, .string x.fName, .int .i64 x.fN, .int .i64 x.fType.fKind, .string x.fType.fName, d28_2, .slice a29 (x.fTypeArgs).length p29, .slice a30 (x.fEvidence).length p30, .slice a44 (x.fArgs).length p44, v96] from rfl)
      have ho148 := Lib.hid (show ∀ u ∈ ([.int .i64 x.fKind, .string x.fTrait, .string x.fName, .int .i64 x.fN, .int .i64 x.fType.fKind, .string x.fType.fName, d28_2, .slice a29 (x.fTypeArgs).length p29, .slice a30 (x.fEvidence).length p30, .slice a44 (x.fArgs).length p44, v96] : List Value), u.oneCell' = true from (one_cons rfl (one_cons rfl (one_cons rfl (one_cons rfl (one_cons rfl (one_cons rfl (one_cons (d28_one.out _ (by simp)) (one_cons rfl (one_cons rfl (one_cons rfl (one_cons R93.out.one one_nil))))))))))))
      go_wp2_with (first | (with_reducible refine ld rfl 136 _ rfl (lo20) (0) rfl [.int .i64 x.fKind, .string x.fTrait, .string x.fName, .int .i64 x.fN, .int .i64 x.fType.fKind, .string x.fType.fName, d28_2, .slice a29 (x.fTypeArgs).length p29, .slice a30 (x.fEvidence).length p30, .slice a44 (x.fArgs).length p44, v96] hc144 _ Tryz.underlying136 hi145 ?_) | (with_reducible refine e_st rfl 136 _ _ rfl (w11.heap.size) 0 rfl [.int .i64 x.fKind, .string x.fTrait, .string x.fName, .int .i64 x.fN, .int .i64 x.fType.fKind, .string x.fType.fName, d28_2, .slice a29 (x.fTypeArgs).length p29, .slice a30 (x.fEvidence).length p30, .slice a44 (x.fArgs).length p44, v96] rfl hi149.out ho148.out [.int .i64 0, .string ⟨#[]⟩, .string ⟨#[]⟩, .int .i64 0, .int .i64 0, .string ⟨#[]⟩, .slice none 0 0, .slice none 0 0, .slice none 0 0, .slice none 0 0, .slice none 0 0] [.int .i64 x.fKind, .string x.fTrait, .string x.fName, .int .i64 x.fN, .int .i64 x.fType.fKind, .string x.fType.fName, d28_2, .slice a29 (x.fTypeArgs).length p29, .slice a30 (x.fEvidence).length p30, .slice a44 (x.fArgs).length p44, v96] 136 B20.out hf146.out ha147.out ?_))
      intro w150 c151 b152
      clear g143 hc144 hi145
      replace B15 := Lib.hid (B15.out.ch c151 (by omega))
      replace B34 := Lib.hid (B34.out.ch c151 (by omega))
      replace X28 := Lib.hid (X28.out.ch c151 (by omega))
      replace X29 := Lib.hid (X29.out.ch c151 (by omega))
      replace X30 := Lib.hid (X30.out.ch c151 (by omega))
      replace X44 := Lib.hid (X44.out.ch c151 (by omega))
      replace R93 := Lib.hid (R93.out.ch c151 (by omega))
      replace hV := Lib.hid (below_ch hV.out c151 (by omega) hV.out.size)
      have z153 := c151.size
      clear c151
      replace B20 := Lib.hid b152; clear b152 hi149 hf146 ha147 ho148
      go_wp2_with fail
      obtain ⟨a93, p93, rfl, o93⟩ := R93.out.ow
      have X93 := Lib.hid o93; have lx93 := o93.1; clear o93 R93
      have X154 : Hid (Ow w150 (w21.heap.size) (w150.heap.size) (TCore.enc x) [.int .i64 x.fKind, .string x.fTrait, .string x.fName, .int .i64 x.fN, .int .i64 x.fType.fKind, .string x.fType.fName, d28_2, .slice a29 (x.fTypeArgs).length p29, .slice a30 (x.fEvidence).length p30, .slice a44 (x.fArgs).length p44, .slice a93 (x.fArms).length p93]) := Lib.hid ((by rw [TCore.enc_eq]; exact Ow.st (OwS.leaf (ownI hpKind.out) (OwS.leaf (ownS hpTrait.out) (OwS.leaf (ownS hpName.out) (OwS.leaf (ownI hpN.out) (OwS.cons (c1 := [.int .i64 x.fType.fKind, .string x.fType.fName, d28_2]) (c2 := [.slice a29 (x.fTypeArgs).length p29, .slice a30 (x.fEvidence).length p30, .slice a44 (x.fArgs).length p44, .slice a93 (x.fArms).length p93]) (X28.out) (OwS.cons (c1 := [.slice a29 (x.fTypeArgs).length p29]) (c2 := [.slice a30 (x.fEvidence).length p30, .slice a44 (x.fArgs).length p44, .slice a93 (x.fArms).length p93]) (X29.out) (OwS.cons (c1 := [.slice a30 (x.fEvidence).length p30]) (c2 := [.slice a44 (x.fArgs).length p44, .slice a93 (x.fArms).length p93]) (X30.out) (OwS.cons (c1 := [.slice a44 (x.fArgs).length p44]) (c2 := [.slice a93 (x.fArms).length p93]) (X44.out) (OwS.cons (c1 := [.slice a93 (x.fArms).length p93]) (c2 := []) (X93.out) (OwS.nil) (by simp)) (by intro p hp; simp only [List.mem_cons, List.not_mem_nil, or_false] at hp; subst hp <;> (show _ ≤ _ ∨ _ ≤ _; omega))) (by intro p hp; simp only [List.mem_cons, List.not_mem_nil, or_false] at hp; rcases hp with rfl | rfl <;> (show _ ≤ _ ∨ _ ≤ _; omega))) (by intro p hp; simp only [List.mem_cons, List.not_mem_nil, or_false] at hp; rcases hp with rfl | rfl | rfl <;> (show _ ≤ _ ∨ _ ≤ _; omega))) (by intro p hp; simp only [List.mem_cons, List.not_mem_nil, or_false] at hp; rcases hp with rfl | rfl | rfl | rfl <;> (show _ ≤ _ ∨ _ ≤ _; omega))))))) (by intro p hp; simp only [List.mem_cons, List.not_mem_nil, or_false] at hp; rcases hp with rfl | rfl | rfl | rfl | rfl <;> (show _ ≤ _ ∧ _ ≤ _; omega)) (by omega)))
      have lx154 := X154.out.1
      have hiR : (Tryz.prog.info? 136).map (·.size) = some ([.int .i64 x.fKind, .string x.fTrait, .string x.fName, .int .i64 x.fN, .int .i64 x.fType.fKind, .string x.fType.fName, d28_2, .slice a29 (x.fTypeArgs).length p29, .slice a30 (x.fEvidence).length p30, .slice a44 (x.fArgs).length p44, .slice a93 (x.fArms).length p93] : List Value).length := isz136Wd
      (try simp only [Exit.inBlock, Exit.then])
      exact bodyPost_ret (v := .agg #[.int .i64 x.fKind, .string x.fTrait, .string x.fName, .int .i64 x.fN, .int .i64 x.fType.fKind, .string x.fType.fName, d28_2, .slice a29 (x.fTypeArgs).length p29, .slice a30 (x.fEvidence).length p30, .slice a44 (x.fArgs).length p44, .slice a93 (x.fArms).length p93]) (run_res Tryz.results151 (w11.heap.size) rfl [.int .i64 x.fKind, .string x.fTrait, .string x.fName, .int .i64 x.fN, .int .i64 x.fType.fKind, .string x.fType.fName, d28_2, .slice a29 (x.fTypeArgs).length p29, .slice a30 (x.fEvidence).length p30, .slice a44 (x.fArgs).length p44, .slice a93 (x.fArms).length p93] B20.out.cells _ Tryz.underlying136 hiR) rfl ⟨[.int .i64 x.fKind, .string x.fTrait, .string x.fName, .int .i64 x.fN, .int .i64 x.fType.fKind, .string x.fType.fName, d28_2, .slice a29 (x.fTypeArgs).length p29, .slice a30 (x.fEvidence).length p30, .slice a44 (x.fArgs).length p44, .slice a93 (x.fArms).length p93], rfl, X154.out.wide (by omega) (by omega) (Nat.le_refl _), hV.out⟩
theorem specSubstituteCore_o_all : ∀ N : Nat, CPspecSubstituteCore_o N
 | 0 => fun _ h => absurd h (Nat.not_lt_zero _)
 | N + 1 => by
  have i0 := specSubstituteCore_o_all N
  exact stepspecSubstituteCore_o N i0
theorem specSubstituteCore_o (x : TCore) : ∀ (_ : x.sz ≤ 1048576) (w : World) (K : Nat → Prop) (_ : ∀ b, K b → b < w.heap.size) (cs : List Value) (_ : Rep w K x.enc cs),
  Calls Tryz.prog 151 #[.slice none 0 0, .agg cs.toArray] w fun e w' => ∃ cs', e = .returned (.agg cs'.toArray) ∧ Ow w' w.heap.size w'.heap.size x.enc cs' ∧ Below w.heap.size w w' := (specSubstituteCore_o_all (SizeOf.sizeOf x + 1)) x (Nat.lt_succ_self _)
end Go.Proofs.YtkmiecgcibjkbaaGreat
