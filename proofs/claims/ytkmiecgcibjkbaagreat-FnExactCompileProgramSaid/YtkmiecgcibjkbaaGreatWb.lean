/- Functions walked once, their results in memory of their own. Condition: the value's size is at most 1048576. -/
import Derived.Test.YtkmiecgcibjkbaaGreatEng
import Derived.Test.YtkmiecgcibjkbaaGreatTo
namespace Go.Proofs.YtkmiecgcibjkbaaGreat
open Go.RowKit
theorem izr88Wb : (Tryz.prog.info? 88).map (·.zero) = some (some (.agg #[.int .i64 0, .string ⟨#[]⟩, .slice none 0 0])) := by kernel_rfl
theorem isz88Wb : (Tryz.prog.info? 88).map (·.size) = some 3 := by kernel_rfl
theorem iso88Wb : ((Tryz.prog.info? 88).map (·.size)).isSome = true := by kernel_rfl
theorem irw88Wb : (Tryz.prog.info? 88).map (fun i => (i.zero, i.size, i.bytes)) = some (some (.agg #[.int .i64 0, .string ⟨#[]⟩, .slice none 0 0]), 3, 48) := by kernel_rfl
theorem irz88Wb : ((.agg #[.int .i64 0, .string ⟨#[]⟩, .slice none 0 0]) : Value).cells.size = 3 := rfl
set_option maxRecDepth 100000 in
set_option maxHeartbeats 4000000 in
theorem specLookup_o (n : ByteArray) : ∀ (w : World), Calls Tryz.prog 239 #[.slice none 0 0, .string n] w fun e w' => e = .returned (.tuple #[.agg #[.int .i64 0, .string ⟨#[]⟩, .slice none 0 0], .bool false]) ∧ Below w.heap.size w w' := by
 intro w
 have hV : Hid (Below w.heap.size w w) := Lib.hid (Below.refl _ _)
 go_enter Tryz.func239, Tryz.ntmps239
 go_wp2_with (with_reducible refine e_al rfl 88 rfl [.int .i64 0, .string ⟨#[]⟩, .slice none 0 0] izr88Wb rfl ?_)
 intro w1 c2 b3
 replace hV := Lib.hid (below_ch hV.out c2 (.inr (Nat.le_refl _)) hV.out.size)
 have z4 := c2.size
 clear c2
 have B5 := Lib.hid b3; have lb5 := b3.lt; clear b3
 go_wp2_with fail
 go_loopw [6] (fun i wr => i = .int .i64 0 ∧ Hid (Bx wr (w.heap.size) [.int .i64 0, .string ⟨#[]⟩, .slice none 0 0] 88) ∧ Hid (Below w.heap.size w wr) ∧ w1.heap.size ≤ wr.heap.size) (fun _ _ => 0)
 case atStart => exact ⟨rfl, B5, hV, Nat.le_refl _⟩
 case round =>
  clear B5 hV
  obtain ⟨rfl, B5, hV, z7⟩ := hrel
  rename World => w6
  have lb5_w6 := B5.out.lt
  have hi11 := Lib.hid (show (Tryz.prog.info? 88).map (·.size) = some ([.int .i64 0, .string ⟨#[]⟩, .slice none 0 0] : List Value).length from isz88Wb)
  have hf8 := Lib.hid (show 0 + ([.int .i64 0, .string ⟨#[]⟩, .slice none 0 0] : List Value).length ≤ ([.int .i64 0, .string ⟨#[]⟩, .slice none 0 0] : List Value).length from (by decide : 3 ≤ 3))
  have ha9 := Lib.hid (show ([.int .i64 0, .string ⟨#[]⟩, .slice none 0 0] : List Value).take 0 ++ [.int .i64 0, .string ⟨#[]⟩, .slice none 0 0] ++ ([.int .i64 0, .string ⟨#[]⟩, .slice none 0 0] : List Value).drop (0 + ([.int .i64 0, .string ⟨#[]⟩, .slice none 0 0] : List Value).length) = [.int .i64 0, .string ⟨#[]⟩, .slice none 0 0] from rfl)
  have ho10 := Lib.hid (show ∀ u ∈ ([.int .i64 0, .string ⟨#[]⟩, .slice none 0 0] : List Value), u.oneCell' = true from (one_cons rfl (one_cons rfl (one_cons rfl one_nil))))
  go_wp2_with (with_reducible refine e_st rfl 88 _ _ rfl (w.heap.size) 0 rfl [.int .i64 0, .string ⟨#[]⟩, .slice none 0 0] rfl hi11.out ho10.out [.int .i64 0, .string ⟨#[]⟩, .slice none 0 0] [.int .i64 0, .string ⟨#[]⟩, .slice none 0 0] 88 B5.out hf8.out ha9.out ?_)
  intro w12 c13 b14
  replace hV := Lib.hid (below_ch hV.out c13 (by omega) hV.out.size)
  have z15 := c13.size
  clear c13
  replace B5 := Lib.hid b14; clear b14 hi11 hf8 ha9 ho10
  go_wp2_with fail
  have hiR : (Tryz.prog.info? 88).map (·.size) = some ([.int .i64 0, .string ⟨#[]⟩, .slice none 0 0] : List Value).length := isz88Wb
  (try simp only [Exit.inBlock, Exit.then])
  exact bodyPost_ret (v := .tuple #[.agg #[.int .i64 0, .string ⟨#[]⟩, .slice none 0 0], .bool false]) (run_resB Tryz.results239 (w.heap.size) rfl [.int .i64 0, .string ⟨#[]⟩, .slice none 0 0] B5.out.cells _ Tryz.underlying88 hiR (.bool false) rfl) rfl ⟨rfl, hV.out⟩
def CPspecApply_o (N : Nat) : Prop := ∀ (x : TType), SizeOf.sizeOf x < N → ∀ (_ : x.sz ≤ 1048576) (w : World) (K : Nat → Prop) (_ : ∀ b, K b → b < w.heap.size) (cs : List Value) (_ : Rep w K x.enc cs),
  Calls Tryz.prog 204 #[.slice none 0 0, .agg cs.toArray] w fun e w' => ∃ cs', e = .returned (.agg cs'.toArray) ∧ Ow w' w.heap.size w'.heap.size x.enc cs' ∧ Below w.heap.size w w'
def CPspecApplyAll_o (N : Nat) : Prop := ∀ (l : List TType), SizeOf.sizeOf l < N → ∀ (_ : szs TType.sz l ≤ 1048576) (w : World) (K : Nat → Prop) (_ : ∀ b, K b → b < w.heap.size) (v : Value) (_ : Rep w K (.sl (l.map TType.enc)) [v]),
  Calls Tryz.prog 205 #[.slice none 0 0, v] w fun e w' => ∃ a cap, e = .returned (.slice a l.length cap) ∧ Ow w' w.heap.size w'.heap.size (.sl (l.map TType.enc)) [.slice a l.length cap] ∧ Below w.heap.size w w'
set_option maxRecDepth 100000 in
set_option maxHeartbeats 4000000 in
theorem stepspecApply_o (N : Nat) (_ispecApply_o : CPspecApply_o N) (ispecApplyAll_o : CPspecApplyAll_o N) : CPspecApply_o (N + 1) := by
 intro x hN hz w K hK cs h
 have hV : Hid (Below w.heap.size w w) := Lib.hid (Below.refl _ _)
 replace hz := Lib.hid hz
 have pone := Lib.hid (Rep.one _ _ (h))
 obtain ⟨p2, rfl, hpKind, hpName, hpArgs⟩ := TType.opn (h)
 replace hpKind := Lib.hid hpKind
 replace hpName := Lib.hid hpName
 replace hpArgs := Lib.hid hpArgs
 replace h := Lib.hid h
 go_enter Tryz.func204, Tryz.ntmps204
 go_wp2_with (with_reducible refine e_box rfl 88 _ rfl _ rfl [.int .i64 x.fKind, .string x.fName, p2] rfl ?_)
 intro w1 c2 b3
 replace hV := Lib.hid (below_ch hV.out c2 (.inr (Nat.le_refl _)) hV.out.size)
 have z4 := c2.size
 clear c2
 have B5 := Lib.hid b3; have lb5 := b3.lt; clear b3
 go_wp2_with (with_reducible refine e_al rfl 88 rfl [.int .i64 0, .string ⟨#[]⟩, .slice none 0 0] izr88Wb rfl ?_)
 intro w6 c7 b8
 replace B5 := Lib.hid (B5.out.ch c7 (.inr (.inr (Nat.le_refl _))))
 replace hV := Lib.hid (below_ch hV.out c7 (.inr (Nat.le_refl _)) hV.out.size)
 have z9 := c7.size
 clear c7
 have B10 := Lib.hid b8; have lb10 := b8.lt; clear b8
 have g11 : w6.cell? ⟨w.heap.size, 0, none⟩ = some (.int .i64 x.fKind) := B5.out.cell 0 rfl
 by_cases hb12 : x.fKind = 1
 ·
  have hb12_ : (x.fKind == 1) = true := by simpa using hb12
  replace hb12 := Lib.hid hb12
  have g13 : w6.cell? ⟨w.heap.size, 1, none⟩ = some (.string x.fName) := B5.out.cell 1 rfl
  go_wp2_with fail
  refine (specLookup_o _ _).mono ?_
  rintro e w14 ⟨rfl, hB16⟩
  have c15 := Ch.of_below hB16; clear hB16
  clear g11 g13
  replace B5 := Lib.hid (B5.out.ch c15 (.inr (.inr (Nat.le_refl _))))
  replace B10 := Lib.hid (B10.out.ch c15 (.inr (.inr (Nat.le_refl _))))
  replace hV := Lib.hid (below_ch hV.out c15 (.inr (Nat.le_refl _)) hV.out.size)
  have z17 := c15.size
  clear c15
  go_wp2_with (with_reducible refine e_al rfl 88 rfl [.int .i64 0, .string ⟨#[]⟩, .slice none 0 0] izr88Wb rfl ?_)
  intro w18 c19 b20
  replace B5 := Lib.hid (B5.out.ch c19 (.inr (.inr (Nat.le_refl _))))
  replace B10 := Lib.hid (B10.out.ch c19 (.inr (.inr (Nat.le_refl _))))
  replace hV := Lib.hid (below_ch hV.out c19 (.inr (Nat.le_refl _)) hV.out.size)
  have z21 := c19.size
  clear c19
  have B22 := Lib.hid b20; have lb22 := b20.lt; clear b20
  have hi26 := Lib.hid (show (Tryz.prog.info? 88).map (·.size) = some ([.int .i64 0, .string ⟨#[]⟩, .slice none 0 0] : List Value).length from isz88Wb)
  have hf23 := Lib.hid (show 0 + ([.int .i64 0, .string ⟨#[]⟩, .slice none 0 0] : List Value).length ≤ ([.int .i64 0, .string ⟨#[]⟩, .slice none 0 0] : List Value).length from (by decide : 3 ≤ 3))
  have ha24 := Lib.hid (show ([.int .i64 0, .string ⟨#[]⟩, .slice none 0 0] : List Value).take 0 ++ [.int .i64 0, .string ⟨#[]⟩, .slice none 0 0] ++ ([.int .i64 0, .string ⟨#[]⟩, .slice none 0 0] : List Value).drop (0 + ([.int .i64 0, .string ⟨#[]⟩, .slice none 0 0] : List Value).length) = [.int .i64 0, .string ⟨#[]⟩, .slice none 0 0] from rfl)
  have ho25 := Lib.hid (show ∀ u ∈ ([.int .i64 0, .string ⟨#[]⟩, .slice none 0 0] : List Value), u.oneCell' = true from (one_cons rfl (one_cons rfl (one_cons rfl one_nil))))
  go_wp2_with (with_reducible refine e_st rfl 88 _ _ rfl (w14.heap.size) 0 rfl [.int .i64 0, .string ⟨#[]⟩, .slice none 0 0] rfl hi26.out ho25.out [.int .i64 0, .string ⟨#[]⟩, .slice none 0 0] [.int .i64 0, .string ⟨#[]⟩, .slice none 0 0] 88 B22.out hf23.out ha24.out ?_)
  intro w27 c28 b29
  replace B5 := Lib.hid (B5.out.ch c28 (by omega))
  replace B10 := Lib.hid (B10.out.ch c28 (by omega))
  replace hV := Lib.hid (below_ch hV.out c28 (by omega) hV.out.size)
  have z30 := c28.size
  clear c28
  replace B22 := Lib.hid b29; clear b29 hi26 hf23 ha24 ho25
  go_wp2_with fail
  refine rj 10 9 (Below w27.drew.heap.size w27.drew) (by kernel_rfl) rfl ?_
  have c32 : Ch w27 w27.drew 0 0 := Ch.of_below (Below.refl _ _).drew
  generalize w27.drew = w31 at *
  replace B5 := Lib.hid (B5.out.ch c32 (.inr (.inr (Nat.le_refl _))))
  replace B10 := Lib.hid (B10.out.ch c32 (.inr (.inr (Nat.le_refl _))))
  replace B22 := Lib.hid (B22.out.ch c32 (.inr (.inr (Nat.le_refl _))))
  replace hV := Lib.hid (below_ch hV.out c32 (.inr (Nat.le_refl _)) hV.out.size)
  have z33 := c32.size
  clear c32
  have hI := Lib.hid (Below.refl w31.heap.size w31)
  refine rj_seg (fuel := 3) [0, 1, 2, 3, 4, 5, 6] hI.out (by kernel_rfl) rfl ?_
  simp only [pick, pD, pE]
  refine sg_fix _ rfl (fun w' h' => by go_simp; rfl) ?_
  simp only [Act.put, pA, pB, pC]
  refine sg_fix _ rfl (fun w' h' => by have h0 : w'.cell? ⟨w.heap.size, 0, none⟩ = some (.int .i64 x.fKind) := (B5.out.below h').cell 0 rfl; go_simp; rfl) ?_
  simp only [Act.put, pA, pB, pC]
  refine sg_fix _ rfl (fun w' h' => by go_simp; rfl) ?_
  simp only [Act.put, pA, pB, pC]
  refine sg_fix _ rfl (fun w' h' => by have h0 : w'.cell? ⟨w.heap.size, 1, none⟩ = some (.string x.fName) := (B5.out.below h').cell 1 rfl; go_simp; rfl) ?_
  simp only [Act.put, pA, pB, pC]
  refine sg_fix _ rfl (fun w' h' => by go_simp; rfl) ?_
  simp only [Act.put, pA, pB, pC]
  refine sg_fix _ rfl (fun w' h' => by go_simp; rfl) ?_
  simp only [Act.put, pA, pB, pC]
  refine sg_fix _ rfl (fun w' h' => by have h0 : w'.cell? ⟨w.heap.size, 2, none⟩ = some (p2) := (B5.out.below h').cell 2 rfl; go_simp; rfl) ?_
  simp only [Act.put, pA, pB, pC]
  refine sg_nil ?_
  refine rj_es (fuel := 2) [⟨7, none, false, gdSl TType.enc (x.fArgs)⟩] (by kernel_rfl) rfl (fun w' h' => h') (fun e he hd hfi w' h' => ?_) (fun e he f hf hd w' v lo hi h' hg hl hh => ?_) (fun e he hfi xs w' hA => ?_) (fun e he hfi => ?_) (fun xs wk h' hF hA hD => ?_)
  ·simp only [List.mem_cons, List.not_mem_nil, or_false] at he
   subst he
   ·simp only [pick, pD, pE]
    refine ov_call rfl 205 #[.slice none 0 0, p2] (by go_simp <;> rfl) ?_
    exact (ispecApplyAll_o (x.fArgs) (by have := TType.lt_fArgs (x); omega) (by have h0 := hz.out; rw [TType.sz_eq] at h0; omega) _ _ (fun b h => Nat.lt_of_lt_of_le (hK b h) (Nat.le_trans hV.out.size h'.size)) _ ((Rep.ext (hV.out.trans (h'.mono hV.out.size)) hK (hpArgs.out)))).mono fun e w2 ⟨a, p, he, ho, hb⟩ => ⟨_, he, hb, a, p, rfl, ho⟩
  ·simp only [List.mem_cons, List.not_mem_nil, or_false] at he hf
   (subst he) <;> exact absurd hd (by simp)
  ·simp only [List.mem_cons, List.not_mem_nil, or_false] at he
   (subst he) <;> exact absurd hfi (by simp)
  ·simp only [List.mem_cons, List.not_mem_nil, or_false] at he
   (subst he) <;> first | rfl | (cases hfi; done)
  ·
   obtain ⟨v7, lo7, hi7, xs, rfl, g7, l7, u7, hA⟩ := hA
   have hA : xs = [] := hA; subst hA
   obtain ⟨-, -⟩ := hD
   clear hF
   replace hI := Lib.hid h'
   have c34 := Ch.of_below h'; clear h'
   replace g7 := g7 (by intro f hf; simp only [List.mem_cons, List.not_mem_nil, or_false] at hf; subst hf <;> simp)
   obtain ⟨a35, p35, rfl, o35⟩ := g7
   have X35 := Lib.hid o35; clear o35
   simp only [putE, dstOf, pD, pE, Option.bind_some]
   simp only [Act.put, pA, pB, pC]
   generalize wk = w36 at *
   replace B5 := Lib.hid (B5.out.ch c34 (.inr (.inr (Nat.le_refl _))))
   replace B10 := Lib.hid (B10.out.ch c34 (.inr (.inr (Nat.le_refl _))))
   replace B22 := Lib.hid (B22.out.ch c34 (.inr (.inr (Nat.le_refl _))))
   replace hV := Lib.hid (below_ch hV.out c34 (.inr (Nat.le_refl _)) hV.out.size)
   have z37 := c34.size
   clear c34
   have lx35 := X35.out.1
   refine rj_free (fuel := 1) [8] hI.out (by kernel_rfl) rfl ?_
   simp only [pick, pD, pE]
   refine sg_fix _ rfl (fun w' h' => by go_simp; rfl) ?_
   simp only [Act.put, pA, pB, pC]
   refine sg_nil ?_
   refine rj_one (fuel := 0) 9 (by kernel_rfl) rfl (fun K0 K38 => ?_)
   simp only [pick, pD, pE]
   have hi42 := Lib.hid (show (Tryz.prog.info? 88).map (·.size) = some ([.int .i64 x.fKind, .string x.fName, .slice a35 (x.fArgs).length p35] : List Value).length from isz88Wb)
   have hf39 := Lib.hid (show 0 + ([.int .i64 x.fKind, .string x.fName, .slice a35 (x.fArgs).length p35] : List Value).length ≤ ([.int .i64 0, .string ⟨#[]⟩, .slice none 0 0] : List Value).length from (by decide : 3 ≤ 3))
   have ha40 := Lib.hid (show ([.int .i64 0, .string ⟨#[]⟩, .slice none 0 0] : List Value).take 0 ++ [.int .i64 x.fKind, .string x.fName, .slice a35 (x.fArgs).length p35] ++ ([.int .i64 0, .string ⟨#[]⟩, .slice none 0 0] : List Value).drop (0 + ([.int .i64 x.fKind, .string x.fName, .slice a35 (x.fArgs).length p35] : List Value).length) = [.int .i64 x.fKind, .string x.fName, .slice a35 (x.fArgs).length p35] from rfl)
   have ho41 := Lib.hid (show ∀ u ∈ ([.int .i64 x.fKind, .string x.fName, .slice a35 (x.fArgs).length p35] : List Value), u.oneCell' = true from (one_cons rfl (one_cons rfl (one_cons rfl one_nil))))
   refine q_st rfl 88 _ _ rfl (w1.heap.size) 0 rfl [.int .i64 x.fKind, .string x.fName, .slice a35 (x.fArgs).length p35] rfl hi42.out ho41.out [.int .i64 0, .string ⟨#[]⟩, .slice none 0 0] [.int .i64 x.fKind, .string x.fName, .slice a35 (x.fArgs).length p35] 88 B10.out hf39.out ha40.out ?_
   intro w43 c44 b45
   refine K38 _ _ (jw_done (by kernel_rfl)) ?_
   refine rj_end (by kernel_rfl) ?_
   (try simp only [Act.put])
   (try simp only [Act.put, pA, pB, pC])
   replace B5 := Lib.hid (B5.out.ch c44 (by omega))
   replace B22 := Lib.hid (B22.out.ch c44 (by omega))
   replace X35 := Lib.hid (X35.out.ch c44 (by omega))
   replace hV := Lib.hid (below_ch hV.out c44 (by omega) hV.out.size)
   have z46 := c44.size
   clear c44
   replace B10 := Lib.hid b45; clear b45 hi42 hf39 ha40 ho41
   go_wp2_with fail
   have X47 : Hid (Ow w43 (w31.heap.size) (w43.heap.size) (TType.enc x) [.int .i64 x.fKind, .string x.fName, .slice a35 (x.fArgs).length p35]) := Lib.hid ((by rw [TType.enc_eq]; exact Ow.st (OwS.leaf (ownI hpKind.out) (OwS.leaf (ownS hpName.out) (OwS.cons (c1 := [.slice a35 (x.fArgs).length p35]) (c2 := []) (X35.out) (OwS.nil) (by simp)))) (by intro p hp; simp only [List.mem_cons, List.not_mem_nil, or_false] at hp; subst hp <;> (show _ ≤ _ ∧ _ ≤ _; omega)) (by omega)))
   have lx47 := X47.out.1
   have hiR : (Tryz.prog.info? 88).map (·.size) = some ([.int .i64 x.fKind, .string x.fName, .slice a35 (x.fArgs).length p35] : List Value).length := isz88Wb
   (try simp only [Exit.inBlock, Exit.then])
   exact bodyPost_ret (v := .agg #[.int .i64 x.fKind, .string x.fName, .slice a35 (x.fArgs).length p35]) (run_res Tryz.results204 (w1.heap.size) rfl [.int .i64 x.fKind, .string x.fName, .slice a35 (x.fArgs).length p35] B10.out.cells _ Tryz.underlying88 hiR) rfl ⟨[.int .i64 x.fKind, .string x.fName, .slice a35 (x.fArgs).length p35], rfl, X47.out.wide (by omega) (by omega) (Nat.le_refl _), hV.out⟩
 ·
  have hb12_ : (x.fKind == 1) = false := by simpa using hb12
  replace hb12 := Lib.hid hb12
  go_wp2_with fail
  refine rj 10 9 (Below w6.drew.heap.size w6.drew) (by kernel_rfl) rfl ?_
  have c49 : Ch w6 w6.drew 0 0 := Ch.of_below (Below.refl _ _).drew
  generalize w6.drew = w48 at *
  clear g11
  replace B5 := Lib.hid (B5.out.ch c49 (.inr (.inr (Nat.le_refl _))))
  replace B10 := Lib.hid (B10.out.ch c49 (.inr (.inr (Nat.le_refl _))))
  replace hV := Lib.hid (below_ch hV.out c49 (.inr (Nat.le_refl _)) hV.out.size)
  have z50 := c49.size
  clear c49
  have hI := Lib.hid (Below.refl w48.heap.size w48)
  refine rj_seg (fuel := 3) [0, 1, 2, 3, 4, 5, 6] hI.out (by kernel_rfl) rfl ?_
  simp only [pick, pD, pE]
  refine sg_fix _ rfl (fun w' h' => by go_simp; rfl) ?_
  simp only [Act.put, pA, pB, pC]
  refine sg_fix _ rfl (fun w' h' => by have h0 : w'.cell? ⟨w.heap.size, 0, none⟩ = some (.int .i64 x.fKind) := (B5.out.below h').cell 0 rfl; go_simp; rfl) ?_
  simp only [Act.put, pA, pB, pC]
  refine sg_fix _ rfl (fun w' h' => by go_simp; rfl) ?_
  simp only [Act.put, pA, pB, pC]
  refine sg_fix _ rfl (fun w' h' => by have h0 : w'.cell? ⟨w.heap.size, 1, none⟩ = some (.string x.fName) := (B5.out.below h').cell 1 rfl; go_simp; rfl) ?_
  simp only [Act.put, pA, pB, pC]
  refine sg_fix _ rfl (fun w' h' => by go_simp; rfl) ?_
  simp only [Act.put, pA, pB, pC]
  refine sg_fix _ rfl (fun w' h' => by go_simp; rfl) ?_
  simp only [Act.put, pA, pB, pC]
  refine sg_fix _ rfl (fun w' h' => by have h0 : w'.cell? ⟨w.heap.size, 2, none⟩ = some (p2) := (B5.out.below h').cell 2 rfl; go_simp; rfl) ?_
  simp only [Act.put, pA, pB, pC]
  refine sg_nil ?_
  refine rj_es (fuel := 2) [⟨7, none, false, gdSl TType.enc (x.fArgs)⟩] (by kernel_rfl) rfl (fun w' h' => h') (fun e he hd hfi w' h' => ?_) (fun e he f hf hd w' v lo hi h' hg hl hh => ?_) (fun e he hfi xs w' hA => ?_) (fun e he hfi => ?_) (fun xs wk h' hF hA hD => ?_)
  ·simp only [List.mem_cons, List.not_mem_nil, or_false] at he
   subst he
   ·simp only [pick, pD, pE]
    refine ov_call rfl 205 #[.slice none 0 0, p2] (by go_simp <;> rfl) ?_
    exact (ispecApplyAll_o (x.fArgs) (by have := TType.lt_fArgs (x); omega) (by have h0 := hz.out; rw [TType.sz_eq] at h0; omega) _ _ (fun b h => Nat.lt_of_lt_of_le (hK b h) (Nat.le_trans hV.out.size h'.size)) _ ((Rep.ext (hV.out.trans (h'.mono hV.out.size)) hK (hpArgs.out)))).mono fun e w2 ⟨a, p, he, ho, hb⟩ => ⟨_, he, hb, a, p, rfl, ho⟩
  ·simp only [List.mem_cons, List.not_mem_nil, or_false] at he hf
   (subst he) <;> exact absurd hd (by simp)
  ·simp only [List.mem_cons, List.not_mem_nil, or_false] at he
   (subst he) <;> exact absurd hfi (by simp)
  ·simp only [List.mem_cons, List.not_mem_nil, or_false] at he
   (subst he) <;> first | rfl | (cases hfi; done)
  ·
   obtain ⟨v7, lo7, hi7, xs, rfl, g7, l7, u7, hA⟩ := hA
   have hA : xs = [] := hA; subst hA
   obtain ⟨-, -⟩ := hD
   clear hF
   replace hI := Lib.hid h'
   have c51 := Ch.of_below h'; clear h'
   replace g7 := g7 (by intro f hf; simp only [List.mem_cons, List.not_mem_nil, or_false] at hf; subst hf <;> simp)
   obtain ⟨a52, p52, rfl, o52⟩ := g7
   have X52 := Lib.hid o52; clear o52
   simp only [putE, dstOf, pD, pE, Option.bind_some]
   simp only [Act.put, pA, pB, pC]
   generalize wk = w53 at *
   replace B5 := Lib.hid (B5.out.ch c51 (.inr (.inr (Nat.le_refl _))))
   replace B10 := Lib.hid (B10.out.ch c51 (.inr (.inr (Nat.le_refl _))))
   replace hV := Lib.hid (below_ch hV.out c51 (.inr (Nat.le_refl _)) hV.out.size)
   have z54 := c51.size
   clear c51
   have lx52 := X52.out.1
   refine rj_free (fuel := 1) [8] hI.out (by kernel_rfl) rfl ?_
   simp only [pick, pD, pE]
   refine sg_fix _ rfl (fun w' h' => by go_simp; rfl) ?_
   simp only [Act.put, pA, pB, pC]
   refine sg_nil ?_
   refine rj_one (fuel := 0) 9 (by kernel_rfl) rfl (fun K0 K55 => ?_)
   simp only [pick, pD, pE]
   have hi59 := Lib.hid (show (Tryz.prog.info? 88).map (·.size) = some ([.int .i64 x.fKind, .string x.fName, .slice a52 (x.fArgs).length p52] : List Value).length from isz88Wb)
   have hf56 := Lib.hid (show 0 + ([.int .i64 x.fKind, .string x.fName, .slice a52 (x.fArgs).length p52] : List Value).length ≤ ([.int .i64 0, .string ⟨#[]⟩, .slice none 0 0] : List Value).length from (by decide : 3 ≤ 3))
   have ha57 := Lib.hid (show ([.int .i64 0, .string ⟨#[]⟩, .slice none 0 0] : List Value).take 0 ++ [.int .i64 x.fKind, .string x.fName, .slice a52 (x.fArgs).length p52] ++ ([.int .i64 0, .string ⟨#[]⟩, .slice none 0 0] : List Value).drop (0 + ([.int .i64 x.fKind, .string x.fName, .slice a52 (x.fArgs).length p52] : List Value).length) = [.int .i64 x.fKind, .string x.fName, .slice a52 (x.fArgs).length p52] from rfl)
   have ho58 := Lib.hid (show ∀ u ∈ ([.int .i64 x.fKind, .string x.fName, .slice a52 (x.fArgs).length p52] : List Value), u.oneCell' = true from (one_cons rfl (one_cons rfl (one_cons rfl one_nil))))
   refine q_st rfl 88 _ _ rfl (w1.heap.size) 0 rfl [.int .i64 x.fKind, .string x.fName, .slice a52 (x.fArgs).length p52] rfl hi59.out ho58.out [.int .i64 0, .string ⟨#[]⟩, .slice none 0 0] [.int .i64 x.fKind, .string x.fName, .slice a52 (x.fArgs).length p52] 88 B10.out hf56.out ha57.out ?_
   intro w60 c61 b62
   refine K55 _ _ (jw_done (by kernel_rfl)) ?_
   refine rj_end (by kernel_rfl) ?_
   (try simp only [Act.put])
   (try simp only [Act.put, pA, pB, pC])
   replace B5 := Lib.hid (B5.out.ch c61 (by omega))
   replace X52 := Lib.hid (X52.out.ch c61 (by omega))
   replace hV := Lib.hid (below_ch hV.out c61 (by omega) hV.out.size)
   have z63 := c61.size
   clear c61
   replace B10 := Lib.hid b62; clear b62 hi59 hf56 ha57 ho58
   go_wp2_with fail
   have X64 : Hid (Ow w60 (w48.heap.size) (w60.heap.size) (TType.enc x) [.int .i64 x.fKind, .string x.fName, .slice a52 (x.fArgs).length p52]) := Lib.hid ((by rw [TType.enc_eq]; exact Ow.st (OwS.leaf (ownI hpKind.out) (OwS.leaf (ownS hpName.out) (OwS.cons (c1 := [.slice a52 (x.fArgs).length p52]) (c2 := []) (X52.out) (OwS.nil) (by simp)))) (by intro p hp; simp only [List.mem_cons, List.not_mem_nil, or_false] at hp; subst hp <;> (show _ ≤ _ ∧ _ ≤ _; omega)) (by omega)))
   have lx64 := X64.out.1
   have hiR : (Tryz.prog.info? 88).map (·.size) = some ([.int .i64 x.fKind, .string x.fName, .slice a52 (x.fArgs).length p52] : List Value).length := isz88Wb
   (try simp only [Exit.inBlock, Exit.then])
   exact bodyPost_ret (v := .agg #[.int .i64 x.fKind, .string x.fName, .slice a52 (x.fArgs).length p52]) (run_res Tryz.results204 (w1.heap.size) rfl [.int .i64 x.fKind, .string x.fName, .slice a52 (x.fArgs).length p52] B10.out.cells _ Tryz.underlying88 hiR) rfl ⟨[.int .i64 x.fKind, .string x.fName, .slice a52 (x.fArgs).length p52], rfl, X64.out.wide (by omega) (by omega) (Nat.le_refl _), hV.out⟩
set_option maxRecDepth 100000 in
set_option maxHeartbeats 4000000 in
theorem stepspecApplyAll_o (N : Nat) (ispecApply_o : CPspecApply_o N) (_ispecApplyAll_o : CPspecApplyAll_o N) : CPspecApplyAll_o (N + 1) := by
 intro l hN hz w K hK v h
 have hV : Hid (Below w.heap.size w w) := Lib.hid (Below.refl _ _)
 replace hz := Lib.hid hz
 replace h := Lib.hid h
 obtain ⟨a1, cap2, rfl, hcp3, hcm4, -, hE5⟩ := open_sl TType.width h.out
 unfold maxLen at hcm4
 replace hE5 := Lib.hid hE5
 have hcm4_ : (l).length ≤ 1048576 := by have h0 := hz.out; unfold szs at h0; omega
 go_enter Tryz.func205, Tryz.ntmps205
 go_wp2_with (with_reducible refine e_bs0 rfl 86 rfl Tryz.underlying86 iso88Wb ?_)
 intro w6 c7 b8
 replace hV := Lib.hid (below_ch hV.out c7 (.inr (Nat.le_refl _)) hV.out.size)
 have z9 := c7.size
 clear c7
 have R10 := Lib.hid (Gw.made (size := 3) b8 (Nat.le_refl _)); have lr10 := b8.lt; clear b8
 go_wp2_with fail
 go_loopw [5, 6] (fun o i wr => ∃ (n : Nat) (v' : Value) (hi' : Nat), n ≤ (l).length ∧ v' = o ∧ i = .int .i64 n ∧ Hid (Gw wr (w.heap.size) hi' 88 3 (((l).take n).map TType.enc) v') ∧ Hid (Below w.heap.size w wr) ∧ w6.heap.size ≤ wr.heap.size) (fun _ i _ => (l).length - (intOf i).toNat)
 case atStart => exact ⟨0, _, _, Nat.zero_le _, rfl, rfl, R10, hV, Nat.le_refl _⟩
 case round =>
  clear R10  hV
  obtain ⟨n12, v13, hi14, hn, rfl, rfl, R10, hV, z15⟩ := hrel
  rename World => w11
  have lr10_w11 := R10.out.1; have lr10_w11_ := R10.out.2.1
  by_cases hlt : n12 < (l).length
  ·
   obtain ⟨bk16, of17, rfl, hb18, cs19, hcs20, hr21⟩ := hE5.out n12 hlt
   replace hcs20 := Lib.hid hcs20; replace hr21 := Lib.hid hr21
   have hmem : (l)[n12] ∈ l := List.getElem_mem hlt
   have Ht := Lib.hid (take_snoc (fun y => y) hlt)
   have Hl := Lib.hid (show (((l).take n12)).length = n12 from by simp; omega)
   have Hs := Lib.hid (show SizeOf.sizeOf (l)[n12] < SizeOf.sizeOf (l) from List.sizeOf_lt_of_mem hmem)
   have Hz := Lib.hid (show TType.sz (l)[n12] ≤ 1048576 from (by have h1 := szL_le TType.sz hmem; have h0 := hz.out; unfold szs at h0; omega))
   generalize (l)[n12] = y21 at *
   have e21_one := Lib.hid (Rep.one _ _ (hr21.out))
   obtain ⟨e21_2, rfl, he21_Kind, he21_Name, he21_Args⟩ := TType.opn (hr21.out)
   replace he21_Kind := Lib.hid he21_Kind
   replace he21_Name := Lib.hid he21_Name
   replace he21_Args := Lib.hid he21_Args
   have hc22 : Cells w11 (bk16) (of17 + n12 * 3) [.int .i64 y21.fKind, .string y21.fName, e21_2] := (hcs20.out.ext hV.out (hK _ hb18))
   have hi23 : (Tryz.prog.info? 88).map (·.size) = some ([.int .i64 y21.fKind, .string y21.fName, e21_2] : List Value).length := isz88Wb
   go_wp2_with (with_reducible refine ld rfl 88 _ rfl (bk16) (of17 + n12 * 3) rfl [.int .i64 y21.fKind, .string y21.fName, e21_2] hc22 _ Tryz.underlying88 hi23 ?_)
   refine (ispecApply_o (y21) (by have := Hs.out; omega) Hz.out _ _ (fun b h => Nat.lt_of_lt_of_le (hK b h) hV.out.size) _ ((Rep.ext hV.out hK (hr21.out)))).mono ?_
   rintro e w24 ⟨cs26, rfl, o26, hB26⟩
   have d26_one := Lib.hid (Rep.one _ _ (o26.rep))
   obtain ⟨d26_2, rfl, hd26_Kind, hd26_Name, hd26_Args⟩ := TType.opn (o26.rep)
   replace hd26_Kind := Lib.hid hd26_Kind
   replace hd26_Name := Lib.hid hd26_Name
   replace hd26_Args := Lib.hid hd26_Args
   have X26 := Lib.hid o26; clear o26
   have c25 := Ch.of_below hB26; clear hB26
   clear hc22 hi23
   replace R10 := Lib.hid (R10.out.ch c25 (.inr (.inr (Nat.le_refl _))))
   replace hV := Lib.hid (below_ch hV.out c25 (.inr (Nat.le_refl _)) hV.out.size)
   have z27 := c25.size
   clear c25
   have lx26 := X26.out.1
   have hl31 : ([.int .i64 y21.fKind, .string y21.fName, d26_2] : List Value).length = 3 := rfl
   go_wp2_with (with_reducible refine e_bs1 rfl 86 _ rfl Tryz.underlying86 irw88Wb (by decide) (by decide) _ rfl [.int .i64 y21.fKind, .string y21.fName, d26_2] rfl hl31 ?_)
   intro w28 c29 b30
   clear hl31
   replace X26 := Lib.hid (X26.out.ch c29 (.inr (.inr (Nat.le_refl _))))
   replace R10 := Lib.hid (R10.out.ch c29 (.inr (.inr (Nat.le_refl _))))
   replace hV := Lib.hid (below_ch hV.out c29 (.inr (Nat.le_refl _)) hV.out.size)
   have z32 := c29.size
   clear c29
   have B33 := Lib.hid b30; have lb33 := b30.lt; clear b30
   have hb38 : ((((l).take n12)).map TType.enc).length + 1 ≤ 1048577 := by simp only [List.length_map, List.length_take] <;> omega
   have hw39 : (TType.enc y21).width = 3 := TType.width _
   have hc40 := B33.out.cells
   have h6341 : ((((l).take n12)).map TType.enc).length + 1 ≤ maxLen := by unfold maxLen; omega
   have hby42 : (((((l).take n12)).map TType.enc).length + 1) * 48 ≤ 140737488355328 := by omega
   have hd43 : w24.heap.size ≤ w.heap.size ∨ hi14 ≤ w11.heap.size := by omega
   have hl44 : w.heap.size ≤ w11.heap.size := by omega
   go_wp2_with (with_reducible refine e_ap rfl _ _ 86 rfl (.agg #[.int .i64 0, .string ⟨#[]⟩, .slice none 0 0]) 48 Tryz.underlying86 irw88Wb irz88Wb (by decide) rfl R10.out (w24.heap.size) rfl hw39 hc40 X26.out hd43 hl44 h6341 hby42 ?_)
   intro v36 w37 hG34 c35
   clear hb38 hw39 hc40 h6341 hby42 hd43 hl44
   clear B33 lb33
   clear X26
   have hG_ : Gw w37 (w.heap.size) w37.heap.size 88 3 ((((l).take n12) ++ [y21]).map TType.enc) v36 := by (have h := hG34; simp only [List.map_append, List.map_take, List.map_cons, List.map_nil] at h ⊢; exact h)
   clear hG34
   replace hV := Lib.hid (below_ch hV.out c35 (by omega) hV.out.size)
   have z45 := c35.size
   clear c35
   replace R10 := Lib.hid hG_; clear hG_
   have lr10_w37 := R10.out.2.1
   go_wp2_with fail
   go_roundw
   case rel => exact ⟨n12 + 1, _, _, hlt, rfl, by go_num, Lib.hid (by have hR := R10.out; rw [show _ ++ [y21] = _ from (by have := Ht.out; simpa using this)] at hR; exact hR), hV, by omega⟩
   case measure => simp [intOf]; omega
  ·
   obtain rfl : n12 = (l).length := by omega
   have hR := R10.out; rw [List.take_of_length_le (Nat.le_refl _)] at hR; replace R10 := Lib.hid hR; clear hR
   go_wp2_with fail
   obtain ⟨a10, p10, rfl, o10⟩ := R10.out.ow
   have X10 := Lib.hid o10; have lx10 := o10.1; clear o10 R10
   go_ret
   exact ⟨_, _, rfl, X10.out.wide (by omega) (by omega) (Nat.le_refl _), hV.out⟩
theorem specApply_o_all : ∀ N : Nat, CPspecApply_o N ∧ CPspecApplyAll_o N
 | 0 => ⟨fun _ h => absurd h (Nat.not_lt_zero _), fun _ h => absurd h (Nat.not_lt_zero _)⟩
 | N + 1 => by
  obtain ⟨i0, i1⟩ := specApply_o_all N
  exact ⟨stepspecApply_o N i0 i1, stepspecApplyAll_o N i0 i1⟩
theorem specApply_o (x : TType) : ∀ (_ : x.sz ≤ 1048576) (w : World) (K : Nat → Prop) (_ : ∀ b, K b → b < w.heap.size) (cs : List Value) (_ : Rep w K x.enc cs),
  Calls Tryz.prog 204 #[.slice none 0 0, .agg cs.toArray] w fun e w' => ∃ cs', e = .returned (.agg cs'.toArray) ∧ Ow w' w.heap.size w'.heap.size x.enc cs' ∧ Below w.heap.size w w' := (specApply_o_all (SizeOf.sizeOf x + 1)).1 x (Nat.lt_succ_self _)
theorem specApplyAll_o (l : List TType) : ∀ (_ : szs TType.sz l ≤ 1048576) (w : World) (K : Nat → Prop) (_ : ∀ b, K b → b < w.heap.size) (v : Value) (_ : Rep w K (.sl (l.map TType.enc)) [v]),
  Calls Tryz.prog 205 #[.slice none 0 0, v] w fun e w' => ∃ a cap, e = .returned (.slice a l.length cap) ∧ Ow w' w.heap.size w'.heap.size (.sl (l.map TType.enc)) [.slice a l.length cap] ∧ Below w.heap.size w w' := (specApply_o_all (SizeOf.sizeOf l + 1)).2 l (Nat.lt_succ_self _)
end Go.Proofs.YtkmiecgcibjkbaaGreat
