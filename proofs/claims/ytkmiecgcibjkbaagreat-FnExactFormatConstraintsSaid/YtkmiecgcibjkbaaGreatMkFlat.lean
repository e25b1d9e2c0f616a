/- The marks of this program's types, laid flat. No condition. -/
import Derived.Test.YtkmiecgcibjkbaaGreatMarkText
namespace Go.Proofs.YtkmiecgcibjkbaaGreat
open Go.RowKit
theorem TInferState.flat (x : TInferState) : x.enc = .st [encI x.fNext, encI x.fCount, encI x.fNode, (.sl (x.fBindings.map TBinding.enc)), (.sl (x.fEquations.map TEquation.enc)), (.sl (x.fObligations.map TObligation.enc)), encI x.fCode, encI x.fAt] := by
  simp only [TInferState.enc_eq]
theorem TInferState.cnt_flat (x : TInferState) : cnt x.enc = 1 + 1 + 1 + cnts (x.fBindings.map TBinding.enc) + cnts (x.fEquations.map TEquation.enc) + cnts (x.fObligations.map TObligation.enc) + 1 + 1 := by
  rw [TInferState.flat]
  simp only [encI, cnt, cnts]
  omega
theorem TInferState.own_flat {w : World} {x : TInferState} {cs : List Value} {bs : List Nat} (h : Own w x.enc cs bs) : ∃ (c3 : Value) (c4 : Value) (c5 : Value) (r3 : List Nat) (r4 : List Nat) (r5 : List Nat), cs = [.int .i64 x.fNext, .int .i64 x.fCount, .int .i64 x.fNode, c3, c4, c5, .int .i64 x.fCode, .int .i64 x.fAt] ∧ bs = r3 ++ (r4 ++ (r5 ++ ([]))) ∧ Own w (.sl (x.fBindings.map TBinding.enc)) [c3] r3 ∧ Own w (.sl (x.fEquations.map TEquation.enc)) [c4] r4 ∧ Own w (.sl (x.fObligations.map TObligation.enc)) [c5] r5 := by
  rw [TInferState.flat] at h
  simp only [encI, Own_st] at h
  obtain ⟨_, rfl, -, h⟩ := OwnS_lf.1 h
  obtain ⟨_, rfl, -, h⟩ := OwnS_lf.1 h
  obtain ⟨_, rfl, -, h⟩ := OwnS_lf.1 h
  obtain ⟨c3, _, r3, _, rfl, rfl, o3, h⟩ := OwnS_sl.1 h
  obtain ⟨c4, _, r4, _, rfl, rfl, o4, h⟩ := OwnS_sl.1 h
  obtain ⟨c5, _, r5, _, rfl, rfl, o5, h⟩ := OwnS_sl.1 h
  obtain ⟨_, rfl, -, h⟩ := OwnS_lf.1 h
  obtain ⟨_, rfl, -, h⟩ := OwnS_lf.1 h
  obtain ⟨rfl, rfl⟩ := OwnS_nil.1 h
  exact ⟨c3, c4, c5, r3, r4, r5, rfl, rfl, o3, o4, o5⟩
set_option maxHeartbeats 1000000 in
theorem TInferState.mk_flat {w : World} {x : TInferState} {k : Int} {c3 c4 c5 : Value} {r3 r4 r5 : List Nat} (h0 : 0 ≤ k) (h1 : k + (cnt x.enc : Nat) ≤ 4611686018427387904) (o3 : Own w (.sl (mks (k + 1 + 1 + 1) (x.fBindings.map TBinding.enc))) [c3] r3) (o4 : Own w (.sl (mks (k + 1 + 1 + 1 + (cnts (x.fBindings.map TBinding.enc) : Nat)) (x.fEquations.map TEquation.enc))) [c4] r4) (o5 : Own w (.sl (mks (k + 1 + 1 + 1 + (cnts (x.fBindings.map TBinding.enc) : Nat) + (cnts (x.fEquations.map TEquation.enc) : Nat)) (x.fObligations.map TObligation.enc))) [c5] r5) : Own w (mkd k x.enc) [.int .i64 (k), .int .i64 (k + 1), .int .i64 (k + 1 + 1), c3, c4, c5, .int .i64 (k + 1 + 1 + 1 + (cnts (x.fBindings.map TBinding.enc) : Nat) + (cnts (x.fEquations.map TEquation.enc) : Nat) + (cnts (x.fObligations.map TObligation.enc) : Nat)), .int .i64 (k + 1 + 1 + 1 + (cnts (x.fBindings.map TBinding.enc) : Nat) + (cnts (x.fEquations.map TEquation.enc) : Nat) + (cnts (x.fObligations.map TObligation.enc) : Nat) + 1)] (r3 ++ (r4 ++ (r5 ++ ([])))) := by
  rw [TInferState.cnt_flat] at h1
  rw [TInferState.flat]
  simp only [mkd, mks, mlit, encI, cnt, Own_st]
  refine OwnS_lf.2 ⟨_, cons_eq (congrArg (Value.int .i64) (by omega)) rfl, inR_mk (by omega) (by omega), ?_⟩
  refine OwnS_lf.2 ⟨_, cons_eq (congrArg (Value.int .i64) (by omega)) rfl, inR_mk (by omega) (by omega), ?_⟩
  refine OwnS_lf.2 ⟨_, cons_eq (congrArg (Value.int .i64) (by omega)) rfl, inR_mk (by omega) (by omega), ?_⟩
  refine OwnS_sl.2 ⟨c3, _, r3, _, rfl, rfl, own_k o3 (by omega), ?_⟩
  refine OwnS_sl.2 ⟨c4, _, r4, _, rfl, rfl, own_k o4 (by omega), ?_⟩
  refine OwnS_sl.2 ⟨c5, _, r5, _, rfl, rfl, own_k o5 (by omega), ?_⟩
  refine OwnS_lf.2 ⟨_, cons_eq (congrArg (Value.int .i64) (by omega)) rfl, inR_mk (by omega) (by omega), ?_⟩
  refine OwnS_lf.2 ⟨_, cons_eq (congrArg (Value.int .i64) (by omega)) rfl, inR_mk (by omega) (by omega), ?_⟩
  exact OwnS_nil.2 ⟨rfl, rfl⟩
set_option maxHeartbeats 1000000 in
theorem TInferState.mrep_flat {w : World} {K : Nat → Prop} {x : TInferState} {k : Int} {cs : List Value} (h : Rep w K (mkd k x.enc) cs) : ∃ (c3 : Value) (c4 : Value) (c5 : Value), cs = [.int .i64 (k), .int .i64 (k + 1), .int .i64 (k + 1 + 1), c3, c4, c5, .int .i64 (k + 1 + 1 + 1 + (cnts (x.fBindings.map TBinding.enc) : Nat) + (cnts (x.fEquations.map TEquation.enc) : Nat) + (cnts (x.fObligations.map TObligation.enc) : Nat)), .int .i64 (k + 1 + 1 + 1 + (cnts (x.fBindings.map TBinding.enc) : Nat) + (cnts (x.fEquations.map TEquation.enc) : Nat) + (cnts (x.fObligations.map TObligation.enc) : Nat) + 1)] ∧ Rep w K (.sl (mks (k + 1 + 1 + 1) (x.fBindings.map TBinding.enc))) [c3] ∧ Rep w K (.sl (mks (k + 1 + 1 + 1 + (cnts (x.fBindings.map TBinding.enc) : Nat)) (x.fEquations.map TEquation.enc))) [c4] ∧ Rep w K (.sl (mks (k + 1 + 1 + 1 + (cnts (x.fBindings.map TBinding.enc) : Nat) + (cnts (x.fEquations.map TEquation.enc) : Nat)) (x.fObligations.map TObligation.enc))) [c5] := by
  rw [TInferState.flat] at h
  simp only [mkd, mks, mlit, encI, cnt, Rep_st] at h
  obtain ⟨_, rfl, -, h⟩ := RepS_lf.1 h
  obtain ⟨_, rfl, -, h⟩ := RepS_lf.1 h
  obtain ⟨_, rfl, -, h⟩ := RepS_lf.1 h
  obtain ⟨c3, _, rfl, o3, h⟩ := RepS_sl.1 h
  obtain ⟨c4, _, rfl, o4, h⟩ := RepS_sl.1 h
  obtain ⟨c5, _, rfl, o5, h⟩ := RepS_sl.1 h
  obtain ⟨_, rfl, -, h⟩ := RepS_lf.1 h
  obtain ⟨_, rfl, -, h⟩ := RepS_lf.1 h
  obtain rfl := RepS_nil.1 h
  exact ⟨c3, c4, c5, cons_eq (congrArg (Value.int .i64) (by omega)) (cons_eq (congrArg (Value.int .i64) (by omega)) (cons_eq (congrArg (Value.int .i64) (by omega)) (cons_eq (rfl) (cons_eq (rfl) (cons_eq (rfl) (cons_eq (congrArg (Value.int .i64) (by omega)) (cons_eq (congrArg (Value.int .i64) (by omega)) (rfl)))))))), rep_k o3 (by omega), rep_k o4 (by omega), rep_k o5 (by omega)⟩
theorem TObligation.flat (x : TObligation) : x.enc = .st [.st [encS x.fGoal.fTrait, .st [encI x.fGoal.fType.fKind, encS x.fGoal.fType.fName, (.sl (x.fGoal.fType.fArgs.map TType.enc))]], encI x.fNode] := by
  simp only [TObligation.enc_eq, TBound.enc_eq, TType.enc_eq]
theorem TObligation.cnt_flat (x : TObligation) : cnt x.enc = 1 + 1 + 1 + cnts (x.fGoal.fType.fArgs.map TType.enc) + 1 := by
  rw [TObligation.flat]
  simp only [encI, encS, cnt, cnts]
  omega
theorem TObligation.own_flat {w : World} {x : TObligation} {cs : List Value} {bs : List Nat} (h : Own w x.enc cs bs) : ∃ (c3 : Value) (r3 : List Nat), cs = [.string x.fGoal.fTrait, .int .i64 x.fGoal.fType.fKind, .string x.fGoal.fType.fName, c3, .int .i64 x.fNode] ∧ bs = r3 ++ ([]) ∧ Own w (.sl (x.fGoal.fType.fArgs.map TType.enc)) [c3] r3 := by
  rw [TObligation.flat] at h
  simp only [encI, encS, Own_st] at h
  replace h := OwnS_stc.1 h
  simp only [List.cons_append, List.nil_append] at h
  obtain ⟨_, rfl, -, h⟩ := OwnS_lf.1 h
  replace h := OwnS_stc.1 h
  simp only [List.cons_append, List.nil_append] at h
  obtain ⟨_, rfl, -, h⟩ := OwnS_lf.1 h
  obtain ⟨_, rfl, -, h⟩ := OwnS_lf.1 h
  obtain ⟨c3, _, r3, _, rfl, rfl, o3, h⟩ := OwnS_sl.1 h
  obtain ⟨_, rfl, -, h⟩ := OwnS_lf.1 h
  obtain ⟨rfl, rfl⟩ := OwnS_nil.1 h
  exact ⟨c3, r3, rfl, rfl, o3⟩
set_option maxHeartbeats 1000000 in
theorem TObligation.mk_flat {w : World} {x : TObligation} {k : Int} {c3 : Value} {r3 : List Nat} (h0 : 0 ≤ k) (h1 : k + (cnt x.enc : Nat) ≤ 4611686018427387904) (o3 : Own w (.sl (mks (k + 1 + 1 + 1) (x.fGoal.fType.fArgs.map TType.enc))) [c3] r3) : Own w (mkd k x.enc) [.string (mtext (k)), .int .i64 (k + 1), .string (mtext (k + 1 + 1)), c3, .int .i64 (k + 1 + 1 + 1 + (cnts (x.fGoal.fType.fArgs.map TType.enc) : Nat))] (r3 ++ ([])) := by
  rw [TObligation.cnt_flat] at h1
  rw [TObligation.flat]
  simp only [mkd, mks, mlit, encI, encS, cnt, cnts, Own_st]
  refine OwnS_stc.2 ?_
  simp only [List.cons_append, List.nil_append]
  refine OwnS_lf.2 ⟨_, cons_eq (congrArg (fun z => Value.string (mtext z)) (by omega)) rfl, mtext_size (by omega), ?_⟩
  refine OwnS_stc.2 ?_
  simp only [List.cons_append, List.nil_append]
  refine OwnS_lf.2 ⟨_, cons_eq (congrArg (Value.int .i64) (by omega)) rfl, inR_mk (by omega) (by omega), ?_⟩
  refine OwnS_lf.2 ⟨_, cons_eq (congrArg (fun z => Value.string (mtext z)) (by omega)) rfl, mtext_size (by omega), ?_⟩
  refine OwnS_sl.2 ⟨c3, _, r3, _, rfl, rfl, own_k o3 (by omega), ?_⟩
  refine OwnS_lf.2 ⟨_, cons_eq (congrArg (Value.int .i64) (by omega)) rfl, inR_mk (by omega) (by omega), ?_⟩
  exact OwnS_nil.2 ⟨rfl, rfl⟩
set_option maxHeartbeats 1000000 in
theorem TObligation.mrep_flat {w : World} {K : Nat → Prop} {x : TObligation} {k : Int} {cs : List Value} (h : Rep w K (mkd k x.enc) cs) : ∃ (c3 : Value), cs = [.string (mtext (k)), .int .i64 (k + 1), .string (mtext (k + 1 + 1)), c3, .int .i64 (k + 1 + 1 + 1 + (cnts (x.fGoal.fType.fArgs.map TType.enc) : Nat))] ∧ Rep w K (.sl (mks (k + 1 + 1 + 1) (x.fGoal.fType.fArgs.map TType.enc))) [c3] := by
  rw [TObligation.flat] at h
  simp only [mkd, mks, mlit, encI, encS, cnt, cnts, Rep_st] at h
  replace h := RepS_stc.1 h
  simp only [List.cons_append, List.nil_append] at h
  obtain ⟨_, rfl, -, h⟩ := RepS_lf.1 h
  replace h := RepS_stc.1 h
  simp only [List.cons_append, List.nil_append] at h
  obtain ⟨_, rfl, -, h⟩ := RepS_lf.1 h
  obtain ⟨_, rfl, -, h⟩ := RepS_lf.1 h
  obtain ⟨c3, _, rfl, o3, h⟩ := RepS_sl.1 h
  obtain ⟨_, rfl, -, h⟩ := RepS_lf.1 h
  obtain rfl := RepS_nil.1 h
  exact ⟨c3, cons_eq (congrArg (fun z => Value.string (mtext z)) (by omega)) (cons_eq (congrArg (Value.int .i64) (by omega)) (cons_eq (congrArg (fun z => Value.string (mtext z)) (by omega)) (cons_eq (rfl) (cons_eq (congrArg (Value.int .i64) (by omega)) (rfl))))), rep_k o3 (by omega)⟩
theorem TEquation.flat (x : TEquation) : x.enc = .st [.st [encI x.fA.fKind, encS x.fA.fName, (.sl (x.fA.fArgs.map TType.enc))], .st [encI x.fB.fKind, encS x.fB.fName, (.sl (x.fB.fArgs.map TType.enc))], encI x.fNode] := by
  simp only [TEquation.enc_eq, TType.enc_eq]
theorem TEquation.cnt_flat (x : TEquation) : cnt x.enc = 1 + 1 + cnts (x.fA.fArgs.map TType.enc) + 1 + 1 + cnts (x.fB.fArgs.map TType.enc) + 1 := by
  rw [TEquation.flat]
  simp only [encI, encS, cnt, cnts]
  omega
theorem TEquation.own_flat {w : World} {x : TEquation} {cs : List Value} {bs : List Nat} (h : Own w x.enc cs bs) : ∃ (c2 : Value) (c5 : Value) (r2 : List Nat) (r5 : List Nat), cs = [.int .i64 x.fA.fKind, .string x.fA.fName, c2, .int .i64 x.fB.fKind, .string x.fB.fName, c5, .int .i64 x.fNode] ∧ bs = r2 ++ (r5 ++ ([])) ∧ Own w (.sl (x.fA.fArgs.map TType.enc)) [c2] r2 ∧ Own w (.sl (x.fB.fArgs.map TType.enc)) [c5] r5 := by
  rw [TEquation.flat] at h
  simp only [encI, encS, Own_st] at h
  replace h := OwnS_stc.1 h
  simp only [List.cons_append, List.nil_append] at h
  obtain ⟨_, rfl, -, h⟩ := OwnS_lf.1 h
  obtain ⟨_, rfl, -, h⟩ := OwnS_lf.1 h
  obtain ⟨c2, _, r2, _, rfl, rfl, o2, h⟩ := OwnS_sl.1 h
  replace h := OwnS_stc.1 h
  simp only [List.cons_append, List.nil_append] at h
  obtain ⟨_, rfl, -, h⟩ := OwnS_lf.1 h
  obtain ⟨_, rfl, -, h⟩ := OwnS_lf.1 h
  obtain ⟨c5, _, r5, _, rfl, rfl, o5, h⟩ := OwnS_sl.1 h
  obtain ⟨_, rfl, -, h⟩ := OwnS_lf.1 h
  obtain ⟨rfl, rfl⟩ := OwnS_nil.1 h
  exact ⟨c2, c5, r2, r5, rfl, rfl, o2, o5⟩
set_option maxHeartbeats 1000000 in
theorem TEquation.mk_flat {w : World} {x : TEquation} {k : Int} {c2 c5 : Value} {r2 r5 : List Nat} (h0 : 0 ≤ k) (h1 : k + (cnt x.enc : Nat) ≤ 4611686018427387904) (o2 : Own w (.sl (mks (k + 1 + 1) (x.fA.fArgs.map TType.enc))) [c2] r2) (o5 : Own w (.sl (mks (k + 1 + 1 + (cnts (x.fA.fArgs.map TType.enc) : Nat) + 1 + 1) (x.fB.fArgs.map TType.enc))) [c5] r5) : Own w (mkd k x.enc) [.int .i64 (k), .string (mtext (k + 1)), c2, .int .i64 (k + 1 + 1 + (cnts (x.fA.fArgs.map TType.enc) : Nat)), .string (mtext (k + 1 + 1 + (cnts (x.fA.fArgs.map TType.enc) : Nat) + 1)), c5, .int .i64 (k + 1 + 1 + (cnts (x.fA.fArgs.map TType.enc) : Nat) + 1 + 1 + (cnts (x.fB.fArgs.map TType.enc) : Nat))] (r2 ++ (r5 ++ ([]))) := by
  rw [TEquation.cnt_flat] at h1
  rw [TEquation.flat]
  simp only [mkd, mks, mlit, encI, encS, cnt, cnts, Own_st]
  refine OwnS_stc.2 ?_
  simp only [List.cons_append, List.nil_append]
  refine OwnS_lf.2 ⟨_, cons_eq (congrArg (Value.int .i64) (by omega)) rfl, inR_mk (by omega) (by omega), ?_⟩
  refine OwnS_lf.2 ⟨_, cons_eq (congrArg (fun z => Value.string (mtext z)) (by omega)) rfl, mtext_size (by omega), ?_⟩
  refine OwnS_sl.2 ⟨c2, _, r2, _, rfl, rfl, own_k o2 (by omega), ?_⟩
  refine OwnS_stc.2 ?_
  simp only [List.cons_append, List.nil_append]
  refine OwnS_lf.2 ⟨_, cons_eq (congrArg (Value.int .i64) (by omega)) rfl, inR_mk (by omega) (by omega), ?_⟩
  refine OwnS_lf.2 ⟨_, cons_eq (congrArg (fun z => Value.string (mtext z)) (by omega)) rfl, mtext_size (by omega), ?_⟩
  refine OwnS_sl.2 ⟨c5, _, r5, _, rfl, rfl, own_k o5 (by omega), ?_⟩
  refine OwnS_lf.2 ⟨_, cons_eq (congrArg (Value.int .i64) (by omega)) rfl, inR_mk (by omega) (by omega), ?_⟩
  exact OwnS_nil.2 ⟨rfl, rfl⟩
set_option maxHeartbeats 1000000 in
theorem TEquation.mrep_flat {w : World} {K : Nat → Prop} {x : TEquation} {k : Int} {cs : List Value} (h : Rep w K (mkd k x.enc) cs) : ∃ (c2 : Value) (c5 : Value), cs = [.int .i64 (k), .string (mtext (k + 1)), c2, .int .i64 (k + 1 + 1 + (cnts (x.fA.fArgs.map TType.enc) : Nat)), .string (mtext (k + 1 + 1 + (cnts (x.fA.fArgs.map TType.enc) : Nat) + 1)), c5, .int .i64 (k + 1 + 1 + (cnts (x.fA.fArgs.map TType.enc) : Nat) + 1 + 1 + (cnts (x.fB.fArgs.map TType.enc) : Nat))] ∧ Rep w K (.sl (mks (k + 1 + 1) (x.fA.fArgs.map TType.enc))) [c2] ∧ Rep w K (.sl (mks (k + 1 + 1 + (cnts (x.fA.fArgs.map TType.enc) : Nat) + 1 + 1) (x.fB.fArgs.map TType.enc))) [c5] := by
  rw [TEquation.flat] at h
  simp only [mkd, mks, mlit, encI, encS, cnt, cnts, Rep_st] at h
  replace h := RepS_stc.1 h
  simp only [List.cons_append, List.nil_append] at h
  obtain ⟨_, rfl, -, h⟩ := RepS_lf.1 h
  obtain ⟨_, rfl, -, h⟩ := RepS_lf.1 h
  obtain ⟨c2, _, rfl, o2, h⟩ := RepS_sl.1 h
  replace h := RepS_stc.1 h
  simp only [List.cons_append, List.nil_append] at h
  obtain ⟨_, rfl, -, h⟩ := RepS_lf.1 h
  obtain ⟨_, rfl, -, h⟩ := RepS_lf.1 h
  obtain ⟨c5, _, rfl, o5, h⟩ := RepS_sl.1 h
  obtain ⟨_, rfl, -, h⟩ := RepS_lf.1 h
  obtain rfl := RepS_nil.1 h
  exact ⟨c2, c5, cons_eq (congrArg (Value.int .i64) (by omega)) (cons_eq (congrArg (fun z => Value.string (mtext z)) (by omega)) (cons_eq (rfl) (cons_eq (congrArg (Value.int .i64) (by omega)) (cons_eq (congrArg (fun z => Value.string (mtext z)) (by omega)) (cons_eq (rfl) (cons_eq (congrArg (Value.int .i64) (by omega)) (rfl))))))), rep_k o2 (by omega), rep_k o5 (by omega)⟩
theorem TBinding.flat (x : TBinding) : x.enc = .st [encS x.fVar, .st [encI x.fType.fKind, encS x.fType.fName, (.sl (x.fType.fArgs.map TType.enc))]] := by
  simp only [TBinding.enc_eq, TType.enc_eq]
theorem TBinding.cnt_flat (x : TBinding) : cnt x.enc = 1 + 1 + 1 + cnts (x.fType.fArgs.map TType.enc) := by
  rw [TBinding.flat]
  simp only [encI, encS, cnt, cnts]
  omega
theorem TBinding.own_flat {w : World} {x : TBinding} {cs : List Value} {bs : List Nat} (h : Own w x.enc cs bs) : ∃ (c3 : Value) (r3 : List Nat), cs = [.string x.fVar, .int .i64 x.fType.fKind, .string x.fType.fName, c3] ∧ bs = r3 ++ ([]) ∧ Own w (.sl (x.fType.fArgs.map TType.enc)) [c3] r3 := by
  rw [TBinding.flat] at h
  simp only [encI, encS, Own_st] at h
  obtain ⟨_, rfl, -, h⟩ := OwnS_lf.1 h
  replace h := OwnS_stc.1 h
  simp only [List.cons_append, List.nil_append] at h
  obtain ⟨_, rfl, -, h⟩ := OwnS_lf.1 h
  obtain ⟨_, rfl, -, h⟩ := OwnS_lf.1 h
  obtain ⟨c3, _, r3, _, rfl, rfl, o3, h⟩ := OwnS_sl.1 h
  obtain ⟨rfl, rfl⟩ := OwnS_nil.1 h
  exact ⟨c3, r3, rfl, rfl, o3⟩
set_option maxHeartbeats 1000000 in
theorem TBinding.mk_flat {w : World} {x : TBinding} {k : Int} {c3 : Value} {r3 : List Nat} (h0 : 0 ≤ k) (h1 : k + (cnt x.enc : Nat) ≤ 4611686018427387904) (o3 : Own w (.sl (mks (k + 1 + 1 + 1) (x.fType.fArgs.map TType.enc))) [c3] r3) : Own w (mkd k x.enc) [.string (mtext (k)), .int .i64 (k + 1), .string (mtext (k + 1 + 1)), c3] (r3 ++ ([])) := by
  rw [TBinding.cnt_flat] at h1
  rw [TBinding.flat]
  simp only [mkd, mks, mlit, encI, encS, cnt, Own_st]
  refine OwnS_lf.2 ⟨_, cons_eq (congrArg (fun z => Value.string (mtext z)) (by omega)) rfl, mtext_size (by omega), ?_⟩
  refine OwnS_stc.2 ?_
  simp only [List.cons_append, List.nil_append]
  refine OwnS_lf.2 ⟨_, cons_eq (congrArg (Value.int .i64) (by omega)) rfl, inR_mk (by omega) (by omega), ?_⟩
  refine OwnS_lf.2 ⟨_, cons_eq (congrArg (fun z => Value.string (mtext z)) (by omega)) rfl, mtext_size (by omega), ?_⟩
  refine OwnS_sl.2 ⟨c3, _, r3, _, rfl, rfl, own_k o3 (by omega), ?_⟩
  exact OwnS_nil.2 ⟨rfl, rfl⟩
set_option maxHeartbeats 1000000 in
theorem TBinding.mrep_flat {w : World} {K : Nat → Prop} {x : TBinding} {k : Int} {cs : List Value} (h : Rep w K (mkd k x.enc) cs) : ∃ (c3 : Value), cs = [.string (mtext (k)), .int .i64 (k + 1), .string (mtext (k + 1 + 1)), c3] ∧ Rep w K (.sl (mks (k + 1 + 1 + 1) (x.fType.fArgs.map TType.enc))) [c3] := by
  rw [TBinding.flat] at h
  simp only [mkd, mks, mlit, encI, encS, cnt, Rep_st] at h
  obtain ⟨_, rfl, -, h⟩ := RepS_lf.1 h
  replace h := RepS_stc.1 h
  simp only [List.cons_append, List.nil_append] at h
  obtain ⟨_, rfl, -, h⟩ := RepS_lf.1 h
  obtain ⟨_, rfl, -, h⟩ := RepS_lf.1 h
  obtain ⟨c3, _, rfl, o3, h⟩ := RepS_sl.1 h
  obtain rfl := RepS_nil.1 h
  exact ⟨c3, cons_eq (congrArg (fun z => Value.string (mtext z)) (by omega)) (cons_eq (congrArg (Value.int .i64) (by omega)) (cons_eq (congrArg (fun z => Value.string (mtext z)) (by omega)) (cons_eq (rfl) (rfl)))), rep_k o3 (by omega)⟩
theorem TBound.flat (x : TBound) : x.enc = .st [encS x.fTrait, .st [encI x.fType.fKind, encS x.fType.fName, (.sl (x.fType.fArgs.map TType.enc))]] := by
  simp only [TBound.enc_eq, TType.enc_eq]
theorem TBound.cnt_flat (x : TBound) : cnt x.enc = 1 + 1 + 1 + cnts (x.fType.fArgs.map TType.enc) := by
  rw [TBound.flat]
  simp only [encI, encS, cnt, cnts]
  omega
theorem TBound.own_flat {w : World} {x : TBound} {cs : List Value} {bs : List Nat} (h : Own w x.enc cs bs) : ∃ (c3 : Value) (r3 : List Nat), cs = [.string x.fTrait, .int .i64 x.fType.fKind, .string x.fType.fName, c3] ∧ bs = r3 ++ ([]) ∧ Own w (.sl (x.fType.fArgs.map TType.enc)) [c3] r3 := by
  rw [TBound.flat] at h
  simp only [encI, encS, Own_st] at h
  obtain ⟨_, rfl, -, h⟩ := OwnS_lf.1 h
  replace h := OwnS_stc.1 h
  simp only [List.cons_append, List.nil_append] at h
  obtain ⟨_, rfl, -, h⟩ := OwnS_lf.1 h
  obtain ⟨_, rfl, -, h⟩ := OwnS_lf.1 h
  obtain ⟨c3, _, r3, _, rfl, rfl, o3, h⟩ := OwnS_sl.1 h
  obtain ⟨rfl, rfl⟩ := OwnS_nil.1 h
  exact ⟨c3, r3, rfl, rfl, o3⟩
set_option maxHeartbeats 1000000 in
theorem TBound.mk_flat {w : World} {x : TBound} {k : Int} {c3 : Value} {r3 : List Nat} (h0 : 0 ≤ k) (h1 : k + (cnt x.enc : Nat) ≤ 4611686018427387904) (o3 : Own w (.sl (mks (k + 1 + 1 + 1) (x.fType.fArgs.map TType.enc))) [c3] r3) : Own w (mkd k x.enc) [.string (mtext (k)), .int .i64 (k + 1), .string (mtext (k + 1 + 1)), c3] (r3 ++ ([])) := by
  rw [TBound.cnt_flat] at h1
  rw [TBound.flat]
  simp only [mkd, mks, mlit, encI, encS, cnt, Own_st]
  refine OwnS_lf.2 ⟨_, cons_eq (congrArg (fun z => Value.string (mtext z)) (by omega)) rfl, mtext_size (by omega), ?_⟩
  refine OwnS_stc.2 ?_
  simp only [List.cons_append, List.nil_append]
  refine OwnS_lf.2 ⟨_, cons_eq (congrArg (Value.int .i64) (by omega)) rfl, inR_mk (by omega) (by omega), ?_⟩
  refine OwnS_lf.2 ⟨_, cons_eq (congrArg (fun z => Value.string (mtext z)) (by omega)) rfl, mtext_size (by omega), ?_⟩
  refine OwnS_sl.2 ⟨c3, _, r3, _, rfl, rfl, own_k o3 (by omega), ?_⟩
  exact OwnS_nil.2 ⟨rfl, rfl⟩
set_option maxHeartbeats 1000000 in
theorem TBound.mrep_flat {w : World} {K : Nat → Prop} {x : TBound} {k : Int} {cs : List Value} (h : Rep w K (mkd k x.enc) cs) : ∃ (c3 : Value), cs = [.string (mtext (k)), .int .i64 (k + 1), .string (mtext (k + 1 + 1)), c3] ∧ Rep w K (.sl (mks (k + 1 + 1 + 1) (x.fType.fArgs.map TType.enc))) [c3] := by
  rw [TBound.flat] at h
  simp only [mkd, mks, mlit, encI, encS, cnt, Rep_st] at h
  obtain ⟨_, rfl, -, h⟩ := RepS_lf.1 h
  replace h := RepS_stc.1 h
  simp only [List.cons_append, List.nil_append] at h
  obtain ⟨_, rfl, -, h⟩ := RepS_lf.1 h
  obtain ⟨_, rfl, -, h⟩ := RepS_lf.1 h
  obtain ⟨c3, _, rfl, o3, h⟩ := RepS_sl.1 h
  obtain rfl := RepS_nil.1 h
  exact ⟨c3, cons_eq (congrArg (fun z => Value.string (mtext z)) (by omega)) (cons_eq (congrArg (Value.int .i64) (by omega)) (cons_eq (congrArg (fun z => Value.string (mtext z)) (by omega)) (cons_eq (rfl) (rfl)))), rep_k o3 (by omega)⟩
theorem TType.flat (x : TType) : x.enc = .st [encI x.fKind, encS x.fName, (.sl (x.fArgs.map TType.enc))] := by
  simp only [TType.enc_eq]
theorem TType.cnt_flat (x : TType) : cnt x.enc = 1 + 1 + cnts (x.fArgs.map TType.enc) := by
  rw [TType.flat]
  simp only [encI, encS, cnt, cnts]
  omega
theorem TType.own_flat {w : World} {x : TType} {cs : List Value} {bs : List Nat} (h : Own w x.enc cs bs) : ∃ (c2 : Value) (r2 : List Nat), cs = [.int .i64 x.fKind, .string x.fName, c2] ∧ bs = r2 ++ ([]) ∧ Own w (.sl (x.fArgs.map TType.enc)) [c2] r2 := by
  rw [TType.flat] at h
  simp only [encI, encS, Own_st] at h
  obtain ⟨_, rfl, -, h⟩ := OwnS_lf.1 h
  obtain ⟨_, rfl, -, h⟩ := OwnS_lf.1 h
  obtain ⟨c2, _, r2, _, rfl, rfl, o2, h⟩ := OwnS_sl.1 h
  obtain ⟨rfl, rfl⟩ := OwnS_nil.1 h
  exact ⟨c2, r2, rfl, rfl, o2⟩
set_option maxHeartbeats 1000000 in
theorem TType.mk_flat {w : World} {x : TType} {k : Int} {c2 : Value} {r2 : List Nat} (h0 : 0 ≤ k) (h1 : k + (cnt x.enc : Nat) ≤ 4611686018427387904) (o2 : Own w (.sl (mks (k + 1 + 1) (x.fArgs.map TType.enc))) [c2] r2) : Own w (mkd k x.enc) [.int .i64 (k), .string (mtext (k + 1)), c2] (r2 ++ ([])) := by
  rw [TType.cnt_flat] at h1
  rw [TType.flat]
  simp only [mkd, mks, mlit, encI, encS, cnt, Own_st]
  refine OwnS_lf.2 ⟨_, cons_eq (congrArg (Value.int .i64) (by omega)) rfl, inR_mk (by omega) (by omega), ?_⟩
  refine OwnS_lf.2 ⟨_, cons_eq (congrArg (fun z => Value.string (mtext z)) (by omega)) rfl, mtext_size (by omega), ?_⟩
  refine OwnS_sl.2 ⟨c2, _, r2, _, rfl, rfl, own_k o2 (by omega), ?_⟩
  exact OwnS_nil.2 ⟨rfl, rfl⟩
set_option maxHeartbeats 1000000 in
theorem TType.mrep_flat {w : World} {K : Nat → Prop} {x : TType} {k : Int} {cs : List Value} (h : Rep w K (mkd k x.enc) cs) : ∃ (c2 : Value), cs = [.int .i64 (k), .string (mtext (k + 1)), c2] ∧ Rep w K (.sl (mks (k + 1 + 1) (x.fArgs.map TType.enc))) [c2] := by
  rw [TType.flat] at h
  simp only [mkd, mks, mlit, encI, encS, cnt, Rep_st] at h
  obtain ⟨_, rfl, -, h⟩ := RepS_lf.1 h
  obtain ⟨_, rfl, -, h⟩ := RepS_lf.1 h
  obtain ⟨c2, _, rfl, o2, h⟩ := RepS_sl.1 h
  obtain rfl := RepS_nil.1 h
  exact ⟨c2, cons_eq (congrArg (Value.int .i64) (by omega)) (cons_eq (congrArg (fun z => Value.string (mtext z)) (by omega)) (cons_eq (rfl) (rfl))), rep_k o2 (by omega)⟩
theorem TType.tcnt_eq (x : TType) : tcnt x.enc = cnts (x.fArgs.map TType.enc) := by
  rw [TType.enc_eq]
  simp only [tcnt, tcnts, encI, encS]
  omega
theorem TType.own_open {w : World} {x : TType} {cs : List Value} {bs : List Nat} (h : Own w x.enc cs bs) : ∃ (c2 : Value) (r2 : List Nat), cs = [.int .i64 x.fKind, .string x.fName, c2] ∧ bs = r2 ++ ([]) ∧ InR x.fKind ∧ x.fName.size ≤ maxLen ∧ Own w (.sl (x.fArgs.map TType.enc)) [c2] r2 := by
  rw [TType.enc_eq] at h
  simp only [Own_st, encI, encS] at h
  obtain ⟨_, rfl, k0, h⟩ := OwnS_lf.1 h
  obtain ⟨_, rfl, k1, h⟩ := OwnS_lf.1 h
  obtain ⟨u2, _, r2, _, rfl, rfl, o2, h⟩ := OwnS_cons.1 h
  obtain ⟨rfl, rfl⟩ := OwnS_nil.1 h
  obtain ⟨c2, rfl⟩ := own_one o2
  exact ⟨c2, r2, rfl, rfl, k0, k1, o2⟩
set_option maxHeartbeats 1000000 in
theorem TType.tmk_own {w : World} {x : TType} {k : Int} {c2 : Value} {r2 : List Nat} (k0 : InR x.fKind) (k1 : x.fName.size ≤ maxLen) (o2 : Own w (.sl (mks (k) (x.fArgs.map TType.enc))) [c2] r2) : Own w (tmk k x.enc) [.int .i64 x.fKind, .string x.fName, c2] (r2 ++ ([])) := by
  rw [TType.enc_eq]
  simp only [tmk, tmks, encI, encS, tcnt, Own_st]
  refine OwnS_lf.2 ⟨_, rfl, k0, ?_⟩
  refine OwnS_lf.2 ⟨_, rfl, k1, ?_⟩
  refine OwnS_cons.2 ⟨[c2], _, r2, _, rfl, rfl, (own_k o2 (by omega)), ?_⟩
  exact OwnS_nil.2 ⟨rfl, rfl⟩
set_option maxHeartbeats 1000000 in
theorem TType.tmrep_open {w : World} {K : Nat → Prop} {x : TType} {k : Int} {cs : List Value} (h : Rep w K (tmk k x.enc) cs) : ∃ (c2 : Value), cs = [.int .i64 x.fKind, .string x.fName, c2] ∧ Rep w K (.sl (mks (k) (x.fArgs.map TType.enc))) [c2] := by
  rw [TType.enc_eq] at h
  simp only [tmk, tmks, encI, encS, tcnt, Rep_st] at h
  obtain ⟨_, rfl, -, h⟩ := RepS_lf.1 h
  obtain ⟨_, rfl, -, h⟩ := RepS_lf.1 h
  obtain ⟨u2, _, rfl, o2, h⟩ := RepS_cons.1 h
  obtain rfl := RepS_nil.1 h
  obtain ⟨c2, rfl⟩ := rep_one o2
  exact ⟨c2, rfl, (rep_k o2 (by omega))⟩
theorem TBinding.tcnt_eq (x : TBinding) : tcnt x.enc = tcnt x.fType.enc := by
  rw [TBinding.enc_eq]
  simp only [tcnt, tcnts, encS]
  omega
theorem TBinding.own_open {w : World} {x : TBinding} {cs : List Value} {bs : List Nat} (h : Own w x.enc cs bs) : ∃ (c1 : Value) (c2 : Value) (c3 : Value) (r1 : List Nat), cs = [.string x.fVar, c1, c2, c3] ∧ bs = r1 ++ ([]) ∧ x.fVar.size ≤ maxLen ∧ Own w x.fType.enc [c1, c2, c3] r1 := by
  rw [TBinding.enc_eq] at h
  simp only [Own_st, encS] at h
  obtain ⟨_, rfl, k0, h⟩ := OwnS_lf.1 h
  obtain ⟨u1, _, r1, _, rfl, rfl, o1, h⟩ := OwnS_cons.1 h
  obtain ⟨rfl, rfl⟩ := OwnS_nil.1 h
  obtain ⟨c1, c2, c3, rfl⟩ := len3 ((Rep.length (K := fun _ => True) _ _ (Own.rep _ _ _ o1 (fun _ _ => trivial))).trans (TType.width _))
  exact ⟨c1, c2, c3, r1, rfl, rfl, k0, o1⟩
set_option maxHeartbeats 1000000 in
theorem TBinding.tmk_own {w : World} {x : TBinding} {k : Int} {c1 c2 c3 : Value} {r1 : List Nat} (k0 : x.fVar.size ≤ maxLen) (o1 : Own w (tmk (k) x.fType.enc) [c1, c2, c3] r1) : Own w (tmk k x.enc) [.string x.fVar, c1, c2, c3] (r1 ++ ([])) := by
  rw [TBinding.enc_eq]
  simp only [tmk, tmks, encS, tcnt, Own_st]
  refine OwnS_lf.2 ⟨_, rfl, k0, ?_⟩
  refine OwnS_cons.2 ⟨[c1, c2, c3], _, r1, _, rfl, rfl, (own_tk o1 (by omega)), ?_⟩
  exact OwnS_nil.2 ⟨rfl, rfl⟩
set_option maxHeartbeats 1000000 in
theorem TBinding.tmrep_open {w : World} {K : Nat → Prop} {x : TBinding} {k : Int} {cs : List Value} (h : Rep w K (tmk k x.enc) cs) : ∃ (c1 : Value) (c2 : Value) (c3 : Value), cs = [.string x.fVar, c1, c2, c3] ∧ Rep w K (tmk (k) x.fType.enc) [c1, c2, c3] := by
  rw [TBinding.enc_eq] at h
  simp only [tmk, tmks, encS, tcnt, Rep_st] at h
  obtain ⟨_, rfl, -, h⟩ := RepS_lf.1 h
  obtain ⟨u1, _, rfl, o1, h⟩ := RepS_cons.1 h
  obtain rfl := RepS_nil.1 h
  obtain ⟨c1, c2, c3, rfl⟩ := len3 ((Rep.length _ _ o1).trans ((tmk_width _ _).trans (TType.width _)))
  exact ⟨c1, c2, c3, rfl, (rep_tk o1 (by omega))⟩
theorem TBound.tcnt_eq (x : TBound) : tcnt x.enc = tcnt x.fType.enc := by
  rw [TBound.enc_eq]
  simp only [tcnt, tcnts, encS]
  omega
theorem TBound.own_open {w : World} {x : TBound} {cs : List Value} {bs : List Nat} (h : Own w x.enc cs bs) : ∃ (c1 : Value) (c2 : Value) (c3 : Value) (r1 : List Nat), cs = [.string x.fTrait, c1, c2, c3] ∧ bs = r1 ++ ([]) ∧ x.fTrait.size ≤ maxLen ∧ Own w x.fType.enc [c1, c2, c3] r1 := by
  rw [TBound.enc_eq] at h
  simp only [Own_st, encS] at h
  obtain ⟨_, rfl, k0, h⟩ := OwnS_lf.1 h
  obtain ⟨u1, _, r1, _, rfl, rfl, o1, h⟩ := OwnS_cons.1 h
  obtain ⟨rfl, rfl⟩ := OwnS_nil.1 h
  obtain ⟨c1, c2, c3, rfl⟩ := len3 ((Rep.length (K := fun _ => True) _ _ (Own.rep _ _ _ o1 (fun _ _ => trivial))).trans (TType.width _))
  exact ⟨c1, c2, c3, r1, rfl, rfl, k0, o1⟩
set_option maxHeartbeats 1000000 in
theorem TBound.tmk_own {w : World} {x : TBound} {k : Int} {c1 c2 c3 : Value} {r1 : List Nat} (k0 : x.fTrait.size ≤ maxLen) (o1 : Own w (tmk (k) x.fType.enc) [c1, c2, c3] r1) : Own w (tmk k x.enc) [.string x.fTrait, c1, c2, c3] (r1 ++ ([])) := by
  rw [TBound.enc_eq]
  simp only [tmk, tmks, encS, tcnt, Own_st]
  refine OwnS_lf.2 ⟨_, rfl, k0, ?_⟩
  refine OwnS_cons.2 ⟨[c1, c2, c3], _, r1, _, rfl, rfl, (own_tk o1 (by omega)), ?_⟩
  exact OwnS_nil.2 ⟨rfl, rfl⟩
set_option maxHeartbeats 1000000 in
theorem TBound.tmrep_open {w : World} {K : Nat → Prop} {x : TBound} {k : Int} {cs : List Value} (h : Rep w K (tmk k x.enc) cs) : ∃ (c1 : Value) (c2 : Value) (c3 : Value), cs = [.string x.fTrait, c1, c2, c3] ∧ Rep w K (tmk (k) x.fType.enc) [c1, c2, c3] := by
  rw [TBound.enc_eq] at h
  simp only [tmk, tmks, encS, tcnt, Rep_st] at h
  obtain ⟨_, rfl, -, h⟩ := RepS_lf.1 h
  obtain ⟨u1, _, rfl, o1, h⟩ := RepS_cons.1 h
  obtain rfl := RepS_nil.1 h
  obtain ⟨c1, c2, c3, rfl⟩ := len3 ((Rep.length _ _ o1).trans ((tmk_width _ _).trans (TType.width _)))
  exact ⟨c1, c2, c3, rfl, (rep_tk o1 (by omega))⟩
theorem TEquation.tcnt_eq (x : TEquation) : tcnt x.enc = tcnt x.fA.enc + tcnt x.fB.enc := by
  rw [TEquation.enc_eq]
  simp only [tcnt, tcnts, encI]
  omega
theorem TEquation.own_open {w : World} {x : TEquation} {cs : List Value} {bs : List Nat} (h : Own w x.enc cs bs) : ∃ (c0 : Value) (c1 : Value) (c2 : Value) (c3 : Value) (c4 : Value) (c5 : Value) (r0 : List Nat) (r3 : List Nat), cs = [c0, c1, c2, c3, c4, c5, .int .i64 x.fNode] ∧ bs = r0 ++ (r3 ++ ([])) ∧ InR x.fNode ∧ Own w x.fA.enc [c0, c1, c2] r0 ∧ Own w x.fB.enc [c3, c4, c5] r3 := by
  rw [TEquation.enc_eq] at h
  simp only [Own_st, encI] at h
  obtain ⟨u0, _, r0, _, rfl, rfl, o0, h⟩ := OwnS_cons.1 h
  obtain ⟨u3, _, r3, _, rfl, rfl, o3, h⟩ := OwnS_cons.1 h
  obtain ⟨_, rfl, k6, h⟩ := OwnS_lf.1 h
  obtain ⟨rfl, rfl⟩ := OwnS_nil.1 h
  obtain ⟨c0, c1, c2, rfl⟩ := len3 ((Rep.length (K := fun _ => True) _ _ (Own.rep _ _ _ o0 (fun _ _ => trivial))).trans (TType.width _))
  obtain ⟨c3, c4, c5, rfl⟩ := len3 ((Rep.length (K := fun _ => True) _ _ (Own.rep _ _ _ o3 (fun _ _ => trivial))).trans (TType.width _))
  exact ⟨c0, c1, c2, c3, c4, c5, r0, r3, rfl, rfl, k6, o0, o3⟩
set_option maxHeartbeats 1000000 in
theorem TEquation.tmk_own {w : World} {x : TEquation} {k : Int} {c0 c1 c2 c3 c4 c5 : Value} {r0 r3 : List Nat} (k6 : InR x.fNode) (o0 : Own w (tmk (k) x.fA.enc) [c0, c1, c2] r0) (o3 : Own w (tmk (k + (tcnt x.fA.enc : Nat)) x.fB.enc) [c3, c4, c5] r3) : Own w (tmk k x.enc) [c0, c1, c2, c3, c4, c5, .int .i64 x.fNode] (r0 ++ (r3 ++ ([]))) := by
  rw [TEquation.enc_eq]
  simp only [tmk, tmks, encI, Own_st]
  refine OwnS_cons.2 ⟨[c0, c1, c2], _, r0, _, rfl, rfl, (own_tk o0 (by omega)), ?_⟩
  refine OwnS_cons.2 ⟨[c3, c4, c5], _, r3, _, rfl, rfl, (own_tk o3 (by omega)), ?_⟩
  refine OwnS_lf.2 ⟨_, rfl, k6, ?_⟩
  exact OwnS_nil.2 ⟨rfl, rfl⟩
set_option maxHeartbeats 1000000 in
theorem TEquation.tmrep_open {w : World} {K : Nat → Prop} {x : TEquation} {k : Int} {cs : List Value} (h : Rep w K (tmk k x.enc) cs) : ∃ (c0 : Value) (c1 : Value) (c2 : Value) (c3 : Value) (c4 : Value) (c5 : Value), cs = [c0, c1, c2, c3, c4, c5, .int .i64 x.fNode] ∧ Rep w K (tmk (k) x.fA.enc) [c0, c1, c2] ∧ Rep w K (tmk (k + (tcnt x.fA.enc : Nat)) x.fB.enc) [c3, c4, c5] := by
  rw [TEquation.enc_eq] at h
  simp only [tmk, tmks, encI, Rep_st] at h
  obtain ⟨u0, _, rfl, o0, h⟩ := RepS_cons.1 h
  obtain ⟨u3, _, rfl, o3, h⟩ := RepS_cons.1 h
  obtain ⟨_, rfl, -, h⟩ := RepS_lf.1 h
  obtain rfl := RepS_nil.1 h
  obtain ⟨c0, c1, c2, rfl⟩ := len3 ((Rep.length _ _ o0).trans ((tmk_width _ _).trans (TType.width _)))
  obtain ⟨c3, c4, c5, rfl⟩ := len3 ((Rep.length _ _ o3).trans ((tmk_width _ _).trans (TType.width _)))
  exact ⟨c0, c1, c2, c3, c4, c5, rfl, (rep_tk o0 (by omega)), (rep_tk o3 (by omega))⟩
theorem TObligation.tcnt_eq (x : TObligation) : tcnt x.enc = tcnt x.fGoal.enc := by
  rw [TObligation.enc_eq]
  simp only [tcnt, tcnts, encI]
  omega
theorem TObligation.own_open {w : World} {x : TObligation} {cs : List Value} {bs : List Nat} (h : Own w x.enc cs bs) : ∃ (c0 : Value) (c1 : Value) (c2 : Value) (c3 : Value) (r0 : List Nat), cs = [c0, c1, c2, c3, .int .i64 x.fNode] ∧ bs = r0 ++ ([]) ∧ InR x.fNode ∧ Own w x.fGoal.enc [c0, c1, c2, c3] r0 := by
  rw [TObligation.enc_eq] at h
  simp only [Own_st, encI] at h
  obtain ⟨u0, _, r0, _, rfl, rfl, o0, h⟩ := OwnS_cons.1 h
  obtain ⟨_, rfl, k4, h⟩ := OwnS_lf.1 h
  obtain ⟨rfl, rfl⟩ := OwnS_nil.1 h
  obtain ⟨c0, c1, c2, c3, rfl⟩ := len4 ((Rep.length (K := fun _ => True) _ _ (Own.rep _ _ _ o0 (fun _ _ => trivial))).trans (TBound.width _))
  exact ⟨c0, c1, c2, c3, r0, rfl, rfl, k4, o0⟩
set_option maxHeartbeats 1000000 in
theorem TObligation.tmk_own {w : World} {x : TObligation} {k : Int} {c0 c1 c2 c3 : Value} {r0 : List Nat} (k4 : InR x.fNode) (o0 : Own w (tmk (k) x.fGoal.enc) [c0, c1, c2, c3] r0) : Own w (tmk k x.enc) [c0, c1, c2, c3, .int .i64 x.fNode] (r0 ++ ([])) := by
  rw [TObligation.enc_eq]
  simp only [tmk, tmks, encI, Own_st]
  refine OwnS_cons.2 ⟨[c0, c1, c2, c3], _, r0, _, rfl, rfl, (own_tk o0 (by omega)), ?_⟩
  refine OwnS_lf.2 ⟨_, rfl, k4, ?_⟩
  exact OwnS_nil.2 ⟨rfl, rfl⟩
set_option maxHeartbeats 1000000 in
theorem TObligation.tmrep_open {w : World} {K : Nat → Prop} {x : TObligation} {k : Int} {cs : List Value} (h : Rep w K (tmk k x.enc) cs) : ∃ (c0 : Value) (c1 : Value) (c2 : Value) (c3 : Value), cs = [c0, c1, c2, c3, .int .i64 x.fNode] ∧ Rep w K (tmk (k) x.fGoal.enc) [c0, c1, c2, c3] := by
  rw [TObligation.enc_eq] at h
  simp only [tmk, tmks, encI, Rep_st] at h
  obtain ⟨u0, _, rfl, o0, h⟩ := RepS_cons.1 h
  obtain ⟨_, rfl, -, h⟩ := RepS_lf.1 h
  obtain rfl := RepS_nil.1 h
  obtain ⟨c0, c1, c2, c3, rfl⟩ := len4 ((Rep.length _ _ o0).trans ((tmk_width _ _).trans (TBound.width _)))
  exact ⟨c0, c1, c2, c3, rfl, (rep_tk o0 (by omega))⟩
theorem TInferState.tcnt_eq (x : TInferState) : tcnt x.enc = cnts (x.fBindings.map TBinding.enc) + cnts (x.fEquations.map TEquation.enc) + cnts (x.fObligations.map TObligation.enc) := by
  rw [TInferState.enc_eq]
  simp only [tcnt, tcnts, encI]
  omega
theorem TInferState.own_open {w : World} {x : TInferState} {cs : List Value} {bs : List Nat} (h : Own w x.enc cs bs) : ∃ (c3 : Value) (c4 : Value) (c5 : Value) (r3 : List Nat) (r4 : List Nat) (r5 : List Nat), cs = [.int .i64 x.fNext, .int .i64 x.fCount, .int .i64 x.fNode, c3, c4, c5, .int .i64 x.fCode, .int .i64 x.fAt] ∧ bs = r3 ++ (r4 ++ (r5 ++ ([]))) ∧ InR x.fNext ∧ InR x.fCount ∧ InR x.fNode ∧ InR x.fCode ∧ InR x.fAt ∧ Own w (.sl (x.fBindings.map TBinding.enc)) [c3] r3 ∧ Own w (.sl (x.fEquations.map TEquation.enc)) [c4] r4 ∧ Own w (.sl (x.fObligations.map TObligation.enc)) [c5] r5 := by
  rw [TInferState.enc_eq] at h
  simp only [Own_st, encI] at h
  obtain ⟨_, rfl, k0, h⟩ := OwnS_lf.1 h
  obtain ⟨_, rfl, k1, h⟩ := OwnS_lf.1 h
  obtain ⟨_, rfl, k2, h⟩ := OwnS_lf.1 h
  obtain ⟨u3, _, r3, _, rfl, rfl, o3, h⟩ := OwnS_cons.1 h
  obtain ⟨u4, _, r4, _, rfl, rfl, o4, h⟩ := OwnS_cons.1 h
  obtain ⟨u5, _, r5, _, rfl, rfl, o5, h⟩ := OwnS_cons.1 h
  obtain ⟨_, rfl, k6, h⟩ := OwnS_lf.1 h
  obtain ⟨_, rfl, k7, h⟩ := OwnS_lf.1 h
  obtain ⟨rfl, rfl⟩ := OwnS_nil.1 h
  obtain ⟨c3, rfl⟩ := own_one o3
  obtain ⟨c4, rfl⟩ := own_one o4
  obtain ⟨c5, rfl⟩ := own_one o5
  exact ⟨c3, c4, c5, r3, r4, r5, rfl, rfl, k0, k1, k2, k6, k7, o3, o4, o5⟩
set_option maxHeartbeats 1000000 in
theorem TInferState.tmk_own {w : World} {x : TInferState} {k : Int} {c3 c4 c5 : Value} {r3 r4 r5 : List Nat} (k0 : InR x.fNext) (k1 : InR x.fCount) (k2 : InR x.fNode) (k6 : InR x.fCode) (k7 : InR x.fAt) (o3 : Own w (.sl (mks (k) (x.fBindings.map TBinding.enc))) [c3] r3) (o4 : Own w (.sl (mks (k + (cnts (x.fBindings.map TBinding.enc) : Nat)) (x.fEquations.map TEquation.enc))) [c4] r4) (o5 : Own w (.sl (mks (k + (cnts (x.fBindings.map TBinding.enc) : Nat) + (cnts (x.fEquations.map TEquation.enc) : Nat)) (x.fObligations.map TObligation.enc))) [c5] r5) : Own w (tmk k x.enc) [.int .i64 x.fNext, .int .i64 x.fCount, .int .i64 x.fNode, c3, c4, c5, .int .i64 x.fCode, .int .i64 x.fAt] (r3 ++ (r4 ++ (r5 ++ ([])))) := by
  rw [TInferState.enc_eq]
  simp only [tmk, tmks, encI, tcnt, Own_st]
  refine OwnS_lf.2 ⟨_, rfl, k0, ?_⟩
  refine OwnS_lf.2 ⟨_, rfl, k1, ?_⟩
  refine OwnS_lf.2 ⟨_, rfl, k2, ?_⟩
  refine OwnS_cons.2 ⟨[c3], _, r3, _, rfl, rfl, (own_k o3 (by omega)), ?_⟩
  refine OwnS_cons.2 ⟨[c4], _, r4, _, rfl, rfl, (own_k o4 (by omega)), ?_⟩
  refine OwnS_cons.2 ⟨[c5], _, r5, _, rfl, rfl, (own_k o5 (by omega)), ?_⟩
  refine OwnS_lf.2 ⟨_, rfl, k6, ?_⟩
  refine OwnS_lf.2 ⟨_, rfl, k7, ?_⟩
  exact OwnS_nil.2 ⟨rfl, rfl⟩
set_option maxHeartbeats 1000000 in
theorem TInferState.tmrep_open {w : World} {K : Nat → Prop} {x : TInferState} {k : Int} {cs : List Value} (h : Rep w K (tmk k x.enc) cs) : ∃ (c3 : Value) (c4 : Value) (c5 : Value), cs = [.int .i64 x.fNext, .int .i64 x.fCount, .int .i64 x.fNode, c3, c4, c5, .int .i64 x.fCode, .int .i64 x.fAt] ∧ Rep w K (.sl (mks (k) (x.fBindings.map TBinding.enc))) [c3] ∧ Rep w K (.sl (mks (k + (cnts (x.fBindings.map TBinding.enc) : Nat)) (x.fEquations.map TEquation.enc))) [c4] ∧ Rep w K (.sl (mks (k + (cnts (x.fBindings.map TBinding.enc) : Nat) + (cnts (x.fEquations.map TEquation.enc) : Nat)) (x.fObligations.map TObligation.enc))) [c5] := by
  rw [TInferState.enc_eq] at h
  simp only [tmk, tmks, encI, tcnt, Rep_st] at h
  obtain ⟨_, rfl, -, h⟩ := RepS_lf.1 h
  obtain ⟨_, rfl, -, h⟩ := RepS_lf.1 h
  obtain ⟨_, rfl, -, h⟩ := RepS_lf.1 h
  obtain ⟨u3, _, rfl, o3, h⟩ := RepS_cons.1 h
  obtain ⟨u4, _, rfl, o4, h⟩ := RepS_cons.1 h
  obtain ⟨u5, _, rfl, o5, h⟩ := RepS_cons.1 h
  obtain ⟨_, rfl, -, h⟩ := RepS_lf.1 h
  obtain ⟨_, rfl, -, h⟩ := RepS_lf.1 h
  obtain rfl := RepS_nil.1 h
  obtain ⟨c3, rfl⟩ := rep_one o3
  obtain ⟨c4, rfl⟩ := rep_one o4
  obtain ⟨c5, rfl⟩ := rep_one o5
  exact ⟨c3, c4, c5, rfl, (rep_k o3 (by omega)), (rep_k o4 (by omega)), (rep_k o5 (by omega))⟩
end Go.Proofs.YtkmiecgcibjkbaaGreat
