/- The marks of this program's types, laid flat. No condition. -/
import Derived.Test.YtkmiecgcibjkbaaGreatMarkText
namespace Go.Proofs.YtkmiecgcibjkbaaGreat
open Go.RowKit
theorem TCore.flat (x : TCore) : x.enc = .st [encI x.fKind, encS x.fTrait, encS x.fName, encI x.fN, .st [encI x.fType.fKind, encS x.fType.fName, (.sl (x.fType.fArgs.map TType.enc))], (.sl (x.fTypeArgs.map TType.enc)), (.sl (x.fEvidence.map TEvidence.enc)), (.sl (x.fArgs.map TCore.enc)), (.sl (x.fArms.map TCoreArm.enc))] := by
  simp only [TCore.enc_eq, TType.enc_eq]
theorem TCore.cnt_flat (x : TCore) : cnt x.enc = 1 + 1 + 1 + 1 + 1 + 1 + cnts (x.fType.fArgs.map TType.enc) + cnts (x.fTypeArgs.map TType.enc) + cnts (x.fEvidence.map TEvidence.enc) + cnts (x.fArgs.map TCore.enc) + cnts (x.fArms.map TCoreArm.enc) := by
  rw [TCore.flat]
  simp only [encI, encS, cnt, cnts]
  omega
theorem TCore.own_flat {w : World} {x : TCore} {cs : List Value} {bs : List Nat} (h : Own w x.enc cs bs) : ∃ (c6 : Value) (c7 : Value) (c8 : Value) (c9 : Value) (c10 : Value) (r6 : List Nat) (r7 : List Nat) (r8 : List Nat) (r9 : List Nat) (r10 : List Nat), cs = [.int .i64 x.fKind, .string x.fTrait, .string x.fName, .int .i64 x.fN, .int .i64 x.fType.fKind, .string x.fType.fName, c6, c7, c8, c9, c10] ∧ bs = r6 ++ (r7 ++ (r8 ++ (r9 ++ (r10 ++ ([]))))) ∧ Own w (.sl (x.fType.fArgs.map TType.enc)) [c6] r6 ∧ Own w (.sl (x.fTypeArgs.map TType.enc)) [c7] r7 ∧ Own w (.sl (x.fEvidence.map TEvidence.enc)) [c8] r8 ∧ Own w (.sl (x.fArgs.map TCore.enc)) [c9] r9 ∧ Own w (.sl (x.fArms.map TCoreArm.enc)) [c10] r10 := by
  rw [TCore.flat] at h
  simp only [encI, encS, Own_st] at h
  obtain ⟨_, rfl, -, h⟩ := OwnS_lf.1 h
  obtain ⟨_, rfl, -, h⟩ := OwnS_lf.1 h
  obtain ⟨_, rfl, -, h⟩ := OwnS_lf.1 h
  obtain ⟨_, rfl, -, h⟩ := OwnS_lf.1 h
  replace h := OwnS_stc.1 h
  simp only [List.cons_append, List.nil_append] at h
  obtain ⟨_, rfl, -, h⟩ := OwnS_lf.1 h
  obtain ⟨_, rfl, -, h⟩ := OwnS_lf.1 h
  obtain ⟨c6, _, r6, _, rfl, rfl, o6, h⟩ := OwnS_sl.1 h
  obtain ⟨c7, _, r7, _, rfl, rfl, o7, h⟩ := OwnS_sl.1 h
  obtain ⟨c8, _, r8, _, rfl, rfl, o8, h⟩ := OwnS_sl.1 h
  obtain ⟨c9, _, r9, _, rfl, rfl, o9, h⟩ := OwnS_sl.1 h
  obtain ⟨c10, _, r10, _, rfl, rfl, o10, h⟩ := OwnS_sl.1 h
  obtain ⟨rfl, rfl⟩ := OwnS_nil.1 h
  exact ⟨c6, c7, c8, c9, c10, r6, r7, r8, r9, r10, rfl, rfl, o6, o7, o8, o9, o10⟩
set_option maxHeartbeats 1000000 in
theorem TCore.mk_flat {w : World} {x : TCore} {k : Int} {c6 c7 c8 c9 c10 : Value} {r6 r7 r8 r9 r10 : List Nat} (h0 : 0 ≤ k) (h1 : k + (cnt x.enc : Nat) ≤ 4611686018427387904) (o6 : Own w (.sl (mks (k + 1 + 1 + 1 + 1 + 1 + 1) (x.fType.fArgs.map TType.enc))) [c6] r6) (o7 : Own w (.sl (mks (k + 1 + 1 + 1 + 1 + 1 + 1 + (cnts (x.fType.fArgs.map TType.enc) : Nat)) (x.fTypeArgs.map TType.enc))) [c7] r7) (o8 : Own w (.sl (mks (k + 1 + 1 + 1 + 1 + 1 + 1 + (cnts (x.fType.fArgs.map TType.enc) : Nat) + (cnts (x.fTypeArgs.map TType.enc) : Nat)) (x.fEvidence.map TEvidence.enc))) [c8] r8) (o9 : Own w (.sl (mks (k + 1 + 1 + 1 + 1 + 1 + 1 + (cnts (x.fType.fArgs.map TType.enc) : Nat) + (cnts (x.fTypeArgs.map TType.enc) : Nat) + (cnts (x.fEvidence.map TEvidence.enc) : Nat)) (x.fArgs.map TCore.enc))) [c9] r9) (o10 : Own w (.sl (mks (k + 1 + 1 + 1 + 1 + 1 + 1 + (cnts (x.fType.fArgs.map TType.enc) : Nat) + (cnts (x.fTypeArgs.map TType.enc) : Nat) + (cnts (x.fEvidence.map TEvidence.enc) : Nat) + (cnts (x.fArgs.map TCore.enc) : Nat)) (x.fArms.map TCoreArm.enc))) [c10] r10) : Own w (mkd k x.enc) [.int .i64 (k), .string (mtext (k + 1)), .string (mtext (k + 1 + 1)), .int .i64 (k + 1 + 1 + 1), .int .i64 (k + 1 + 1 + 1 + 1), .string (mtext (k + 1 + 1 + 1 + 1 + 1)), c6, c7, c8, c9, c10] (r6 ++ (r7 ++ (r8 ++ (r9 ++ (r10 ++ ([])))))) := by
  rw [TCore.cnt_flat] at h1
  rw [TCore.flat]
  simp only [mkd, mks, mlit, encI, encS, cnt, cnts, Own_st]
  refine OwnS_lf.2 ⟨_, cons_eq (congrArg (Value.int .i64) (by omega)) rfl, inR_mk (by omega) (by omega), ?_⟩
  refine OwnS_lf.2 ⟨_, cons_eq (congrArg (fun z => Value.string (mtext z)) (by omega)) rfl, mtext_size (by omega), ?_⟩
  refine OwnS_lf.2 ⟨_, cons_eq (congrArg (fun z => Value.string (mtext z)) (by omega)) rfl, mtext_size (by omega), ?_⟩
  refine OwnS_lf.2 ⟨_, cons_eq (congrArg (Value.int .i64) (by omega)) rfl, inR_mk (by omega) (by omega), ?_⟩
  refine OwnS_stc.2 ?_
  simp only [List.cons_append, List.nil_append]
  refine OwnS_lf.2 ⟨_, cons_eq (congrArg (Value.int .i64) (by omega)) rfl, inR_mk (by omega) (by omega), ?_⟩
  refine OwnS_lf.2 ⟨_, cons_eq (congrArg (fun z => Value.string (mtext z)) (by omega)) rfl, mtext_size (by omega), ?_⟩
  refine OwnS_sl.2 ⟨c6, _, r6, _, rfl, rfl, own_k o6 (by omega), ?_⟩
  refine OwnS_sl.2 ⟨c7, _, r7, _, rfl, rfl, own_k o7 (by omega), ?_⟩
  refine OwnS_sl.2 ⟨c8, _, r8, _, rfl, rfl, own_k o8 (by omega), ?_⟩
  refine OwnS_sl.2 ⟨c9, _, r9, _, rfl, rfl, own_k o9 (by omega), ?_⟩
  refine OwnS_sl.2 ⟨c10, _, r10, _, rfl, rfl, own_k o10 (by omega), ?_⟩
  exact OwnS_nil.2 ⟨rfl, rfl⟩
set_option maxHeartbeats 1000000 in
theorem TCore.mrep_flat {w : World} {K : Nat → Prop} {x : TCore} {k : Int} {cs : List Value} (h : Rep w K (mkd k x.enc) cs) : ∃ (c6 : Value) (c7 : Value) (c8 : Value) (c9 : Value) (c10 : Value), cs = [.int .i64 (k), .string (mtext (k + 1)), .string (mtext (k + 1 + 1)), .int .i64 (k + 1 + 1 + 1), .int .i64 (k + 1 + 1 + 1 + 1), .string (mtext (k + 1 + 1 + 1 + 1 + 1)), c6, c7, c8, c9, c10] ∧ Rep w K (.sl (mks (k + 1 + 1 + 1 + 1 + 1 + 1) (x.fType.fArgs.map TType.enc))) [c6] ∧ Rep w K (.sl (mks (k + 1 + 1 + 1 + 1 + 1 + 1 + (cnts (x.fType.fArgs.map TType.enc) : Nat)) (x.fTypeArgs.map TType.enc))) [c7] ∧ Rep w K (.sl (mks (k + 1 + 1 + 1 + 1 + 1 + 1 + (cnts (x.fType.fArgs.map TType.enc) : Nat) + (cnts (x.fTypeArgs.map TType.enc) : Nat)) (x.fEvidence.map TEvidence.enc))) [c8] ∧ Rep w K (.sl (mks (k + 1 + 1 + 1 + 1 + 1 + 1 + (cnts (x.fType.fArgs.map TType.enc) : Nat) + (cnts (x.fTypeArgs.map TType.enc) : Nat) + (cnts (x.fEvidence.map TEvidence.enc) : Nat)) (x.fArgs.map TCore.enc))) [c9] ∧ Rep w K (.sl (mks (k + 1 + 1 + 1 + 1 + 1 + 1 + (cnts (x.fType.fArgs.map TType.enc) : Nat) + (cnts (x.fTypeArgs.map TType.enc) : Nat) + (cnts (x.fEvidence.map TEvidence.enc) : Nat) + (cnts (x.fArgs.map TCore.enc) : Nat)) (x.fArms.map TCoreArm.enc))) [c10] := by
  rw [TCore.flat] at h
  simp only [mkd, mks, mlit, encI, encS, cnt, cnts, Rep_st] at h
  obtain ⟨_, rfl, -, h⟩ := RepS_lf.1 h
  obtain ⟨_, rfl, -, h⟩ := RepS_lf.1 h
  obtain ⟨_, rfl, -, h⟩ := RepS_lf.1 h
  obtain ⟨_, rfl, -, h⟩ := RepS_lf.1 h
  replace h := RepS_stc.1 h
  simp only [List.cons_append, List.nil_append] at h
  obtain ⟨_, rfl, -, h⟩ := RepS_lf.1 h
  obtain ⟨_, rfl, -, h⟩ := RepS_lf.1 h
  obtain ⟨c6, _, rfl, o6, h⟩ := RepS_sl.1 h
  obtain ⟨c7, _, rfl, o7, h⟩ := RepS_sl.1 h
  obtain ⟨c8, _, rfl, o8, h⟩ := RepS_sl.1 h
  obtain ⟨c9, _, rfl, o9, h⟩ := RepS_sl.1 h
  obtain ⟨c10, _, rfl, o10, h⟩ := RepS_sl.1 h
  obtain rfl := RepS_nil.1 h
  exact ⟨c6, c7, c8, c9, c10, cons_eq (congrArg (Value.int .i64) (by omega)) (cons_eq (congrArg (fun z => Value.string (mtext z)) (by omega)) (cons_eq (congrArg (fun z => Value.string (mtext z)) (by omega)) (cons_eq (congrArg (Value.int .i64) (by omega)) (cons_eq (congrArg (Value.int .i64) (by omega)) (cons_eq (congrArg (fun z => Value.string (mtext z)) (by omega)) (cons_eq (rfl) (cons_eq (rfl) (cons_eq (rfl) (cons_eq (rfl) (cons_eq (rfl) (rfl))))))))))), rep_k o6 (by omega), rep_k o7 (by omega), rep_k o8 (by omega), rep_k o9 (by omega), rep_k o10 (by omega)⟩
theorem TInstanceRef.flat (x : TInstanceRef) : x.enc = .st [encI x.fPackage, encI x.fAt] := by
  simp only [TInstanceRef.enc_eq]
theorem TInstanceRef.cnt_flat (x : TInstanceRef) : cnt x.enc = 1 + 1 := by
  rw [TInstanceRef.flat]
  simp only [encI, cnt, cnts]
theorem TInstanceRef.own_flat {w : World} {x : TInstanceRef} {cs : List Value} {bs : List Nat} (h : Own w x.enc cs bs) : cs = [.int .i64 x.fPackage, .int .i64 x.fAt] ∧ bs = [] := by
  rw [TInstanceRef.flat] at h
  simp only [encI, Own_st] at h
  obtain ⟨_, rfl, -, h⟩ := OwnS_lf.1 h
  obtain ⟨_, rfl, -, h⟩ := OwnS_lf.1 h
  obtain ⟨rfl, rfl⟩ := OwnS_nil.1 h
  exact ⟨rfl, rfl⟩
set_option maxHeartbeats 1000000 in
theorem TInstanceRef.mk_flat {w : World} {x : TInstanceRef} {k : Int} (h0 : 0 ≤ k) (h1 : k + (cnt x.enc : Nat) ≤ 4611686018427387904) : Own w (mkd k x.enc) [.int .i64 (k), .int .i64 (k + 1)] ([]) := by
  rw [TInstanceRef.cnt_flat] at h1
  rw [TInstanceRef.flat]
  simp only [mkd, mks, mlit, encI, cnt, Own_st]
  refine OwnS_lf.2 ⟨_, cons_eq (congrArg (Value.int .i64) (by omega)) rfl, inR_mk (by omega) (by omega), ?_⟩
  refine OwnS_lf.2 ⟨_, cons_eq (congrArg (Value.int .i64) (by omega)) rfl, inR_mk (by omega) (by omega), ?_⟩
  exact OwnS_nil.2 ⟨rfl, rfl⟩
set_option maxHeartbeats 1000000 in
theorem TInstanceRef.mrep_flat {w : World} {K : Nat → Prop} {x : TInstanceRef} {k : Int} {cs : List Value} (h : Rep w K (mkd k x.enc) cs) : cs = [.int .i64 (k), .int .i64 (k + 1)] := by
  rw [TInstanceRef.flat] at h
  simp only [mkd, mks, mlit, encI, cnt, Rep_st] at h
  obtain ⟨_, rfl, -, h⟩ := RepS_lf.1 h
  obtain ⟨_, rfl, -, h⟩ := RepS_lf.1 h
  obtain rfl := RepS_nil.1 h
  exact cons_eq (congrArg (Value.int .i64) (by omega)) (cons_eq (congrArg (Value.int .i64) (by omega)) (rfl))
theorem TBuild.flat (x : TBuild) : x.enc = .st [(.sl (x.fPackages.map TBuiltPackage.enc))] := by
  simp only [TBuild.enc_eq]
theorem TBuild.cnt_flat (x : TBuild) : cnt x.enc = cnts (x.fPackages.map TBuiltPackage.enc) := by
  rw [TBuild.flat]
  simp only [cnt, cnts, Nat.add_zero]
theorem TBuild.own_flat {w : World} {x : TBuild} {cs : List Value} {bs : List Nat} (h : Own w x.enc cs bs) : ∃ (c0 : Value) (r0 : List Nat), cs = [c0] ∧ bs = r0 ++ ([]) ∧ Own w (.sl (x.fPackages.map TBuiltPackage.enc)) [c0] r0 := by
  rw [TBuild.flat] at h
  simp only [Own_st] at h
  obtain ⟨c0, _, r0, _, rfl, rfl, o0, h⟩ := OwnS_sl.1 h
  obtain ⟨rfl, rfl⟩ := OwnS_nil.1 h
  exact ⟨c0, r0, rfl, rfl, o0⟩
set_option maxHeartbeats 1000000 in
theorem TBuild.mk_flat {w : World} {x : TBuild} {k : Int} {c0 : Value} {r0 : List Nat} (_h0 : 0 ≤ k) (_h1 : k + (cnt x.enc : Nat) ≤ 4611686018427387904) (o0 : Own w (.sl (mks (k) (x.fPackages.map TBuiltPackage.enc))) [c0] r0) : Own w (mkd k x.enc) [c0] (r0 ++ ([])) := by
  rw [TBuild.flat]
  simp only [mkd, mks, Own_st]
  refine OwnS_sl.2 ⟨c0, _, r0, _, rfl, rfl, own_k o0 (by omega), ?_⟩
  exact OwnS_nil.2 ⟨rfl, rfl⟩
set_option maxHeartbeats 1000000 in
theorem TBuild.mrep_flat {w : World} {K : Nat → Prop} {x : TBuild} {k : Int} {cs : List Value} (h : Rep w K (mkd k x.enc) cs) : ∃ (c0 : Value), cs = [c0] ∧ Rep w K (.sl (mks (k) (x.fPackages.map TBuiltPackage.enc))) [c0] := by
  rw [TBuild.flat] at h
  simp only [mkd, mks, Rep_st] at h
  obtain ⟨c0, _, rfl, o0, h⟩ := RepS_sl.1 h
  obtain rfl := RepS_nil.1 h
  exact ⟨c0, cons_eq (rfl) (rfl), rep_k o0 (by omega)⟩
theorem TEvidence.flat (x : TEvidence) : x.enc = .st [encI x.fKind, encI x.fN, .st [encI x.fAt.fPackage, encI x.fAt.fAt], (.sl (x.fArgs.map TEvidence.enc))] := by
  simp only [TEvidence.enc_eq, TInstanceRef.enc_eq]
theorem TEvidence.cnt_flat (x : TEvidence) : cnt x.enc = 1 + 1 + 1 + 1 + cnts (x.fArgs.map TEvidence.enc) := by
  rw [TEvidence.flat]
  simp only [encI, cnt, cnts]
  omega
theorem TEvidence.own_flat {w : World} {x : TEvidence} {cs : List Value} {bs : List Nat} (h : Own w x.enc cs bs) : ∃ (c4 : Value) (r4 : List Nat), cs = [.int .i64 x.fKind, .int .i64 x.fN, .int .i64 x.fAt.fPackage, .int .i64 x.fAt.fAt, c4] ∧ bs = r4 ++ ([]) ∧ Own w (.sl (x.fArgs.map TEvidence.enc)) [c4] r4 := by
  rw [TEvidence.flat] at h
  simp only [encI, Own_st] at h
  obtain ⟨_, rfl, -, h⟩ := OwnS_lf.1 h
  obtain ⟨_, rfl, -, h⟩ := OwnS_lf.1 h
  replace h := OwnS_stc.1 h
  simp only [List.cons_append, List.nil_append] at h
  obtain ⟨_, rfl, -, h⟩ := OwnS_lf.1 h
  obtain ⟨_, rfl, -, h⟩ := OwnS_lf.1 h
  obtain ⟨c4, _, r4, _, rfl, rfl, o4, h⟩ := OwnS_sl.1 h
  obtain ⟨rfl, rfl⟩ := OwnS_nil.1 h
  exact ⟨c4, r4, rfl, rfl, o4⟩
set_option maxHeartbeats 1000000 in
theorem TEvidence.mk_flat {w : World} {x : TEvidence} {k : Int} {c4 : Value} {r4 : List Nat} (h0 : 0 ≤ k) (h1 : k + (cnt x.enc : Nat) ≤ 4611686018427387904) (o4 : Own w (.sl (mks (k + 1 + 1 + 1 + 1) (x.fArgs.map TEvidence.enc))) [c4] r4) : Own w (mkd k x.enc) [.int .i64 (k), .int .i64 (k + 1), .int .i64 (k + 1 + 1), .int .i64 (k + 1 + 1 + 1), c4] (r4 ++ ([])) := by
  rw [TEvidence.cnt_flat] at h1
  rw [TEvidence.flat]
  simp only [mkd, mks, mlit, encI, cnt, cnts, Own_st]
  refine OwnS_lf.2 ⟨_, cons_eq (congrArg (Value.int .i64) (by omega)) rfl, inR_mk (by omega) (by omega), ?_⟩
  refine OwnS_lf.2 ⟨_, cons_eq (congrArg (Value.int .i64) (by omega)) rfl, inR_mk (by omega) (by omega), ?_⟩
  refine OwnS_stc.2 ?_
  simp only [List.cons_append, List.nil_append]
  refine OwnS_lf.2 ⟨_, cons_eq (congrArg (Value.int .i64) (by omega)) rfl, inR_mk (by omega) (by omega), ?_⟩
  refine OwnS_lf.2 ⟨_, cons_eq (congrArg (Value.int .i64) (by omega)) rfl, inR_mk (by omega) (by omega), ?_⟩
  refine OwnS_sl.2 ⟨c4, _, r4, _, rfl, rfl, own_k o4 (by omega), ?_⟩
  exact OwnS_nil.2 ⟨rfl, rfl⟩
set_option maxHeartbeats 1000000 in
theorem TEvidence.mrep_flat {w : World} {K : Nat → Prop} {x : TEvidence} {k : Int} {cs : List Value} (h : Rep w K (mkd k x.enc) cs) : ∃ (c4 : Value), cs = [.int .i64 (k), .int .i64 (k + 1), .int .i64 (k + 1 + 1), .int .i64 (k + 1 + 1 + 1), c4] ∧ Rep w K (.sl (mks (k + 1 + 1 + 1 + 1) (x.fArgs.map TEvidence.enc))) [c4] := by
  rw [TEvidence.flat] at h
  simp only [mkd, mks, mlit, encI, cnt, cnts, Rep_st] at h
  obtain ⟨_, rfl, -, h⟩ := RepS_lf.1 h
  obtain ⟨_, rfl, -, h⟩ := RepS_lf.1 h
  replace h := RepS_stc.1 h
  simp only [List.cons_append, List.nil_append] at h
  obtain ⟨_, rfl, -, h⟩ := RepS_lf.1 h
  obtain ⟨_, rfl, -, h⟩ := RepS_lf.1 h
  obtain ⟨c4, _, rfl, o4, h⟩ := RepS_sl.1 h
  obtain rfl := RepS_nil.1 h
  exact ⟨c4, cons_eq (congrArg (Value.int .i64) (by omega)) (cons_eq (congrArg (Value.int .i64) (by omega)) (cons_eq (congrArg (Value.int .i64) (by omega)) (cons_eq (congrArg (Value.int .i64) (by omega)) (cons_eq (rfl) (rfl))))), rep_k o4 (by omega)⟩
theorem TUnitError.flat (x : TUnitError) : x.enc = .st [encI x.fKind, encI x.fPackage, encI x.fAt, encI x.fSub, encI x.fCode, encI x.fNode] := by
  simp only [TUnitError.enc_eq]
theorem TUnitError.cnt_flat (x : TUnitError) : cnt x.enc = 1 + 1 + 1 + 1 + 1 + 1 := by
  rw [TUnitError.flat]
  simp only [encI, cnt, cnts]
theorem TUnitError.own_flat {w : World} {x : TUnitError} {cs : List Value} {bs : List Nat} (h : Own w x.enc cs bs) : cs = [.int .i64 x.fKind, .int .i64 x.fPackage, .int .i64 x.fAt, .int .i64 x.fSub, .int .i64 x.fCode, .int .i64 x.fNode] ∧ bs = [] := by
  rw [TUnitError.flat] at h
  simp only [encI, Own_st] at h
  obtain ⟨_, rfl, -, h⟩ := OwnS_lf.1 h
  obtain ⟨_, rfl, -, h⟩ := OwnS_lf.1 h
  obtain ⟨_, rfl, -, h⟩ := OwnS_lf.1 h
  obtain ⟨_, rfl, -, h⟩ := OwnS_lf.1 h
  obtain ⟨_, rfl, -, h⟩ := OwnS_lf.1 h
  obtain ⟨_, rfl, -, h⟩ := OwnS_lf.1 h
  obtain ⟨rfl, rfl⟩ := OwnS_nil.1 h
  exact ⟨rfl, rfl⟩
set_option maxHeartbeats 1000000 in
theorem TUnitError.mk_flat {w : World} {x : TUnitError} {k : Int} (h0 : 0 ≤ k) (h1 : k + (cnt x.enc : Nat) ≤ 4611686018427387904) : Own w (mkd k x.enc) [.int .i64 (k), .int .i64 (k + 1), .int .i64 (k + 1 + 1), .int .i64 (k + 1 + 1 + 1), .int .i64 (k + 1 + 1 + 1 + 1), .int .i64 (k + 1 + 1 + 1 + 1 + 1)] ([]) := by
  rw [TUnitError.cnt_flat] at h1
  rw [TUnitError.flat]
  simp only [mkd, mks, mlit, encI, cnt, Own_st]
  refine OwnS_lf.2 ⟨_, cons_eq (congrArg (Value.int .i64) (by omega)) rfl, inR_mk (by omega) (by omega), ?_⟩
  refine OwnS_lf.2 ⟨_, cons_eq (congrArg (Value.int .i64) (by omega)) rfl, inR_mk (by omega) (by omega), ?_⟩
  refine OwnS_lf.2 ⟨_, cons_eq (congrArg (Value.int .i64) (by omega)) rfl, inR_mk (by omega) (by omega), ?_⟩
  refine OwnS_lf.2 ⟨_, cons_eq (congrArg (Value.int .i64) (by omega)) rfl, inR_mk (by omega) (by omega), ?_⟩
  refine OwnS_lf.2 ⟨_, cons_eq (congrArg (Value.int .i64) (by omega)) rfl, inR_mk (by omega) (by omega), ?_⟩
  refine OwnS_lf.2 ⟨_, cons_eq (congrArg (Value.int .i64) (by omega)) rfl, inR_mk (by omega) (by omega), ?_⟩
  exact OwnS_nil.2 ⟨rfl, rfl⟩
set_option maxHeartbeats 1000000 in
theorem TUnitError.mrep_flat {w : World} {K : Nat → Prop} {x : TUnitError} {k : Int} {cs : List Value} (h : Rep w K (mkd k x.enc) cs) : cs = [.int .i64 (k), .int .i64 (k + 1), .int .i64 (k + 1 + 1), .int .i64 (k + 1 + 1 + 1), .int .i64 (k + 1 + 1 + 1 + 1), .int .i64 (k + 1 + 1 + 1 + 1 + 1)] := by
  rw [TUnitError.flat] at h
  simp only [mkd, mks, mlit, encI, cnt, Rep_st] at h
  obtain ⟨_, rfl, -, h⟩ := RepS_lf.1 h
  obtain ⟨_, rfl, -, h⟩ := RepS_lf.1 h
  obtain ⟨_, rfl, -, h⟩ := RepS_lf.1 h
  obtain ⟨_, rfl, -, h⟩ := RepS_lf.1 h
  obtain ⟨_, rfl, -, h⟩ := RepS_lf.1 h
  obtain ⟨_, rfl, -, h⟩ := RepS_lf.1 h
  obtain rfl := RepS_nil.1 h
  exact cons_eq (congrArg (Value.int .i64) (by omega)) (cons_eq (congrArg (Value.int .i64) (by omega)) (cons_eq (congrArg (Value.int .i64) (by omega)) (cons_eq (congrArg (Value.int .i64) (by omega)) (cons_eq (congrArg (Value.int .i64) (by omega)) (cons_eq (congrArg (Value.int .i64) (by omega)) (rfl))))))
theorem TUnit.flat (x : TUnit) : x.enc = .st [encI x.fKind, encI x.fPackage, encI x.fAt, encI x.fSub, (.sl (x.fVars.map encS)), (.sl (x.fWhere.map TBound.enc)), (.sl (x.fParams.map TParam.enc)), .st [encI x.fResult.fKind, encS x.fResult.fName, (.sl (x.fResult.fArgs.map TType.enc))], .st [encI x.fBody.fKind, encS x.fBody.fTrait, encS x.fBody.fName, encI x.fBody.fN, .st [encI x.fBody.fType.fKind, encS x.fBody.fType.fName, (.sl (x.fBody.fType.fArgs.map TType.enc))], (.sl (x.fBody.fTypeArgs.map TType.enc)), (.sl (x.fBody.fEvidence.map TEvidence.enc)), (.sl (x.fBody.fArgs.map TCore.enc)), (.sl (x.fBody.fArms.map TCoreArm.enc))]] := by
  simp only [TUnit.enc_eq, TType.enc_eq, TCore.enc_eq]
theorem TUnit.cnt_flat (x : TUnit) : cnt x.enc = 1 + 1 + 1 + 1 + cnts (x.fVars.map encS) + cnts (x.fWhere.map TBound.enc) + cnts (x.fParams.map TParam.enc) + 1 + 1 + cnts (x.fResult.fArgs.map TType.enc) + 1 + 1 + 1 + 1 + 1 + 1 + cnts (x.fBody.fType.fArgs.map TType.enc) + cnts (x.fBody.fTypeArgs.map TType.enc) + cnts (x.fBody.fEvidence.map TEvidence.enc) + cnts (x.fBody.fArgs.map TCore.enc) + cnts (x.fBody.fArms.map TCoreArm.enc) := by
  rw [TUnit.flat]
  simp only [encI, encS, cnt, cnts]
  omega
theorem TUnit.own_flat {w : World} {x : TUnit} {cs : List Value} {bs : List Nat} (h : Own w x.enc cs bs) : ∃ (c4 : Value) (c5 : Value) (c6 : Value) (c9 : Value) (c16 : Value) (c17 : Value) (c18 : Value) (c19 : Value) (c20 : Value) (r4 : List Nat) (r5 : List Nat) (r6 : List Nat) (r9 : List Nat) (r16 : List Nat) (r17 : List Nat) (r18 : List Nat) (r19 : List Nat) (r20 : List Nat), cs = [.int .i64 x.fKind, .int .i64 x.fPackage, .int .i64 x.fAt, .int .i64 x.fSub, c4, c5, c6, .int .i64 x.fResult.fKind, .string x.fResult.fName, c9, .int .i64 x.fBody.fKind, .string x.fBody.fTrait, .string x.fBody.fName, .int .i64 x.fBody.fN, .int .i64 x.fBody.fType.fKind, .string x.fBody.fType.fName, c16, c17, c18, c19, c20] ∧ bs = r4 ++ (r5 ++ (r6 ++ (r9 ++ (r16 ++ (r17 ++ (r18 ++ (r19 ++ (r20 ++ ([]))))))))) ∧ Own w (.sl (x.fVars.map encS)) [c4] r4 ∧ Own w (.sl (x.fWhere.map TBound.enc)) [c5] r5 ∧ Own w (.sl (x.fParams.map TParam.enc)) [c6] r6 ∧ Own w (.sl (x.fResult.fArgs.map TType.enc)) [c9] r9 ∧ Own w (.sl (x.fBody.fType.fArgs.map TType.enc)) [c16] r16 ∧ Own w (.sl (x.fBody.fTypeArgs.map TType.enc)) [c17] r17 ∧ Own w (.sl (x.fBody.fEvidence.map TEvidence.enc)) [c18] r18 ∧ Own w (.sl (x.fBody.fArgs.map TCore.enc)) [c19] r19 ∧ Own w (.sl (x.fBody.fArms.map TCoreArm.enc)) [c20] r20 := by
  rw [TUnit.flat] at h
  simp only [encI, encS, Own_st] at h
  obtain ⟨_, rfl, -, h⟩ := OwnS_lf.1 h
  obtain ⟨_, rfl, -, h⟩ := OwnS_lf.1 h
  obtain ⟨_, rfl, -, h⟩ := OwnS_lf.1 h
  obtain ⟨_, rfl, -, h⟩ := OwnS_lf.1 h
  obtain ⟨c4, _, r4, _, rfl, rfl, o4, h⟩ := OwnS_sl.1 h
  obtain ⟨c5, _, r5, _, rfl, rfl, o5, h⟩ := OwnS_sl.1 h
  obtain ⟨c6, _, r6, _, rfl, rfl, o6, h⟩ := OwnS_sl.1 h
  replace h := OwnS_stc.1 h
  simp only [List.cons_append, List.nil_append] at h
  obtain ⟨_, rfl, -, h⟩ := OwnS_lf.1 h
  obtain ⟨_, rfl, -, h⟩ := OwnS_lf.1 h
  obtain ⟨c9, _, r9, _, rfl, rfl, o9, h⟩ := OwnS_sl.1 h
  replace h := OwnS_stc.1 h
  simp only [List.cons_append, List.nil_append] at h
  obtain ⟨_, rfl, -, h⟩ := OwnS_lf.1 h
  obtain ⟨_, rfl, -, h⟩ := OwnS_lf.1 h
  obtain ⟨_, rfl, -, h⟩ := OwnS_lf.1 h
  obtain ⟨_, rfl, -, h⟩ := OwnS_lf.1 h
  replace h := OwnS_stc.1 h
  simp only [List.cons_append, List.nil_append] at h
  obtain ⟨_, rfl, -, h⟩ := OwnS_lf.1 h
  obtain ⟨_, rfl, -, h⟩ := OwnS_lf.1 h
  obtain ⟨c16, _, r16, _, rfl, rfl, o16, h⟩ := OwnS_sl.1 h
  obtain ⟨c17, _, r17, _, rfl, rfl, o17, h⟩ := OwnS_sl.1 h
  obtain ⟨c18, _, r18, _, rfl, rfl, o18, h⟩ := OwnS_sl.1 h
  obtain ⟨c19, _, r19, _, rfl, rfl, o19, h⟩ := OwnS_sl.1 h
  obtain ⟨c20, _, r20, _, rfl, rfl, o20, h⟩ := OwnS_sl.1 h
  obtain ⟨rfl, rfl⟩ := OwnS_nil.1 h
  exact ⟨c4, c5, c6, c9, c16, c17, c18, c19, c20, r4, r5, r6, r9, r16, r17, r18, r19, r20, rfl, rfl, o4, o5, o6, o9, o16, o17, o18, o19, o20⟩
set_option maxHeartbeats 1000000 in
theorem TUnit.mk_flat {w : World} {x : TUnit} {k : Int} {c4 c5 c6 c9 c16 c17 c18 c19 c20 : Value} {r4 r5 r6 r9 r16 r17 r18 r19 r20 : List Nat} (h0 : 0 ≤ k) (h1 : k + (cnt x.enc : Nat) ≤ 4611686018427387904) (o4 : Own w (.sl (mks (k + 1 + 1 + 1 + 1) (x.fVars.map encS))) [c4] r4) (o5 : Own w (.sl (mks (k + 1 + 1 + 1 + 1 + (cnts (x.fVars.map encS) : Nat)) (x.fWhere.map TBound.enc))) [c5] r5) (o6 : Own w (.sl (mks (k + 1 + 1 + 1 + 1 + (cnts (x.fVars.map encS) : Nat) + (cnts (x.fWhere.map TBound.enc) : Nat)) (x.fParams.map TParam.enc))) [c6] r6) (o9 : Own w (.sl (mks (k + 1 + 1 + 1 + 1 + (cnts (x.fVars.map encS) : Nat) + (cnts (x.fWhere.map TBound.enc) : Nat) + (cnts (x.fParams.map TParam.enc) : Nat) + 1 + 1) (x.fResult.fArgs.map TType.enc))) [c9] r9) (o16 : Own w (.sl (mks (k + 1 + 1 + 1 + 1 + (cnts (x.fVars.map encS) : Nat) + (cnts (x.fWhere.map TBound.enc) : Nat) + (cnts (x.fParams.map TParam.enc) : Nat) + 1 + 1 + (cnts (x.fResult.fArgs.map TType.enc) : Nat) + 1 + 1 + 1 + 1 + 1 + 1) (x.fBody.fType.fArgs.map TType.enc))) [c16] r16) (o17 : Own w (.sl (mks (k + 1 + 1 + 1 + 1 + (cnts (x.fVars.map encS) : Nat) + (cnts (x.fWhere.map TBound.enc) : Nat) + (cnts (x.fParams.map TParam.enc) : Nat) + 1 + 1 + (cnts (x.fResult.fArgs.map TType.enc) : Nat) + 1 + 1 + 1 + 1 + 1 + 1 + (cnts (x.fBody.fType.fArgs.map TType.enc) : Nat)) (x.fBody.fTypeArgs.map TType.enc))) [c17] r17) (o18 : Own w (.sl (mks (k + 1 + 1 + 1 + 1 + (cnts (x.fVars.map encS) : Nat) + (cnts (x.fWhere.map TBound.enc) : Nat) + (cnts (x.fParams.map TParam.enc) : Nat) + 1 + 1 + (cnts (x.fResult.fArgs.map TType.enc) : Nat) + 1 + 1 + 1 + 1 + 1 + 1 + (cnts (x.fBody.fType.fArgs.map TType.enc) : Nat) + (cnts (x.fBody.fTypeArgs.map TType.enc) : Nat)) (x.fBody.fEvidence.map TEvidence.enc))) [c18] r18) (o19 : Own w (.sl (mks (k + 1 + 1 + 1 + 1 + (cnts (x.fVars.map encS) : Nat) + (cnts (x.fWhere.map TBound.enc) : Nat) + (cnts (x.fParams.map TParam.enc) : Nat) + 1 + 1 + (cnts (x.fResult.fArgs.map TType.enc) : Nat) + 1 + 1 + 1 + 1 + 1 + 1 + (cnts (x.fBody.fType.fArgs.map TType.enc) : Nat) + (cnts (x.fBody.fTypeArgs.map TType.enc) : Nat) + (cnts (x.fBody.fEvidence.map TEvidence.enc) : Nat)) (x.fBody.fArgs.map TCore.enc))) [c19] r19) (o20 : Own w (.sl (mks (k + 1 + 1 + 1 + 1 + (cnts (x.fVars.map encS) : Nat) + (cnts (x.fWhere.map TBound.enc) : Nat) + (cnts (x.fParams.map TParam.enc) : Nat) + 1 + 1 + (cnts (x.fResult.fArgs.map TType.enc) : Nat) + 1 + 1 + 1 + 1 + 1 + 1 + (cnts (x.fBody.fType.fArgs.map TType.enc) : Nat) + (cnts (x.fBody.fTypeArgs.map TType.enc) : Nat) + (cnts (x.fBody.fEvidence.map TEvidence.enc) : Nat) + (cnts (x.fBody.fArgs.map TCore.enc) : Nat)) (x.fBody.fArms.map TCoreArm.enc))) [c20] r20) : Own w (mkd k x.enc) [.int .i64 (k), .int .i64 (k + 1), .int .i64 (k + 1 + 1), .int .i64 (k + 1 + 1 + 1), c4, c5, c6, .int .i64 (k + 1 + 1 + 1 + 1 + (cnts (x.fVars.map encS) : Nat) + (cnts (x.fWhere.map TBound.enc) : Nat) + (cnts (x.fParams.map TParam.enc) : Nat)), .string (mtext (k + 1 + 1 + 1 + 1 + (cnts (x.fVars.map encS) : Nat) + (cnts (x.fWhere.map TBound.enc) : Nat) + (cnts (x.fParams.map TParam.enc) : Nat) + 1)), c9, .int .i64 (k + 1 + 1 + 1 + 1 + (cnts (x.fVars.map encS) : Nat) + (cnts (x.fWhere.map TBound.enc) : Nat) + (cnts (x.fParams.map TParam.enc) : Nat) + 1 + 1 + (cnts (x.fResult.fArgs.map TType.enc) : Nat)), .string (mtext (k + 1 + 1 + 1 + 1 + (cnts (x.fVars.map encS) : Nat) + (cnts (x.fWhere.map TBound.enc) : Nat) + (cnts (x.fParams.map TParam.enc) : Nat) + 1 + 1 + (cnts (x.fResult.fArgs.map TType.enc) : Nat) + 1)), .string (mtext (k + 1 + 1 + 1 + 1 + (cnts (x.fVars.map encS) : Nat) + (cnts (x.fWhere.map TBound.enc) : Nat) + (cnts (x.fParams.map TParam.enc) : Nat) + 1 + 1 + (cnts (x.fResult.fArgs.map TType.enc) : Nat) + 1 + 1)), .int .i64 (k + 1 + 1 + 1 + 1 + (cnts (x.fVars.map encS) : Nat) + (cnts (x.fWhere.map TBound.enc) : Nat) + (cnts (x.fParams.map TParam.enc) : Nat) + 1 + 1 + (cnts (x.fResult.fArgs.map TType.enc) : Nat) + 1 + 1 + 1), .int .i64 (k + 1 + 1 + 1 + 1 + (cnts (x.fVars.map encS) : Nat) + (cnts (x.fWhere.map TBound.enc) : Nat) + (cnts (x.fParams.map TParam.enc) : Nat) + 1 + 1 + (cnts (x.fResult.fArgs.map TType.enc) : Nat) + 1 + 1 + 1 + 1), .string (mtext (k + 1 + 1 + 1 + 1 + (cnts (x.fVars.map encS) : Nat) + (cnts (x.fWhere.map TBound.enc) : Nat) + (cnts (x.fParams.map TParam.enc) : Nat) + 1 + 1 + (cnts (x.fResult.fArgs.map TType.enc) : Nat) + 1 + 1 + 1 + 1 + 1)), c16, c17, c18, c19, c20] (r4 ++ (r5 ++ (r6 ++ (r9 ++ (r16 ++ (r17 ++ (r18 ++ (r19 ++ (r20 ++ ([])))))))))) := by
  rw [TUnit.cnt_flat] at h1
  rw [TUnit.flat]
  simp only [mkd, mks, mlit, encI, encS, cnt, cnts, Own_st]
  refine OwnS_lf.2 ⟨_, cons_eq (congrArg (Value.int .i64) (by omega)) rfl, inR_mk (by omega) (by omega), ?_⟩
  refine OwnS_lf.2 ⟨_, cons_eq (congrArg (Value.int .i64) (by omega)) rfl, inR_mk (by omega) (by omega), ?_⟩
  refine OwnS_lf.2 ⟨_, cons_eq (congrArg (Value.int .i64) (by omega)) rfl, inR_mk (by omega) (by omega), ?_⟩
  refine OwnS_lf.2 ⟨_, cons_eq (congrArg (Value.int .i64) (by omega)) rfl, inR_mk (by omega) (by omega), ?_⟩
  refine OwnS_sl.2 ⟨c4, _, r4, _, rfl, rfl, own_k o4 (by omega), ?_⟩
  refine OwnS_sl.2 ⟨c5, _, r5, _, rfl, rfl, own_k o5 (by omega), ?_⟩
  refine OwnS_sl.2 ⟨c6, _, r6, _, rfl, rfl, own_k o6 (by omega), ?_⟩
  refine OwnS_stc.2 ?_
  simp only [List.cons_append, List.nil_append]
  refine OwnS_lf.2 ⟨_, cons_eq (congrArg (Value.int .i64) (by omega)) rfl, inR_mk (by omega) (by omega), ?_⟩
  refine OwnS_lf.2 ⟨_, cons_eq (congrArg (fun z => Value.string (mtext z)) (by omega)) rfl, mtext_size (by omega), ?_⟩
  refine OwnS_sl.2 ⟨c9, _, r9, _, rfl, rfl, own_k o9 (by omega), ?_⟩
  refine OwnS_stc.2 ?_
  simp only [List.cons_append, List.nil_append]
  refine OwnS_lf.2 ⟨_, cons_eq (congrArg (Value.int .i64) (by omega)) rfl, inR_mk (by omega) (by omega), ?_⟩
  refine OwnS_lf.2 ⟨_, cons_eq (congrArg (fun z => Value.string (mtext z)) (by omega)) rfl, mtext_size (by omega), ?_⟩
  refine OwnS_lf.2 ⟨_, cons_eq (congrArg (fun z => Value.string (mtext z)) (by omega)) rfl, mtext_size (by omega), ?_⟩
  refine OwnS_lf.2 ⟨_, cons_eq (congrArg (Value.int .i64) (by omega)) rfl, inR_mk (by omega) (by omega), ?_⟩
  refine OwnS_stc.2 ?_
  simp only [List.cons_append, List.nil_append]
  refine OwnS_lf.2 ⟨_, cons_eq (congrArg (Value.int .i64) (by omega)) rfl, inR_mk (by omega) (by omega), ?_⟩
  refine OwnS_lf.2 ⟨_, cons_eq (congrArg (fun z => Value.string (mtext z)) (by omega)) rfl, mtext_size (by omega), ?_⟩
  refine OwnS_sl.2 ⟨c16, _, r16, _, rfl, rfl, own_k o16 (by omega), ?_⟩
  refine OwnS_sl.2 ⟨c17, _, r17, _, rfl, rfl, own_k o17 (by omega), ?_⟩
  refine OwnS_sl.2 ⟨c18, _, r18, _, rfl, rfl, own_k o18 (by omega), ?_⟩
  refine OwnS_sl.2 ⟨c19, _, r19, _, rfl, rfl, own_k o19 (by omega), ?_⟩
  refine OwnS_sl.2 ⟨c20, _, r20, _, rfl, rfl, own_k o20 (by omega), ?_⟩
  exact OwnS_nil.2 ⟨rfl, rfl⟩
set_option maxHeartbeats 1000000 in
theorem TUnit.mrep_flat {w : World} {K : Nat → Prop} {x : TUnit} {k : Int} {cs : List Value} (h : Rep w K (mkd k x.enc) cs) : ∃ (c4 : Value) (c5 : Value) (c6 : Value) (c9 : Value) (c16 : Value) (c17 : Value) (c18 : Value) (c19 : Value) (c20 : Value), cs = [.int .i64 (k), .int .i64 (k + 1), .int .i64 (k + 1 + 1), .int .i64 (k + 1 + 1 + 1), c4, c5, c6, .int .i64 (k + 1 + 1 + 1 + 1 + (cnts (x.fVars.map encS) : Nat) + (cnts (x.fWhere.map TBound.enc) : Nat) + (cnts (x.fParams.map TParam.enc) : Nat)), .string (mtext (k + 1 + 1 + 1 + 1 + (cnts (x.fVars.map encS) : Nat) + (cnts (x.fWhere.map TBound.enc) : Nat) + (cnts (x.fParams.map TParam.enc) : Nat) + 1)), c9, .int .i64 (k + 1 + 1 + 1 + 1 + (cnts (x.fVars.map encS) : Nat) + (cnts (x.fWhere.map TBound.enc) : Nat) + (cnts (x.fParams.map TParam.enc) : Nat) + 1 + 1 + (cnts (x.fResult.fArgs.map TType.enc) : Nat)), .string (mtext (k + 1 + 1 + 1 + 1 + (cnts (x.fVars.map encS) : Nat) + (cnts (x.fWhere.map TBound.enc) : Nat) + (cnts (x.fParams.map TParam.enc) : Nat) + 1 + 1 + (cnts (x.fResult.fArgs.map TType.enc) : Nat) + 1)), .string (mtext (k + 1 + 1 + 1 + 1 + (cnts (x.fVars.map encS) : Nat) + (cnts (x.fWhere.map TBound.enc) : Nat) + (cnts (x.fParams.map TParam.enc) : Nat) + 1 + 1 + (cnts (x.fResult.fArgs.map TType.enc) : Nat) + 1 + 1)), .int .i64 (k + 1 + 1 + 1 + 1 + (cnts (x.fVars.map encS) : Nat) + (cnts (x.fWhere.map TBound.enc) : Nat) + (cnts (x.fParams.map TParam.enc) : Nat) + 1 + 1 + (cnts (x.fResult.fArgs.map TType.enc) : Nat) + 1 + 1 + 1), .int .i64 (k + 1 + 1 + 1 + 1 + (cnts (x.fVars.map encS) : Nat) + (cnts (x.fWhere.map TBound.enc) : Nat) + (cnts (x.fParams.map TParam.enc) : Nat) + 1 + 1 + (cnts (x.fResult.fArgs.map TType.enc) : Nat) + 1 + 1 + 1 + 1), .string (mtext (k + 1 + 1 + 1 + 1 + (cnts (x.fVars.map encS) : Nat) + (cnts (x.fWhere.map TBound.enc) : Nat) + (cnts (x.fParams.map TParam.enc) : Nat) + 1 + 1 + (cnts (x.fResult.fArgs.map TType.enc) : Nat) + 1 + 1 + 1 + 1 + 1)), c16, c17, c18, c19, c20] ∧ Rep w K (.sl (mks (k + 1 + 1 + 1 + 1) (x.fVars.map encS))) [c4] ∧ Rep w K (.sl (mks (k + 1 + 1 + 1 + 1 + (cnts (x.fVars.map encS) : Nat)) (x.fWhere.map TBound.enc))) [c5] ∧ Rep w K (.sl (mks (k + 1 + 1 + 1 + 1 + (cnts (x.fVars.map encS) : Nat) + (cnts (x.fWhere.map TBound.enc) : Nat)) (x.fParams.map TParam.enc))) [c6] ∧ Rep w K (.sl (mks (k + 1 + 1 + 1 + 1 + (cnts (x.fVars.map encS) : Nat) + (cnts (x.fWhere.map TBound.enc) : Nat) + (cnts (x.fParams.map TParam.enc) : Nat) + 1 + 1) (x.fResult.fArgs.map TType.enc))) [c9] ∧ Rep w K (.sl (mks (k + 1 + 1 + 1 + 1 + (cnts (x.fVars.map encS) : Nat) + (cnts (x.fWhere.map TBound.enc) : Nat) + (cnts (x.fParams.map TParam.enc) : Nat) + 1 + 1 + (cnts (x.fResult.fArgs.map TType.enc) : Nat) + 1 + 1 + 1 + 1 + 1 + 1) (x.fBody.fType.fArgs.map TType.enc))) [c16] ∧ Rep w K (.sl (mks (k + 1 + 1 + 1 + 1 + (cnts (x.fVars.map encS) : Nat) + (cnts (x.fWhere.map TBound.enc) : Nat) + (cnts (x.fParams.map TParam.enc) : Nat) + 1 + 1 + (cnts (x.fResult.fArgs.map TType.enc) : Nat) + 1 + 1 + 1 + 1 + 1 + 1 + (cnts (x.fBody.fType.fArgs.map TType.enc) : Nat)) (x.fBody.fTypeArgs.map TType.enc))) [c17] ∧ Rep w K (.sl (mks (k + 1 + 1 + 1 + 1 + (cnts (x.fVars.map encS) : Nat) + (cnts (x.fWhere.map TBound.enc) : Nat) + (cnts (x.fParams.map TParam.enc) : Nat) + 1 + 1 + (cnts (x.fResult.fArgs.map TType.enc) : Nat) + 1 + 1 + 1 + 1 + 1 + 1 + (cnts (x.fBody.fType.fArgs.map TType.enc) : Nat) + (cnts (x.fBody.fTypeArgs.map TType.enc) : Nat)) (x.fBody.fEvidence.map TEvidence.enc))) [c18] ∧ Rep w K (.sl (mks (k + 1 + 1 + 1 + 1 + (cnts (x.fVars.map encS) : Nat) + (cnts (x.fWhere.map TBound.enc) : Nat) + (cnts (x.fParams.map TParam.enc) : Nat) + 1 + 1 + (cnts (x.fResult.fArgs.map TType.enc) : Nat) + 1 + 1 + 1 + 1 + 1 + 1 + (cnts (x.fBody.fType.fArgs.map TType.enc) : Nat) + (cnts (x.fBody.fTypeArgs.map TType.enc) : Nat) + (cnts (x.fBody.fEvidence.map TEvidence.enc) : Nat)) (x.fBody.fArgs.map TCore.enc))) [c19] ∧ Rep w K (.sl (mks (k + 1 + 1 + 1 + 1 + (cnts (x.fVars.map encS) : Nat) + (cnts (x.fWhere.map TBound.enc) : Nat) + (cnts (x.fParams.map TParam.enc) : Nat) + 1 + 1 + (cnts (x.fResult.fArgs.map TType.enc) : Nat) + 1 + 1 + 1 + 1 + 1 + 1 + (cnts (x.fBody.fType.fArgs.map TType.enc) : Nat) + (cnts (x.fBody.fTypeArgs.map TType.enc) : Nat) + (cnts (x.fBody.fEvidence.map TEvidence.enc) : Nat) + (cnts (x.fBody.fArgs.map TCore.enc) : Nat)) (x.fBody.fArms.map TCoreArm.enc))) [c20] := by
  rw [TUnit.flat] at h
  simp only [mkd, mks, mlit, encI, encS, cnt, cnts, Rep_st] at h
  obtain ⟨_, rfl, -, h⟩ := RepS_lf.1 h
  obtain ⟨_, rfl, -, h⟩ := RepS_lf.1 h
  obtain ⟨_, rfl, -, h⟩ := RepS_lf.1 h
  obtain ⟨_, rfl, -, h⟩ := RepS_lf.1 h
  obtain ⟨c4, _, rfl, o4, h⟩ := RepS_sl.1 h
  obtain ⟨c5, _, rfl, o5, h⟩ := RepS_sl.1 h
  obtain ⟨c6, _, rfl, o6, h⟩ := RepS_sl.1 h
  replace h := RepS_stc.1 h
  simp only [List.cons_append, List.nil_append] at h
  obtain ⟨_, rfl, -, h⟩ := RepS_lf.1 h
  obtain ⟨_, rfl, -, h⟩ := RepS_lf.1 h
  obtain ⟨c9, _, rfl, o9, h⟩ := RepS_sl.1 h
  replace h := RepS_stc.1 h
  simp only [List.cons_append, List.nil_append] at h
  obtain ⟨_, rfl, -, h⟩ := RepS_lf.1 h
  obtain ⟨_, rfl, -, h⟩ := RepS_lf.1 h
  obtain ⟨_, rfl, -, h⟩ := RepS_lf.1 h
  obtain ⟨_, rfl, -, h⟩ := RepS_lf.1 h
  replace h := RepS_stc.1 h
  simp only [List.cons_append, List.nil_append] at h
  obtain ⟨_, rfl, -, h⟩ := RepS_lf.1 h
  obtain ⟨_, rfl, -, h⟩ := RepS_lf.1 h
  obtain ⟨c16, _, rfl, o16, h⟩ := RepS_sl.1 h
  obtain ⟨c17, _, rfl, o17, h⟩ := RepS_sl.1 h
  obtain ⟨c18, _, rfl, o18, h⟩ := RepS_sl.1 h
  obtain ⟨c19, _, rfl, o19, h⟩ := RepS_sl.1 h
  obtain ⟨c20, _, rfl, o20, h⟩ := RepS_sl.1 h
  obtain rfl := RepS_nil.1 h
  exact ⟨c4, c5, c6, c9, c16, c17, c18, c19, c20, cons_eq (congrArg (Value.int .i64) (by omega)) (cons_eq (congrArg (Value.int .i64) (by omega)) (cons_eq (congrArg (Value.int .i64) (by omega)) (cons_eq (congrArg (Value.int .i64) (by omega)) (cons_eq (rfl) (cons_eq (rfl) (cons_eq (rfl) (cons_eq (congrArg (Value.int .i64) (by omega)) (cons_eq (congrArg (fun z => Value.string (mtext z)) (by omega)) (cons_eq (rfl) (cons_eq (congrArg (Value.int .i64) (by omega)) (cons_eq (congrArg (fun z => Value.string (mtext z)) (by omega)) (cons_eq (congrArg (fun z => Value.string (mtext z)) (by omega)) (cons_eq (congrArg (Value.int .i64) (by omega)) (cons_eq (congrArg (Value.int .i64) (by omega)) (cons_eq (congrArg (fun z => Value.string (mtext z)) (by omega)) (cons_eq (rfl) (cons_eq (rfl) (cons_eq (rfl) (cons_eq (rfl) (cons_eq (rfl) (rfl))))))))))))))))))))), rep_k o4 (by omega), rep_k o5 (by omega), rep_k o6 (by omega), rep_k o9 (by omega), rep_k o16 (by omega), rep_k o17 (by omega), rep_k o18 (by omega), rep_k o19 (by omega), rep_k o20 (by omega)⟩
theorem TParam.flat (x : TParam) : x.enc = .st [encS x.fName, .st [encI x.fType.fKind, encS x.fType.fName, (.sl (x.fType.fArgs.map TType.enc))]] := by
  simp only [TParam.enc_eq, TType.enc_eq]
theorem TParam.cnt_flat (x : TParam) : cnt x.enc = 1 + 1 + 1 + cnts (x.fType.fArgs.map TType.enc) := by
  rw [TParam.flat]
  simp only [encI, encS, cnt, cnts]
  omega
theorem TParam.own_flat {w : World} {x : TParam} {cs : List Value} {bs : List Nat} (h : Own w x.enc cs bs) : ∃ (c3 : Value) (r3 : List Nat), cs = [.string x.fName, .int .i64 x.fType.fKind, .string x.fType.fName, c3] ∧ bs = r3 ++ ([]) ∧ Own w (.sl (x.fType.fArgs.map TType.enc)) [c3] r3 := by
  rw [TParam.flat] at h
  simp only [encI, encS, Own_st] at h
  obtain ⟨_, rfl, -, h⟩ := OwnS_lf.1 h
  replace h := OwnS_stc.1 h
  simp only [List.cons_append, List.nil_append] at h
  obtain ⟨_, rfl, -, h⟩ := OwnS_lf.1 h
  obtain ⟨_, rfl, -, h⟩ := OwnS_lf.1 h
  obtain ⟨c3, _, r3, _, rfl, rfl, o3, h⟩ := OwnS_sl.1 h
  obtain ⟨rfl, rfl⟩ := OwnS_nil.1 h
  exact ⟨c3, r3, rfl, rfl, o3⟩
set_option maxHeartbeats 1000000 in
theorem TParam.mk_flat {w : World} {x : TParam} {k : Int} {c3 : Value} {r3 : List Nat} (h0 : 0 ≤ k) (h1 : k + (cnt x.enc : Nat) ≤ 4611686018427387904) (o3 : Own w (.sl (mks (k + 1 + 1 + 1) (x.fType.fArgs.map TType.enc))) [c3] r3) : Own w (mkd k x.enc) [.string (mtext (k)), .int .i64 (k + 1), .string (mtext (k + 1 + 1)), c3] (r3 ++ ([])) := by
  rw [TParam.cnt_flat] at h1
  rw [TParam.flat]
  simp only [mkd, mks, mlit, encI, encS, cnt, Own_st]
  refine OwnS_lf.2 ⟨_, cons_eq (congrArg (fun z => Value.string (mtext z)) (by omega)) rfl, mtext_size (by omega), ?_⟩
  refine OwnS_stc.2 ?_
  simp only [List.cons_append, List.nil_append]
  refine OwnS_lf.2 ⟨_, cons_eq (congrArg (Value.int .i64) (by omega)) rfl, inR_mk (by omega) (by omega), ?_⟩
  refine OwnS_lf.2 ⟨_, cons_eq (congrArg (fun z => Value.string (mtext z)) (by omega)) rfl, mtext_size (by omega), ?_⟩
  refine OwnS_sl.2 ⟨c3, _, r3, _, rfl, rfl, own_k o3 (by omega), ?_⟩
  exact OwnS_nil.2 ⟨rfl, rfl⟩
set_option maxHeartbeats 1000000 in
theorem TParam.mrep_flat {w : World} {K : Nat → Prop} {x : TParam} {k : Int} {cs : List Value} (h : Rep w K (mkd k x.enc) cs) : ∃ (c3 : Value), cs = [.string (mtext (k)), .int .i64 (k + 1), .string (mtext (k + 1 + 1)), c3] ∧ Rep w K (.sl (mks (k + 1 + 1 + 1) (x.fType.fArgs.map TType.enc))) [c3] := by
  rw [TParam.flat] at h
  simp only [mkd, mks, mlit, encI, encS, cnt, Rep_st] at h
  obtain ⟨_, rfl, -, h⟩ := RepS_lf.1 h
  replace h := RepS_stc.1 h
  simp only [List.cons_append, List.nil_append] at h
  obtain ⟨_, rfl, -, h⟩ := RepS_lf.1 h
  obtain ⟨_, rfl, -, h⟩ := RepS_lf.1 h
  obtain ⟨c3, _, rfl, o3, h⟩ := RepS_sl.1 h
  obtain rfl := RepS_nil.1 h
  exact ⟨c3, cons_eq (congrArg (fun z => Value.string (mtext z)) (by omega)) (cons_eq (congrArg (Value.int .i64) (by omega)) (cons_eq (congrArg (fun z => Value.string (mtext z)) (by omega)) (cons_eq (rfl) (rfl)))), rep_k o3 (by omega)⟩
theorem TBuiltPackage.flat (x : TBuiltPackage) : x.enc = .st [encS x.fName, encS x.fKey, (.sl (x.fUnits.map TUnit.enc)), (.sl (x.fErrors.map TUnitError.enc))] := by
  simp only [TBuiltPackage.enc_eq]
theorem TBuiltPackage.cnt_flat (x : TBuiltPackage) : cnt x.enc = 1 + 1 + cnts (x.fUnits.map TUnit.enc) + cnts (x.fErrors.map TUnitError.enc) := by
  rw [TBuiltPackage.flat]
  simp only [encS, cnt, cnts]
  omega
theorem TBuiltPackage.own_flat {w : World} {x : TBuiltPackage} {cs : List Value} {bs : List Nat} (h : Own w x.enc cs bs) : ∃ (c2 : Value) (c3 : Value) (r2 : List Nat) (r3 : List Nat), cs = [.string x.fName, .string x.fKey, c2, c3] ∧ bs = r2 ++ (r3 ++ ([])) ∧ Own w (.sl (x.fUnits.map TUnit.enc)) [c2] r2 ∧ Own w (.sl (x.fErrors.map TUnitError.enc)) [c3] r3 := by
  rw [TBuiltPackage.flat] at h
  simp only [encS, Own_st] at h
  obtain ⟨_, rfl, -, h⟩ := OwnS_lf.1 h
  obtain ⟨_, rfl, -, h⟩ := OwnS_lf.1 h
  obtain ⟨c2, _, r2, _, rfl, rfl, o2, h⟩ := OwnS_sl.1 h
  obtain ⟨c3, _, r3, _, rfl, rfl, o3, h⟩ := OwnS_sl.1 h
  obtain ⟨rfl, rfl⟩ := OwnS_nil.1 h
  exact ⟨c2, c3, r2, r3, rfl, rfl, o2, o3⟩
set_option maxHeartbeats 1000000 in
theorem TBuiltPackage.mk_flat {w : World} {x : TBuiltPackage} {k : Int} {c2 c3 : Value} {r2 r3 : List Nat} (_h0 : 0 ≤ k) (h1 : k + (cnt x.enc : Nat) ≤ 4611686018427387904) (o2 : Own w (.sl (mks (k + 1 + 1) (x.fUnits.map TUnit.enc))) [c2] r2) (o3 : Own w (.sl (mks (k + 1 + 1 + (cnts (x.fUnits.map TUnit.enc) : Nat)) (x.fErrors.map TUnitError.enc))) [c3] r3) : Own w (mkd k x.enc) [.string (mtext (k)), .string (mtext (k + 1)), c2, c3] (r2 ++ (r3 ++ ([]))) := by
  rw [TBuiltPackage.cnt_flat] at h1
  rw [TBuiltPackage.flat]
  simp only [mkd, mks, mlit, encS, cnt, Own_st]
  refine OwnS_lf.2 ⟨_, cons_eq (congrArg (fun z => Value.string (mtext z)) (by omega)) rfl, mtext_size (by omega), ?_⟩
  refine OwnS_lf.2 ⟨_, cons_eq (congrArg (fun z => Value.string (mtext z)) (by omega)) rfl, mtext_size (by omega), ?_⟩
  refine OwnS_sl.2 ⟨c2, _, r2, _, rfl, rfl, own_k o2 (by omega), ?_⟩
  refine OwnS_sl.2 ⟨c3, _, r3, _, rfl, rfl, own_k o3 (by omega), ?_⟩
  exact OwnS_nil.2 ⟨rfl, rfl⟩
set_option maxHeartbeats 1000000 in
theorem TBuiltPackage.mrep_flat {w : World} {K : Nat → Prop} {x : TBuiltPackage} {k : Int} {cs : List Value} (h : Rep w K (mkd k x.enc) cs) : ∃ (c2 : Value) (c3 : Value), cs = [.string (mtext (k)), .string (mtext (k + 1)), c2, c3] ∧ Rep w K (.sl (mks (k + 1 + 1) (x.fUnits.map TUnit.enc))) [c2] ∧ Rep w K (.sl (mks (k + 1 + 1 + (cnts (x.fUnits.map TUnit.enc) : Nat)) (x.fErrors.map TUnitError.enc))) [c3] := by
  rw [TBuiltPackage.flat] at h
  simp only [mkd, mks, mlit, encS, cnt, Rep_st] at h
  obtain ⟨_, rfl, -, h⟩ := RepS_lf.1 h
  obtain ⟨_, rfl, -, h⟩ := RepS_lf.1 h
  obtain ⟨c2, _, rfl, o2, h⟩ := RepS_sl.1 h
  obtain ⟨c3, _, rfl, o3, h⟩ := RepS_sl.1 h
  obtain rfl := RepS_nil.1 h
  exact ⟨c2, c3, cons_eq (congrArg (fun z => Value.string (mtext z)) (by omega)) (cons_eq (congrArg (fun z => Value.string (mtext z)) (by omega)) (cons_eq (rfl) (cons_eq (rfl) (rfl)))), rep_k o2 (by omega), rep_k o3 (by omega)⟩
theorem TCoreArm.flat (x : TCoreArm) : x.enc = .st [encS x.fConstructor, (.sl (x.fVars.map encS)), .st [encI x.fBody.fKind, encS x.fBody.fTrait, encS x.fBody.fName, encI x.fBody.fN, .st [encI x.fBody.fType.fKind, encS x.fBody.fType.fName, (.sl (x.fBody.fType.fArgs.map TType.enc))], (.sl (x.fBody.fTypeArgs.map TType.enc)), (.sl (x.fBody.fEvidence.map TEvidence.enc)), (.sl (x.fBody.fArgs.map TCore.enc)), (.sl (x.fBody.fArms.map TCoreArm.enc))]] := by
  simp only [TCoreArm.enc_eq, TCore.enc_eq, TType.enc_eq]
theorem TCoreArm.cnt_flat (x : TCoreArm) : cnt x.enc = 1 + cnts (x.fVars.map encS) + 1 + 1 + 1 + 1 + 1 + 1 + cnts (x.fBody.fType.fArgs.map TType.enc) + cnts (x.fBody.fTypeArgs.map TType.enc) + cnts (x.fBody.fEvidence.map TEvidence.enc) + cnts (x.fBody.fArgs.map TCore.enc) + cnts (x.fBody.fArms.map TCoreArm.enc) := by
  rw [TCoreArm.flat]
  simp only [encI, encS, cnt, cnts]
  omega
theorem TCoreArm.own_flat {w : World} {x : TCoreArm} {cs : List Value} {bs : List Nat} (h : Own w x.enc cs bs) : ∃ (c1 : Value) (c8 : Value) (c9 : Value) (c10 : Value) (c11 : Value) (c12 : Value) (r1 : List Nat) (r8 : List Nat) (r9 : List Nat) (r10 : List Nat) (r11 : List Nat) (r12 : List Nat), cs = [.string x.fConstructor, c1, .int .i64 x.fBody.fKind, .string x.fBody.fTrait, .string x.fBody.fName, .int .i64 x.fBody.fN, .int .i64 x.fBody.fType.fKind, .string x.fBody.fType.fName, c8, c9, c10, c11, c12] ∧ bs = r1 ++ (r8 ++ (r9 ++ (r10 ++ (r11 ++ (r12 ++ ([])))))) ∧ Own w (.sl (x.fVars.map encS)) [c1] r1 ∧ Own w (.sl (x.fBody.fType.fArgs.map TType.enc)) [c8] r8 ∧ Own w (.sl (x.fBody.fTypeArgs.map TType.enc)) [c9] r9 ∧ Own w (.sl (x.fBody.fEvidence.map TEvidence.enc)) [c10] r10 ∧ Own w (.sl (x.fBody.fArgs.map TCore.enc)) [c11] r11 ∧ Own w (.sl (x.fBody.fArms.map TCoreArm.enc)) [c12] r12 := by
  rw [TCoreArm.flat] at h
  simp only [encI, encS, Own_st] at h
  obtain ⟨_, rfl, -, h⟩ := OwnS_lf.1 h
  obtain ⟨c1, _, r1, _, rfl, rfl, o1, h⟩ := OwnS_sl.1 h
  replace h := OwnS_stc.1 h
  simp only [List.cons_append, List.nil_append] at h
  obtain ⟨_, rfl, -, h⟩ := OwnS_lf.1 h
  obtain ⟨_, rfl, -, h⟩ := OwnS_lf.1 h
  obtain ⟨_, rfl, -, h⟩ := OwnS_lf.1 h
  obtain ⟨_, rfl, -, h⟩ := OwnS_lf.1 h
  replace h := OwnS_stc.1 h
  simp only [List.cons_append, List.nil_append] at h
  obtain ⟨_, rfl, -, h⟩ := OwnS_lf.1 h
  obtain ⟨_, rfl, -, h⟩ := OwnS_lf.1 h
  obtain ⟨c8, _, r8, _, rfl, rfl, o8, h⟩ := OwnS_sl.1 h
  obtain ⟨c9, _, r9, _, rfl, rfl, o9, h⟩ := OwnS_sl.1 h
  obtain ⟨c10, _, r10, _, rfl, rfl, o10, h⟩ := OwnS_sl.1 h
  obtain ⟨c11, _, r11, _, rfl, rfl, o11, h⟩ := OwnS_sl.1 h
  obtain ⟨c12, _, r12, _, rfl, rfl, o12, h⟩ := OwnS_sl.1 h
  obtain ⟨rfl, rfl⟩ := OwnS_nil.1 h
  exact ⟨c1, c8, c9, c10, c11, c12, r1, r8, r9, r10, r11, r12, rfl, rfl, o1, o8, o9, o10, o11, o12⟩
set_option maxHeartbeats 1000000 in
theorem TCoreArm.mk_flat {w : World} {x : TCoreArm} {k : Int} {c1 c8 c9 c10 c11 c12 : Value} {r1 r8 r9 r10 r11 r12 : List Nat} (h0 : 0 ≤ k) (h1 : k + (cnt x.enc : Nat) ≤ 4611686018427387904) (o1 : Own w (.sl (mks (k + 1) (x.fVars.map encS))) [c1] r1) (o8 : Own w (.sl (mks (k + 1 + (cnts (x.fVars.map encS) : Nat) + 1 + 1 + 1 + 1 + 1 + 1) (x.fBody.fType.fArgs.map TType.enc))) [c8] r8) (o9 : Own w (.sl (mks (k + 1 + (cnts (x.fVars.map encS) : Nat) + 1 + 1 + 1 + 1 + 1 + 1 + (cnts (x.fBody.fType.fArgs.map TType.enc) : Nat)) (x.fBody.fTypeArgs.map TType.enc))) [c9] r9) (o10 : Own w (.sl (mks (k + 1 + (cnts (x.fVars.map encS) : Nat) + 1 + 1 + 1 + 1 + 1 + 1 + (cnts (x.fBody.fType.fArgs.map TType.enc) : Nat) + (cnts (x.fBody.fTypeArgs.map TType.enc) : Nat)) (x.fBody.fEvidence.map TEvidence.enc))) [c10] r10) (o11 : Own w (.sl (mks (k + 1 + (cnts (x.fVars.map encS) : Nat) + 1 + 1 + 1 + 1 + 1 + 1 + (cnts (x.fBody.fType.fArgs.map TType.enc) : Nat) + (cnts (x.fBody.fTypeArgs.map TType.enc) : Nat) + (cnts (x.fBody.fEvidence.map TEvidence.enc) : Nat)) (x.fBody.fArgs.map TCore.enc))) [c11] r11) (o12 : Own w (.sl (mks (k + 1 + (cnts (x.fVars.map encS) : Nat) + 1 + 1 + 1 + 1 + 1 + 1 + (cnts (x.fBody.fType.fArgs.map TType.enc) : Nat) + (cnts (x.fBody.fTypeArgs.map TType.enc) : Nat) + (cnts (x.fBody.fEvidence.map TEvidence.enc) : Nat) + (cnts (x.fBody.fArgs.map TCore.enc) : Nat)) (x.fBody.fArms.map TCoreArm.enc))) [c12] r12) : Own w (mkd k x.enc) [.string (mtext (k)), c1, .int .i64 (k + 1 + (cnts (x.fVars.map encS) : Nat)), .string (mtext (k + 1 + (cnts (x.fVars.map encS) : Nat) + 1)), .string (mtext (k + 1 + (cnts (x.fVars.map encS) : Nat) + 1 + 1)), .int .i64 (k + 1 + (cnts (x.fVars.map encS) : Nat) + 1 + 1 + 1), .int .i64 (k + 1 + (cnts (x.fVars.map encS) : Nat) + 1 + 1 + 1 + 1), .string (mtext (k + 1 + (cnts (x.fVars.map encS) : Nat) + 1 + 1 + 1 + 1 + 1)), c8, c9, c10, c11, c12] (r1 ++ (r8 ++ (r9 ++ (r10 ++ (r11 ++ (r12 ++ ([]))))))) := by
  rw [TCoreArm.cnt_flat] at h1
  rw [TCoreArm.flat]
  simp only [mkd, mks, mlit, encI, encS, cnt, cnts, Own_st]
  refine OwnS_lf.2 ⟨_, cons_eq (congrArg (fun z => Value.string (mtext z)) (by omega)) rfl, mtext_size (by omega), ?_⟩
  refine OwnS_sl.2 ⟨c1, _, r1, _, rfl, rfl, own_k o1 (by omega), ?_⟩
  refine OwnS_stc.2 ?_
  simp only [List.cons_append, List.nil_append]
  refine OwnS_lf.2 ⟨_, cons_eq (congrArg (Value.int .i64) (by omega)) rfl, inR_mk (by omega) (by omega), ?_⟩
  refine OwnS_lf.2 ⟨_, cons_eq (congrArg (fun z => Value.string (mtext z)) (by omega)) rfl, mtext_size (by omega), ?_⟩
  refine OwnS_lf.2 ⟨_, cons_eq (congrArg (fun z => Value.string (mtext z)) (by omega)) rfl, mtext_size (by omega), ?_⟩
  refine OwnS_lf.2 ⟨_, cons_eq (congrArg (Value.int .i64) (by omega)) rfl, inR_mk (by omega) (by omega), ?_⟩
  refine OwnS_stc.2 ?_
  simp only [List.cons_append, List.nil_append]
  refine OwnS_lf.2 ⟨_, cons_eq (congrArg (Value.int .i64) (by omega)) rfl, inR_mk (by omega) (by omega), ?_⟩
  refine OwnS_lf.2 ⟨_, cons_eq (congrArg (fun z => Value.string (mtext z)) (by omega)) rfl, mtext_size (by omega), ?_⟩
  refine OwnS_sl.2 ⟨c8, _, r8, _, rfl, rfl, own_k o8 (by omega), ?_⟩
  refine OwnS_sl.2 ⟨c9, _, r9, _, rfl, rfl, own_k o9 (by omega), ?_⟩
  refine OwnS_sl.2 ⟨c10, _, r10, _, rfl, rfl, own_k o10 (by omega), ?_⟩
  refine OwnS_sl.2 ⟨c11, _, r11, _, rfl, rfl, own_k o11 (by omega), ?_⟩
  refine OwnS_sl.2 ⟨c12, _, r12, _, rfl, rfl, own_k o12 (by omega), ?_⟩
  exact OwnS_nil.2 ⟨rfl, rfl⟩
set_option maxHeartbeats 1000000 in
theorem TCoreArm.mrep_flat {w : World} {K : Nat → Prop} {x : TCoreArm} {k : Int} {cs : List Value} (h : Rep w K (mkd k x.enc) cs) : ∃ (c1 : Value) (c8 : Value) (c9 : Value) (c10 : Value) (c11 : Value) (c12 : Value), cs = [.string (mtext (k)), c1, .int .i64 (k + 1 + (cnts (x.fVars.map encS) : Nat)), .string (mtext (k + 1 + (cnts (x.fVars.map encS) : Nat) + 1)), .string (mtext (k + 1 + (cnts (x.fVars.map encS) : Nat) + 1 + 1)), .int .i64 (k + 1 + (cnts (x.fVars.map encS) : Nat) + 1 + 1 + 1), .int .i64 (k + 1 + (cnts (x.fVars.map encS) : Nat) + 1 + 1 + 1 + 1), .string (mtext (k + 1 + (cnts (x.fVars.map encS) : Nat) + 1 + 1 + 1 + 1 + 1)), c8, c9, c10, c11, c12] ∧ Rep w K (.sl (mks (k + 1) (x.fVars.map encS))) [c1] ∧ Rep w K (.sl (mks (k + 1 + (cnts (x.fVars.map encS) : Nat) + 1 + 1 + 1 + 1 + 1 + 1) (x.fBody.fType.fArgs.map TType.enc))) [c8] ∧ Rep w K (.sl (mks (k + 1 + (cnts (x.fVars.map encS) : Nat) + 1 + 1 + 1 + 1 + 1 + 1 + (cnts (x.fBody.fType.fArgs.map TType.enc) : Nat)) (x.fBody.fTypeArgs.map TType.enc))) [c9] ∧ Rep w K (.sl (mks (k + 1 + (cnts (x.fVars.map encS) : Nat) + 1 + 1 + 1 + 1 + 1 + 1 + (cnts (x.fBody.fType.fArgs.map TType.enc) : Nat) + (cnts (x.fBody.fTypeArgs.map TType.enc) : Nat)) (x.fBody.fEvidence.map TEvidence.enc))) [c10] ∧ Rep w K (.sl (mks (k + 1 + (cnts (x.fVars.map encS) : Nat) + 1 + 1 + 1 + 1 + 1 + 1 + (cnts (x.fBody.fType.fArgs.map TType.enc) : Nat) + (cnts (x.fBody.fTypeArgs.map TType.enc) : Nat) + (cnts (x.fBody.fEvidence.map TEvidence.enc) : Nat)) (x.fBody.fArgs.map TCore.enc))) [c11] ∧ Rep w K (.sl (mks (k + 1 + (cnts (x.fVars.map encS) : Nat) + 1 + 1 + 1 + 1 + 1 + 1 + (cnts (x.fBody.fType.fArgs.map TType.enc) : Nat) + (cnts (x.fBody.fTypeArgs.map TType.enc) : Nat) + (cnts (x.fBody.fEvidence.map TEvidence.enc) : Nat) + (cnts (x.fBody.fArgs.map TCore.enc) : Nat)) (x.fBody.fArms.map TCoreArm.enc))) [c12] := by
  rw [TCoreArm.flat] at h
  simp only [mkd, mks, mlit, encI, encS, cnt, cnts, Rep_st] at h
  obtain ⟨_, rfl, -, h⟩ := RepS_lf.1 h
  obtain ⟨c1, _, rfl, o1, h⟩ := RepS_sl.1 h
  replace h := RepS_stc.1 h
  simp only [List.cons_append, List.nil_append] at h
  obtain ⟨_, rfl, -, h⟩ := RepS_lf.1 h
  obtain ⟨_, rfl, -, h⟩ := RepS_lf.1 h
  obtain ⟨_, rfl, -, h⟩ := RepS_lf.1 h
  obtain ⟨_, rfl, -, h⟩ := RepS_lf.1 h
  replace h := RepS_stc.1 h
  simp only [List.cons_append, List.nil_append] at h
  obtain ⟨_, rfl, -, h⟩ := RepS_lf.1 h
  obtain ⟨_, rfl, -, h⟩ := RepS_lf.1 h
  obtain ⟨c8, _, rfl, o8, h⟩ := RepS_sl.1 h
  obtain ⟨c9, _, rfl, o9, h⟩ := RepS_sl.1 h
  obtain ⟨c10, _, rfl, o10, h⟩ := RepS_sl.1 h
  obtain ⟨c11, _, rfl, o11, h⟩ := RepS_sl.1 h
  obtain ⟨c12, _, rfl, o12, h⟩ := RepS_sl.1 h
  obtain rfl := RepS_nil.1 h
  exact ⟨c1, c8, c9, c10, c11, c12, cons_eq (congrArg (fun z => Value.string (mtext z)) (by omega)) (cons_eq (rfl) (cons_eq (congrArg (Value.int .i64) (by omega)) (cons_eq (congrArg (fun z => Value.string (mtext z)) (by omega)) (cons_eq (congrArg (fun z => Value.string (mtext z)) (by omega)) (cons_eq (congrArg (Value.int .i64) (by omega)) (cons_eq (congrArg (Value.int .i64) (by omega)) (cons_eq (congrArg (fun z => Value.string (mtext z)) (by omega)) (cons_eq (rfl) (cons_eq (rfl) (cons_eq (rfl) (cons_eq (rfl) (cons_eq (rfl) (rfl))))))))))))), rep_k o1 (by omega), rep_k o8 (by omega), rep_k o9 (by omega), rep_k o10 (by omega), rep_k o11 (by omega), rep_k o12 (by omega)⟩
theorem TType.flat (x : TType) : x.enc = .st [encI x.fKind, encS x.fName, (.sl (x.fArgs.map TType.enc))] := by
  simp only [TType.enc_eq]
theorem TType.cnt_flat (x : TType) : cnt x.enc = 1 + 1 + cnts (x.fArgs.map TType.enc) := by
  rw [TType.flat]
  simp only [encI, encS, cnt, cnts]
  omega
theorem TType.own_flat {w : World} {x : TType} {cs : List Value} {bs : List Nat} (h : Own w x.enc cs bs) : ∃ (c2 : Value) (r2 : List Nat), cs = [.int .i64 x.fKind, .string x.fName, c2] ∧ bs = r2 ++ ([]) ∧ Own w (.sl (x.fArgs.map TType.enc)) [c2] r2 := by
  rw [TType.flat] at h
  simp only [encI, encS, Own_st] at h
  obtain ⟨_, rfl, -, h⟩ := OwnS_lf.1 h
  obtain ⟨_, rfl, -, h⟩ := OwnS_lf.1 h
  obtain ⟨c2, _, r2, _, rfl, rfl, o2, h⟩ := OwnS_sl.1 h
  obtain ⟨rfl, rfl⟩ := OwnS_nil.1 h
  exact ⟨c2, r2, rfl, rfl, o2⟩
set_option maxHeartbeats 1000000 in
theorem TType.mk_flat {w : World} {x : TType} {k : Int} {c2 : Value} {r2 : List Nat} (h0 : 0 ≤ k) (h1 : k + (cnt x.enc : Nat) ≤ 4611686018427387904) (o2 : Own w (.sl (mks (k + 1 + 1) (x.fArgs.map TType.enc))) [c2] r2) : Own w (mkd k x.enc) [.int .i64 (k), .string (mtext (k + 1)), c2] (r2 ++ ([])) := by
  rw [TType.cnt_flat] at h1
  rw [TType.flat]
  simp only [mkd, mks, mlit, encI, encS, cnt, Own_st]
  refine OwnS_lf.2 ⟨_, cons_eq (congrArg (Value.int .i64) (by omega)) rfl, inR_mk (by omega) (by omega), ?_⟩
  refine OwnS_lf.2 ⟨_, cons_eq (congrArg (fun z => Value.string (mtext z)) (by omega)) rfl, mtext_size (by omega), ?_⟩
  refine OwnS_sl.2 ⟨c2, _, r2, _, rfl, rfl, own_k o2 (by omega), ?_⟩
  exact OwnS_nil.2 ⟨rfl, rfl⟩
set_option maxHeartbeats 1000000 in
theorem TType.mrep_flat {w : World} {K : Nat → Prop} {x : TType} {k : Int} {cs : List Value} (h : Rep w K (mkd k x.enc) cs) : ∃ (c2 : Value), cs = [.int .i64 (k), .string (mtext (k + 1)), c2] ∧ Rep w K (.sl (mks (k + 1 + 1) (x.fArgs.map TType.enc))) [c2] := by
  rw [TType.flat] at h
  simp only [mkd, mks, mlit, encI, encS, cnt, Rep_st] at h
  obtain ⟨_, rfl, -, h⟩ := RepS_lf.1 h
  obtain ⟨_, rfl, -, h⟩ := RepS_lf.1 h
  obtain ⟨c2, _, rfl, o2, h⟩ := RepS_sl.1 h
  obtain rfl := RepS_nil.1 h
  exact ⟨c2, cons_eq (congrArg (Value.int .i64) (by omega)) (cons_eq (congrArg (fun z => Value.string (mtext z)) (by omega)) (cons_eq (rfl) (rfl))), rep_k o2 (by omega)⟩
theorem TBound.flat (x : TBound) : x.enc = .st [encS x.fTrait, .st [encI x.fType.fKind, encS x.fType.fName, (.sl (x.fType.fArgs.map TType.enc))]] := by
  simp only [TBound.enc_eq, TType.enc_eq]
theorem TBound.cnt_flat (x : TBound) : cnt x.enc = 1 + 1 + 1 + cnts (x.fType.fArgs.map TType.enc) := by
  rw [TBound.flat]
  simp only [encI, encS, cnt, cnts]
  omega
theorem TBound.own_flat {w : World} {x : TBound} {cs : List Value} {bs : List Nat} (h : Own w x.enc cs bs) : ∃ (c3 : Value) (r3 : List Nat), cs = [.string x.fTrait, .int .i64 x.fType.fKind, .string x.fType.fName, c3] ∧ bs = r3 ++ ([]) ∧ Own w (.sl (x.fType.fArgs.map TType.enc)) [c3] r3 := by
  rw [TBound.flat] at h
  simp only [encI, encS, Own_st] at h
  obtain ⟨_, rfl, -, h⟩ := OwnS_lf.1 h
  replace h := OwnS_stc.1 h
  simp only [List.cons_append, List.nil_append] at h
  obtain ⟨_, rfl, -, h⟩ := OwnS_lf.1 h
  obtain ⟨_, rfl, -, h⟩ := OwnS_lf.1 h
  obtain ⟨c3, _, r3, _, rfl, rfl, o3, h⟩ := OwnS_sl.1 h
  obtain ⟨rfl, rfl⟩ := OwnS_nil.1 h
  exact ⟨c3, r3, rfl, rfl, o3⟩
set_option maxHeartbeats 1000000 in
theorem TBound.mk_flat {w : World} {x : TBound} {k : Int} {c3 : Value} {r3 : List Nat} (h0 : 0 ≤ k) (h1 : k + (cnt x.enc : Nat) ≤ 4611686018427387904) (o3 : Own w (.sl (mks (k + 1 + 1 + 1) (x.fType.fArgs.map TType.enc))) [c3] r3) : Own w (mkd k x.enc) [.string (mtext (k)), .int .i64 (k + 1), .string (mtext (k + 1 + 1)), c3] (r3 ++ ([])) := by
  rw [TBound.cnt_flat] at h1
  rw [TBound.flat]
  simp only [mkd, mks, mlit, encI, encS, cnt, Own_st]
  refine OwnS_lf.2 ⟨_, cons_eq (congrArg (fun z => Value.string (mtext z)) (by omega)) rfl, mtext_size (by omega), ?_⟩
  refine OwnS_stc.2 ?_
  simp only [List.cons_append, List.nil_append]
  refine OwnS_lf.2 ⟨_, cons_eq (congrArg (Value.int .i64) (by omega)) rfl, inR_mk (by omega) (by omega), ?_⟩
  refine OwnS_lf.2 ⟨_, cons_eq (congrArg (fun z => Value.string (mtext z)) (by omega)) rfl, mtext_size (by omega), ?_⟩
  refine OwnS_sl.2 ⟨c3, _, r3, _, rfl, rfl, own_k o3 (by omega), ?_⟩
  exact OwnS_nil.2 ⟨rfl, rfl⟩
set_option maxHeartbeats 1000000 in
theorem TBound.mrep_flat {w : World} {K : Nat → Prop} {x : TBound} {k : Int} {cs : List Value} (h : Rep w K (mkd k x.enc) cs) : ∃ (c3 : Value), cs = [.string (mtext (k)), .int .i64 (k + 1), .string (mtext (k + 1 + 1)), c3] ∧ Rep w K (.sl (mks (k + 1 + 1 + 1) (x.fType.fArgs.map TType.enc))) [c3] := by
  rw [TBound.flat] at h
  simp only [mkd, mks, mlit, encI, encS, cnt, Rep_st] at h
  obtain ⟨_, rfl, -, h⟩ := RepS_lf.1 h
  replace h := RepS_stc.1 h
  simp only [List.cons_append, List.nil_append] at h
  obtain ⟨_, rfl, -, h⟩ := RepS_lf.1 h
  obtain ⟨_, rfl, -, h⟩ := RepS_lf.1 h
  obtain ⟨c3, _, rfl, o3, h⟩ := RepS_sl.1 h
  obtain rfl := RepS_nil.1 h
  exact ⟨c3, cons_eq (congrArg (fun z => Value.string (mtext z)) (by omega)) (cons_eq (congrArg (Value.int .i64) (by omega)) (cons_eq (congrArg (fun z => Value.string (mtext z)) (by omega)) (cons_eq (rfl) (rfl)))), rep_k o3 (by omega)⟩
theorem TInstanceRef.tcnt_eq (x : TInstanceRef) : tcnt x.enc = 0 := by
  rw [TInstanceRef.enc_eq]
  simp only [tcnt, tcnts, encI]
theorem TInstanceRef.tmk_id (x : TInstanceRef) (k : Int) : tmk k x.enc = x.enc := by
  rw [TInstanceRef.enc_eq]
  simp only [tmk, tmks, encI]
theorem TEvidence.tcnt_eq (x : TEvidence) : tcnt x.enc = cnts (x.fArgs.map TEvidence.enc) := by
  rw [TEvidence.enc_eq]
  simp only [tcnt, tcnts, encI, TInstanceRef.tcnt_eq]
  omega
theorem TEvidence.own_open {w : World} {x : TEvidence} {cs : List Value} {bs : List Nat} (h : Own w x.enc cs bs) : ∃ (c2 : Value) (c3 : Value) (c4 : Value) (r2 : List Nat) (r4 : List Nat), cs = [.int .i64 x.fKind, .int .i64 x.fN, c2, c3, c4] ∧ bs = r2 ++ (r4 ++ ([])) ∧ InR x.fKind ∧ InR x.fN ∧ Own w x.fAt.enc [c2, c3] r2 ∧ Own w (.sl (x.fArgs.map TEvidence.enc)) [c4] r4 := by
  rw [TEvidence.enc_eq] at h
  simp only [Own_st, encI] at h
  obtain ⟨_, rfl, k0, h⟩ := OwnS_lf.1 h
  obtain ⟨_, rfl, k1, h⟩ := OwnS_lf.1 h
  obtain ⟨u2, _, r2, _, rfl, rfl, o2, h⟩ := OwnS_cons.1 h
  obtain ⟨u4, _, r4, _, rfl, rfl, o4, h⟩ := OwnS_cons.1 h
  obtain ⟨rfl, rfl⟩ := OwnS_nil.1 h
  obtain ⟨c2, c3, rfl⟩ := len2 ((Rep.length (K := fun _ => True) _ _ (Own.rep _ _ _ o2 (fun _ _ => trivial))).trans (TInstanceRef.width _))
  obtain ⟨c4, rfl⟩ := own_one o4
  exact ⟨c2, c3, c4, r2, r4, rfl, rfl, k0, k1, o2, o4⟩
set_option maxHeartbeats 1000000 in
theorem TEvidence.tmk_own {w : World} {x : TEvidence} {k : Int} {c2 c3 c4 : Value} {r2 r4 : List Nat} (k0 : InR x.fKind) (k1 : InR x.fN) (o2 : Own w x.fAt.enc [c2, c3] r2) (o4 : Own w (.sl (mks (k) (x.fArgs.map TEvidence.enc))) [c4] r4) : Own w (tmk k x.enc) [.int .i64 x.fKind, .int .i64 x.fN, c2, c3, c4] (r2 ++ (r4 ++ ([]))) := by
  rw [TEvidence.enc_eq]
  simp only [tmk, tmks, encI, TInstanceRef.tmk_id, TInstanceRef.tcnt_eq, tcnt, Own_st]
  refine OwnS_lf.2 ⟨_, rfl, k0, ?_⟩
  refine OwnS_lf.2 ⟨_, rfl, k1, ?_⟩
  refine OwnS_cons.2 ⟨[c2, c3], _, r2, _, rfl, rfl, o2, ?_⟩
  refine OwnS_cons.2 ⟨[c4], _, r4, _, rfl, rfl, (own_k o4 (by omega)), ?_⟩
  exact OwnS_nil.2 ⟨rfl, rfl⟩
set_option maxHeartbeats 1000000 in
theorem TEvidence.tmrep_open {w : World} {K : Nat → Prop} {x : TEvidence} {k : Int} {cs : List Value} (h : Rep w K (tmk k x.enc) cs) : ∃ (c2 : Value) (c3 : Value) (c4 : Value), cs = [.int .i64 x.fKind, .int .i64 x.fN, c2, c3, c4] ∧ Rep w K (.sl (mks (k) (x.fArgs.map TEvidence.enc))) [c4] := by
  rw [TEvidence.enc_eq] at h
  simp only [tmk, tmks, encI, TInstanceRef.tmk_id, TInstanceRef.tcnt_eq, tcnt, Rep_st] at h
  obtain ⟨_, rfl, -, h⟩ := RepS_lf.1 h
  obtain ⟨_, rfl, -, h⟩ := RepS_lf.1 h
  obtain ⟨u2, _, rfl, o2, h⟩ := RepS_cons.1 h
  obtain ⟨u4, _, rfl, o4, h⟩ := RepS_cons.1 h
  obtain rfl := RepS_nil.1 h
  obtain ⟨c2, c3, rfl⟩ := len2 ((Rep.length _ _ o2).trans (TInstanceRef.width _))
  obtain ⟨c4, rfl⟩ := rep_one o4
  exact ⟨c2, c3, c4, rfl, (rep_k o4 (by omega))⟩
theorem TType.tcnt_eq (x : TType) : tcnt x.enc = cnts (x.fArgs.map TType.enc) := by
  rw [TType.enc_eq]
  simp only [tcnt, tcnts, encI, encS]
  omega
theorem TType.own_open {w : World} {x : TType} {cs : List Value} {bs : List Nat} (h : Own w x.enc cs bs) : ∃ (c2 : Value) (r2 : List Nat), cs = [.int .i64 x.fKind, .string x.fName, c2] ∧ bs = r2 ++ ([]) ∧ InR x.fKind ∧ x.fName.size ≤ maxLen ∧ Own w (.sl (x.fArgs.map TType.enc)) [c2] r2 := by
  rw [TType.enc_eq] at h
  simp only [Own_st, encI, encS] at h
  obtain ⟨_, rfl, k0, h⟩ := OwnS_lf.1 h
  obtain ⟨_, rfl, k1, h⟩ := OwnS_lf.1 h
  obtain ⟨u2, _, r2, _, rfl, rfl, o2, h⟩ := OwnS_cons.1 h
  obtain ⟨rfl, rfl⟩ := OwnS_nil.1 h
  obtain ⟨c2, rfl⟩ := own_one o2
  exact ⟨c2, r2, rfl, rfl, k0, k1, o2⟩
set_option maxHeartbeats 1000000 in
theorem TType.tmk_own {w : World} {x : TType} {k : Int} {c2 : Value} {r2 : List Nat} (k0 : InR x.fKind) (k1 : x.fName.size ≤ maxLen) (o2 : Own w (.sl (mks (k) (x.fArgs.map TType.enc))) [c2] r2) : Own w (tmk k x.enc) [.int .i64 x.fKind, .string x.fName, c2] (r2 ++ ([])) := by
  rw [TType.enc_eq]
  simp only [tmk, tmks, encI, encS, tcnt, Own_st]
  refine OwnS_lf.2 ⟨_, rfl, k0, ?_⟩
  refine OwnS_lf.2 ⟨_, rfl, k1, ?_⟩
  refine OwnS_cons.2 ⟨[c2], _, r2, _, rfl, rfl, (own_k o2 (by omega)), ?_⟩
  exact OwnS_nil.2 ⟨rfl, rfl⟩
set_option maxHeartbeats 1000000 in
theorem TType.tmrep_open {w : World} {K : Nat → Prop} {x : TType} {k : Int} {cs : List Value} (h : Rep w K (tmk k x.enc) cs) : ∃ (c2 : Value), cs = [.int .i64 x.fKind, .string x.fName, c2] ∧ Rep w K (.sl (mks (k) (x.fArgs.map TType.enc))) [c2] := by
  rw [TType.enc_eq] at h
  simp only [tmk, tmks, encI, encS, tcnt, Rep_st] at h
  obtain ⟨_, rfl, -, h⟩ := RepS_lf.1 h
  obtain ⟨_, rfl, -, h⟩ := RepS_lf.1 h
  obtain ⟨u2, _, rfl, o2, h⟩ := RepS_cons.1 h
  obtain rfl := RepS_nil.1 h
  obtain ⟨c2, rfl⟩ := rep_one o2
  exact ⟨c2, rfl, (rep_k o2 (by omega))⟩
theorem TBound.tcnt_eq (x : TBound) : tcnt x.enc = tcnt x.fType.enc := by
  rw [TBound.enc_eq]
  simp only [tcnt, tcnts, encS]
  omega
theorem TBound.own_open {w : World} {x : TBound} {cs : List Value} {bs : List Nat} (h : Own w x.enc cs bs) : ∃ (c1 : Value) (c2 : Value) (c3 : Value) (r1 : List Nat), cs = [.string x.fTrait, c1, c2, c3] ∧ bs = r1 ++ ([]) ∧ x.fTrait.size ≤ maxLen ∧ Own w x.fType.enc [c1, c2, c3] r1 := by
  rw [TBound.enc_eq] at h
  simp only [Own_st, encS] at h
  obtain ⟨_, rfl, k0, h⟩ := OwnS_lf.1 h
  obtain ⟨u1, _, r1, _, rfl, rfl, o1, h⟩ := OwnS_cons.1 h
  obtain ⟨rfl, rfl⟩ := OwnS_nil.1 h
  obtain ⟨c1, c2, c3, rfl⟩ := len3 ((Rep.length (K := fun _ => True) _ _ (Own.rep _ _ _ o1 (fun _ _ => trivial))).trans (TType.width _))
  exact ⟨c1, c2, c3, r1, rfl, rfl, k0, o1⟩
set_option maxHeartbeats 1000000 in
theorem TBound.tmk_own {w : World} {x : TBound} {k : Int} {c1 c2 c3 : Value} {r1 : List Nat} (k0 : x.fTrait.size ≤ maxLen) (o1 : Own w (tmk (k) x.fType.enc) [c1, c2, c3] r1) : Own w (tmk k x.enc) [.string x.fTrait, c1, c2, c3] (r1 ++ ([])) := by
  rw [TBound.enc_eq]
  simp only [tmk, tmks, encS, tcnt, Own_st]
  refine OwnS_lf.2 ⟨_, rfl, k0, ?_⟩
  refine OwnS_cons.2 ⟨[c1, c2, c3], _, r1, _, rfl, rfl, (own_tk o1 (by omega)), ?_⟩
  exact OwnS_nil.2 ⟨rfl, rfl⟩
set_option maxHeartbeats 1000000 in
theorem TBound.tmrep_open {w : World} {K : Nat → Prop} {x : TBound} {k : Int} {cs : List Value} (h : Rep w K (tmk k x.enc) cs) : ∃ (c1 : Value) (c2 : Value) (c3 : Value), cs = [.string x.fTrait, c1, c2, c3] ∧ Rep w K (tmk (k) x.fType.enc) [c1, c2, c3] := by
  rw [TBound.enc_eq] at h
  simp only [tmk, tmks, encS, tcnt, Rep_st] at h
  obtain ⟨_, rfl, -, h⟩ := RepS_lf.1 h
  obtain ⟨u1, _, rfl, o1, h⟩ := RepS_cons.1 h
  obtain rfl := RepS_nil.1 h
  obtain ⟨c1, c2, c3, rfl⟩ := len3 ((Rep.length _ _ o1).trans ((tmk_width _ _).trans (TType.width _)))
  exact ⟨c1, c2, c3, rfl, (rep_tk o1 (by omega))⟩
theorem TCore.tcnt_eq (x : TCore) : tcnt x.enc = tcnt x.fType.enc + cnts (x.fTypeArgs.map TType.enc) + cnts (x.fEvidence.map TEvidence.enc) + cnts (x.fArgs.map TCore.enc) + cnts (x.fArms.map TCoreArm.enc) := by
  rw [TCore.enc_eq]
  simp only [tcnt, tcnts, encI, encS]
  omega
theorem TCore.own_open {w : World} {x : TCore} {cs : List Value} {bs : List Nat} (h : Own w x.enc cs bs) : ∃ (c4 : Value) (c5 : Value) (c6 : Value) (c7 : Value) (c8 : Value) (c9 : Value) (c10 : Value) (r4 : List Nat) (r7 : List Nat) (r8 : List Nat) (r9 : List Nat) (r10 : List Nat), cs = [.int .i64 x.fKind, .string x.fTrait, .string x.fName, .int .i64 x.fN, c4, c5, c6, c7, c8, c9, c10] ∧ bs = r4 ++ (r7 ++ (r8 ++ (r9 ++ (r10 ++ ([]))))) ∧ InR x.fKind ∧ x.fTrait.size ≤ maxLen ∧ x.fName.size ≤ maxLen ∧ InR x.fN ∧ Own w x.fType.enc [c4, c5, c6] r4 ∧ Own w (.sl (x.fTypeArgs.map TType.enc)) [c7] r7 ∧ Own w (.sl (x.fEvidence.map TEvidence.enc)) [c8] r8 ∧ Own w (.sl (x.fArgs.map TCore.enc)) [c9] r9 ∧ Own w (.sl (x.fArms.map TCoreArm.enc)) [c10] r10 := by
  rw [TCore.enc_eq] at h
  simp only [Own_st, encI, encS] at h
  obtain ⟨_, rfl, k0, h⟩ := OwnS_lf.1 h
  obtain ⟨_, rfl, k1, h⟩ := OwnS_lf.1 h
  obtain ⟨_, rfl, k2, h⟩ := OwnS_lf.1 h
  obtain ⟨_, rfl, k3, h⟩ := OwnS_lf.1 h
  obtain ⟨u4, _, r4, _, rfl, rfl, o4, h⟩ := OwnS_cons.1 h
  obtain ⟨u7, _, r7, _, rfl, rfl, o7, h⟩ := OwnS_cons.1 h
  obtain ⟨u8, _, r8, _, rfl, rfl, o8, h⟩ := OwnS_cons.1 h
  obtain ⟨u9, _, r9, _, rfl, rfl, o9, h⟩ := OwnS_cons.1 h
  obtain ⟨u10, _, r10, _, rfl, rfl, o10, h⟩ := OwnS_cons.1 h
  obtain ⟨rfl, rfl⟩ := OwnS_nil.1 h
  obtain ⟨c4, c5, c6, rfl⟩ := len3 ((Rep.length (K := fun _ => True) _ _ (Own.rep _ _ _ o4 (fun _ _ => trivial))).trans (TType.width _))
  obtain ⟨c7, rfl⟩ := own_one o7
  obtain ⟨c8, rfl⟩ := own_one o8
  obtain ⟨c9, rfl⟩ := own_one o9
  obtain ⟨c10, rfl⟩ := own_one o10
  exact ⟨c4, c5, c6, c7, c8, c9, c10, r4, r7, r8, r9, r10, rfl, rfl, k0, k1, k2, k3, o4, o7, o8, o9, o10⟩
set_option maxHeartbeats 1000000 in
theorem TCore.tmk_own {w : World} {x : TCore} {k : Int} {c4 c5 c6 c7 c8 c9 c10 : Value} {r4 r7 r8 r9 r10 : List Nat} (k0 : InR x.fKind) (k1 : x.fTrait.size ≤ maxLen) (k2 : x.fName.size ≤ maxLen) (k3 : InR x.fN) (o4 : Own w (tmk (k) x.fType.enc) [c4, c5, c6] r4) (o7 : Own w (.sl (mks (k + (tcnt x.fType.enc : Nat)) (x.fTypeArgs.map TType.enc))) [c7] r7) (o8 : Own w (.sl (mks (k + (tcnt x.fType.enc : Nat) + (cnts (x.fTypeArgs.map TType.enc) : Nat)) (x.fEvidence.map TEvidence.enc))) [c8] r8) (o9 : Own w (.sl (mks (k + (tcnt x.fType.enc : Nat) + (cnts (x.fTypeArgs.map TType.enc) : Nat) + (cnts (x.fEvidence.map TEvidence.enc) : Nat)) (x.fArgs.map TCore.enc))) [c9] r9) (o10 : Own w (.sl (mks (k + (tcnt x.fType.enc : Nat) + (cnts (x.fTypeArgs.map TType.enc) : Nat) + (cnts (x.fEvidence.map TEvidence.enc) : Nat) + (cnts (x.fArgs.map TCore.enc) : Nat)) (x.fArms.map TCoreArm.enc))) [c10] r10) : Own w (tmk k x.enc) [.int .i64 x.fKind, .string x.fTrait, .string x.fName, .int .i64 x.fN, c4, c5, c6, c7, c8, c9, c10] (r4 ++ (r7 ++ (r8 ++ (r9 ++ (r10 ++ ([])))))) := by
  rw [TCore.enc_eq]
  simp only [tmk, tmks, encI, encS, tcnt, Own_st]
  refine OwnS_lf.2 ⟨_, rfl, k0, ?_⟩
  refine OwnS_lf.2 ⟨_, rfl, k1, ?_⟩
  refine OwnS_lf.2 ⟨_, rfl, k2, ?_⟩
  refine OwnS_lf.2 ⟨_, rfl, k3, ?_⟩
  refine OwnS_cons.2 ⟨[c4, c5, c6], _, r4, _, rfl, rfl, (own_tk o4 (by omega)), ?_⟩
  refine OwnS_cons.2 ⟨[c7], _, r7, _, rfl, rfl, (own_k o7 (by omega)), ?_⟩
  refine OwnS_cons.2 ⟨[c8], _, r8, _, rfl, rfl, (own_k o8 (by omega)), ?_⟩
  refine OwnS_cons.2 ⟨[c9], _, r9, _, rfl, rfl, (own_k o9 (by omega)), ?_⟩
  refine OwnS_cons.2 ⟨[c10], _, r10, _, rfl, rfl, (own_k o10 (by omega)), ?_⟩
  exact OwnS_nil.2 ⟨rfl, rfl⟩
set_option maxHeartbeats 1000000 in
theorem TCore.tmrep_open {w : World} {K : Nat → Prop} {x : TCore} {k : Int} {cs : List Value} (h : Rep w K (tmk k x.enc) cs) : ∃ (c4 : Value) (c5 : Value) (c6 : Value) (c7 : Value) (c8 : Value) (c9 : Value) (c10 : Value), cs = [.int .i64 x.fKind, .string x.fTrait, .string x.fName, .int .i64 x.fN, c4, c5, c6, c7, c8, c9, c10] ∧ Rep w K (tmk (k) x.fType.enc) [c4, c5, c6] ∧ Rep w K (.sl (mks (k + (tcnt x.fType.enc : Nat)) (x.fTypeArgs.map TType.enc))) [c7] ∧ Rep w K (.sl (mks (k + (tcnt x.fType.enc : Nat) + (cnts (x.fTypeArgs.map TType.enc) : Nat)) (x.fEvidence.map TEvidence.enc))) [c8] ∧ Rep w K (.sl (mks (k + (tcnt x.fType.enc : Nat) + (cnts (x.fTypeArgs.map TType.enc) : Nat) + (cnts (x.fEvidence.map TEvidence.enc) : Nat)) (x.fArgs.map TCore.enc))) [c9] ∧ Rep w K (.sl (mks (k + (tcnt x.fType.enc : Nat) + (cnts (x.fTypeArgs.map TType.enc) : Nat) + (cnts (x.fEvidence.map TEvidence.enc) : Nat) + (cnts (x.fArgs.map TCore.enc) : Nat)) (x.fArms.map TCoreArm.enc))) [c10] := by
  rw [TCore.enc_eq] at h
  simp only [tmk, tmks, encI, encS, tcnt, Rep_st] at h
  obtain ⟨_, rfl, -, h⟩ := RepS_lf.1 h
  obtain ⟨_, rfl, -, h⟩ := RepS_lf.1 h
  obtain ⟨_, rfl, -, h⟩ := RepS_lf.1 h
  obtain ⟨_, rfl, -, h⟩ := RepS_lf.1 h
  obtain ⟨u4, _, rfl, o4, h⟩ := RepS_cons.1 h
  obtain ⟨u7, _, rfl, o7, h⟩ := RepS_cons.1 h
  obtain ⟨u8, _, rfl, o8, h⟩ := RepS_cons.1 h
  obtain ⟨u9, _, rfl, o9, h⟩ := RepS_cons.1 h
  obtain ⟨u10, _, rfl, o10, h⟩ := RepS_cons.1 h
  obtain rfl := RepS_nil.1 h
  obtain ⟨c4, c5, c6, rfl⟩ := len3 ((Rep.length _ _ o4).trans ((tmk_width _ _).trans (TType.width _)))
  obtain ⟨c7, rfl⟩ := rep_one o7
  obtain ⟨c8, rfl⟩ := rep_one o8
  obtain ⟨c9, rfl⟩ := rep_one o9
  obtain ⟨c10, rfl⟩ := rep_one o10
  exact ⟨c4, c5, c6, c7, c8, c9, c10, rfl, (rep_tk o4 (by omega)), (rep_k o7 (by omega)), (rep_k o8 (by omega)), (rep_k o9 (by omega)), (rep_k o10 (by omega))⟩
theorem TCoreArm.tcnt_eq (x : TCoreArm) : tcnt x.enc = cnts (x.fVars.map encS) + tcnt x.fBody.enc := by
  rw [TCoreArm.enc_eq]
  simp only [tcnt, tcnts, encS]
  omega
theorem TCoreArm.own_open {w : World} {x : TCoreArm} {cs : List Value} {bs : List Nat} (h : Own w x.enc cs bs) : ∃ (c1 : Value) (c2 : Value) (c3 : Value) (c4 : Value) (c5 : Value) (c6 : Value) (c7 : Value) (c8 : Value) (c9 : Value) (c10 : Value) (c11 : Value) (c12 : Value) (r1 : List Nat) (r2 : List Nat), cs = [.string x.fConstructor, c1, c2, c3, c4, c5, c6, c7, c8, c9, c10, c11, c12] ∧ bs = r1 ++ (r2 ++ ([])) ∧ x.fConstructor.size ≤ maxLen ∧ Own w (.sl (x.fVars.map encS)) [c1] r1 ∧ Own w x.fBody.enc [c2, c3, c4, c5, c6, c7, c8, c9, c10, c11, c12] r2 := by
  rw [TCoreArm.enc_eq] at h
  simp only [Own_st, encS] at h
  obtain ⟨_, rfl, k0, h⟩ := OwnS_lf.1 h
  obtain ⟨u1, _, r1, _, rfl, rfl, o1, h⟩ := OwnS_cons.1 h
  obtain ⟨u2, _, r2, _, rfl, rfl, o2, h⟩ := OwnS_cons.1 h
  obtain ⟨rfl, rfl⟩ := OwnS_nil.1 h
  obtain ⟨c1, rfl⟩ := own_one o1
  obtain ⟨c2, c3, c4, c5, c6, c7, c8, c9, c10, c11, c12, rfl⟩ := len11 ((Rep.length (K := fun _ => True) _ _ (Own.rep _ _ _ o2 (fun _ _ => trivial))).trans (TCore.width _))
  exact ⟨c1, c2, c3, c4, c5, c6, c7, c8, c9, c10, c11, c12, r1, r2, rfl, rfl, k0, o1, o2⟩
set_option maxHeartbeats 1000000 in
theorem TCoreArm.tmk_own {w : World} {x : TCoreArm} {k : Int} {c1 c2 c3 c4 c5 c6 c7 c8 c9 c10 c11 c12 : Value} {r1 r2 : List Nat} (k0 : x.fConstructor.size ≤ maxLen) (o1 : Own w (.sl (mks (k) (x.fVars.map encS))) [c1] r1) (o2 : Own w (tmk (k + (cnts (x.fVars.map encS) : Nat)) x.fBody.enc) [c2, c3, c4, c5, c6, c7, c8, c9, c10, c11, c12] r2) : Own w (tmk k x.enc) [.string x.fConstructor, c1, c2, c3, c4, c5, c6, c7, c8, c9, c10, c11, c12] (r1 ++ (r2 ++ ([]))) := by
  rw [TCoreArm.enc_eq]
  simp only [tmk, tmks, encS, tcnt, Own_st]
  refine OwnS_lf.2 ⟨_, rfl, k0, ?_⟩
  refine OwnS_cons.2 ⟨[c1], _, r1, _, rfl, rfl, (own_k o1 (by omega)), ?_⟩
  refine OwnS_cons.2 ⟨[c2, c3, c4, c5, c6, c7, c8, c9, c10, c11, c12], _, r2, _, rfl, rfl, (own_tk o2 (by omega)), ?_⟩
  exact OwnS_nil.2 ⟨rfl, rfl⟩
set_option maxHeartbeats 1000000 in
theorem TCoreArm.tmrep_open {w : World} {K : Nat → Prop} {x : TCoreArm} {k : Int} {cs : List Value} (h : Rep w K (tmk k x.enc) cs) : ∃ (c1 : Value) (c2 : Value) (c3 : Value) (c4 : Value) (c5 : Value) (c6 : Value) (c7 : Value) (c8 : Value) (c9 : Value) (c10 : Value) (c11 : Value) (c12 : Value), cs = [.string x.fConstructor, c1, c2, c3, c4, c5, c6, c7, c8, c9, c10, c11, c12] ∧ Rep w K (.sl (mks (k) (x.fVars.map encS))) [c1] ∧ Rep w K (tmk (k + (cnts (x.fVars.map encS) : Nat)) x.fBody.enc) [c2, c3, c4, c5, c6, c7, c8, c9, c10, c11, c12] := by
  rw [TCoreArm.enc_eq] at h
  simp only [tmk, tmks, encS, tcnt, Rep_st] at h
  obtain ⟨_, rfl, -, h⟩ := RepS_lf.1 h
  obtain ⟨u1, _, rfl, o1, h⟩ := RepS_cons.1 h
  obtain ⟨u2, _, rfl, o2, h⟩ := RepS_cons.1 h
  obtain rfl := RepS_nil.1 h
  obtain ⟨c1, rfl⟩ := rep_one o1
  obtain ⟨c2, c3, c4, c5, c6, c7, c8, c9, c10, c11, c12, rfl⟩ := len11 ((Rep.length _ _ o2).trans ((tmk_width _ _).trans (TCore.width _)))
  exact ⟨c1, c2, c3, c4, c5, c6, c7, c8, c9, c10, c11, c12, rfl, (rep_k o1 (by omega)), (rep_tk o2 (by omega))⟩
theorem TParam.tcnt_eq (x : TParam) : tcnt x.enc = tcnt x.fType.enc := by
  rw [TParam.enc_eq]
  simp only [tcnt, tcnts, encS]
  omega
theorem TParam.own_open {w : World} {x : TParam} {cs : List Value} {bs : List Nat} (h : Own w x.enc cs bs) : ∃ (c1 : Value) (c2 : Value) (c3 : Value) (r1 : List Nat), cs = [.string x.fName, c1, c2, c3] ∧ bs = r1 ++ ([]) ∧ x.fName.size ≤ maxLen ∧ Own w x.fType.enc [c1, c2, c3] r1 := by
  rw [TParam.enc_eq] at h
  simp only [Own_st, encS] at h
  obtain ⟨_, rfl, k0, h⟩ := OwnS_lf.1 h
  obtain ⟨u1, _, r1, _, rfl, rfl, o1, h⟩ := OwnS_cons.1 h
  obtain ⟨rfl, rfl⟩ := OwnS_nil.1 h
  obtain ⟨c1, c2, c3, rfl⟩ := len3 ((Rep.length (K := fun _ => True) _ _ (Own.rep _ _ _ o1 (fun _ _ => trivial))).trans (TType.width _))
  exact ⟨c1, c2, c3, r1, rfl, rfl, k0, o1⟩
set_option maxHeartbeats 1000000 in
theorem TParam.tmk_own {w : World} {x : TParam} {k : Int} {c1 c2 c3 : Value} {r1 : List Nat} (k0 : x.fName.size ≤ maxLen) (o1 : Own w (tmk (k) x.fType.enc) [c1, c2, c3] r1) : Own w (tmk k x.enc) [.string x.fName, c1, c2, c3] (r1 ++ ([])) := by
  rw [TParam.enc_eq]
  simp only [tmk, tmks, encS, tcnt, Own_st]
  refine OwnS_lf.2 ⟨_, rfl, k0, ?_⟩
  refine OwnS_cons.2 ⟨[c1, c2, c3], _, r1, _, rfl, rfl, (own_tk o1 (by omega)), ?_⟩
  exact OwnS_nil.2 ⟨rfl, rfl⟩
set_option maxHeartbeats 1000000 in
theorem TParam.tmrep_open {w : World} {K : Nat → Prop} {x : TParam} {k : Int} {cs : List Value} (h : Rep w K (tmk k x.enc) cs) : ∃ (c1 : Value) (c2 : Value) (c3 : Value), cs = [.string x.fName, c1, c2, c3] ∧ Rep w K (tmk (k) x.fType.enc) [c1, c2, c3] := by
  rw [TParam.enc_eq] at h
  simp only [tmk, tmks, encS, tcnt, Rep_st] at h
  obtain ⟨_, rfl, -, h⟩ := RepS_lf.1 h
  obtain ⟨u1, _, rfl, o1, h⟩ := RepS_cons.1 h
  obtain rfl := RepS_nil.1 h
  obtain ⟨c1, c2, c3, rfl⟩ := len3 ((Rep.length _ _ o1).trans ((tmk_width _ _).trans (TType.width _)))
  exact ⟨c1, c2, c3, rfl, (rep_tk o1 (by omega))⟩
theorem TUnit.tcnt_eq (x : TUnit) : tcnt x.enc = cnts (x.fVars.map encS) + cnts (x.fWhere.map TBound.enc) + cnts (x.fParams.map TParam.enc) + tcnt x.fResult.enc + tcnt x.fBody.enc := by
  rw [TUnit.enc_eq]
  simp only [tcnt, tcnts, encI]
  omega
theorem TUnit.own_open {w : World} {x : TUnit} {cs : List Value} {bs : List Nat} (h : Own w x.enc cs bs) : ∃ (c4 : Value) (c5 : Value) (c6 : Value) (c7 : Value) (c8 : Value) (c9 : Value) (c10 : Value) (c11 : Value) (c12 : Value) (c13 : Value) (c14 : Value) (c15 : Value) (c16 : Value) (c17 : Value) (c18 : Value) (c19 : Value) (c20 : Value) (r4 : List Nat) (r5 : List Nat) (r6 : List Nat) (r7 : List Nat) (r10 : List Nat), cs = [.int .i64 x.fKind, .int .i64 x.fPackage, .int .i64 x.fAt, .int .i64 x.fSub, c4, c5, c6, c7, c8, c9, c10, c11, c12, c13, c14, c15, c16, c17, c18, c19, c20] ∧ bs = r4 ++ (r5 ++ (r6 ++ (r7 ++ (r10 ++ ([]))))) ∧ InR x.fKind ∧ InR x.fPackage ∧ InR x.fAt ∧ InR x.fSub ∧ Own w (.sl (x.fVars.map encS)) [c4] r4 ∧ Own w (.sl (x.fWhere.map TBound.enc)) [c5] r5 ∧ Own w (.sl (x.fParams.map TParam.enc)) [c6] r6 ∧ Own w x.fResult.enc [c7, c8, c9] r7 ∧ Own w x.fBody.enc [c10, c11, c12, c13, c14, c15, c16, c17, c18, c19, c20] r10 := by
  rw [TUnit.enc_eq] at h
  simp only [Own_st, encI] at h
  obtain ⟨_, rfl, k0, h⟩ := OwnS_lf.1 h
  obtain ⟨_, rfl, k1, h⟩ := OwnS_lf.1 h
  obtain ⟨_, rfl, k2, h⟩ := OwnS_lf.1 h
  obtain ⟨_, rfl, k3, h⟩ := OwnS_lf.1 h
  obtain ⟨u4, _, r4, _, rfl, rfl, o4, h⟩ := OwnS_cons.1 h
  obtain ⟨u5, _, r5, _, rfl, rfl, o5, h⟩ := OwnS_cons.1 h
  obtain ⟨u6, _, r6, _, rfl, rfl, o6, h⟩ := OwnS_cons.1 h
  obtain ⟨u7, _, r7, _, rfl, rfl, o7, h⟩ := OwnS_cons.1 h
  obtain ⟨u10, _, r10, _, rfl, rfl, o10, h⟩ := OwnS_cons.1 h
  obtain ⟨rfl, rfl⟩ := OwnS_nil.1 h
  obtain ⟨c4, rfl⟩ := own_one o4
  obtain ⟨c5, rfl⟩ := own_one o5
  obtain ⟨c6, rfl⟩ := own_one o6
  obtain ⟨c7, c8, c9, rfl⟩ := len3 ((Rep.length (K := fun _ => True) _ _ (Own.rep _ _ _ o7 (fun _ _ => trivial))).trans (TType.width _))
  obtain ⟨c10, c11, c12, c13, c14, c15, c16, c17, c18, c19, c20, rfl⟩ := len11 ((Rep.length (K := fun _ => True) _ _ (Own.rep _ _ _ o10 (fun _ _ => trivial))).trans (TCore.width _))
  exact ⟨c4, c5, c6, c7, c8, c9, c10, c11, c12, c13, c14, c15, c16, c17, c18, c19, c20, r4, r5, r6, r7, r10, rfl, rfl, k0, k1, k2, k3, o4, o5, o6, o7, o10⟩
set_option maxHeartbeats 1000000 in
theorem TUnit.tmk_own {w : World} {x : TUnit} {k : Int} {c4 c5 c6 c7 c8 c9 c10 c11 c12 c13 c14 c15 c16 c17 c18 c19 c20 : Value} {r4 r5 r6 r7 r10 : List Nat} (k0 : InR x.fKind) (k1 : InR x.fPackage) (k2 : InR x.fAt) (k3 : InR x.fSub) (o4 : Own w (.sl (mks (k) (x.fVars.map encS))) [c4] r4) (o5 : Own w (.sl (mks (k + (cnts (x.fVars.map encS) : Nat)) (x.fWhere.map TBound.enc))) [c5] r5) (o6 : Own w (.sl (mks (k + (cnts (x.fVars.map encS) : Nat) + (cnts (x.fWhere.map TBound.enc) : Nat)) (x.fParams.map TParam.enc))) [c6] r6) (o7 : Own w (tmk (k + (cnts (x.fVars.map encS) : Nat) + (cnts (x.fWhere.map TBound.enc) : Nat) + (cnts (x.fParams.map TParam.enc) : Nat)) x.fResult.enc) [c7, c8, c9] r7) (o10 : Own w (tmk (k + (cnts (x.fVars.map encS) : Nat) + (cnts (x.fWhere.map TBound.enc) : Nat) + (cnts (x.fParams.map TParam.enc) : Nat) + (tcnt x.fResult.enc : Nat)) x.fBody.enc) [c10, c11, c12, c13, c14, c15, c16, c17, c18, c19, c20] r10) : Own w (tmk k x.enc) [.int .i64 x.fKind, .int .i64 x.fPackage, .int .i64 x.fAt, .int .i64 x.fSub, c4, c5, c6, c7, c8, c9, c10, c11, c12, c13, c14, c15, c16, c17, c18, c19, c20] (r4 ++ (r5 ++ (r6 ++ (r7 ++ (r10 ++ ([])))))) := by
  rw [TUnit.enc_eq]
  simp only [tmk, tmks, encI, tcnt, Own_st]
  refine OwnS_lf.2 ⟨_, rfl, k0, ?_⟩
  refine OwnS_lf.2 ⟨_, rfl, k1, ?_⟩
  refine OwnS_lf.2 ⟨_, rfl, k2, ?_⟩
  refine OwnS_lf.2 ⟨_, rfl, k3, ?_⟩
  refine OwnS_cons.2 ⟨[c4], _, r4, _, rfl, rfl, (own_k o4 (by omega)), ?_⟩
  refine OwnS_cons.2 ⟨[c5], _, r5, _, rfl, rfl, (own_k o5 (by omega)), ?_⟩
  refine OwnS_cons.2 ⟨[c6], _, r6, _, rfl, rfl, (own_k o6 (by omega)), ?_⟩
  refine OwnS_cons.2 ⟨[c7, c8, c9], _, r7, _, rfl, rfl, (own_tk o7 (by omega)), ?_⟩
  refine OwnS_cons.2 ⟨[c10, c11, c12, c13, c14, c15, c16, c17, c18, c19, c20], _, r10, _, rfl, rfl, (own_tk o10 (by omega)), ?_⟩
  exact OwnS_nil.2 ⟨rfl, rfl⟩
set_option maxHeartbeats 1000000 in
theorem TUnit.tmrep_open {w : World} {K : Nat → Prop} {x : TUnit} {k : Int} {cs : List Value} (h : Rep w K (tmk k x.enc) cs) : ∃ (c4 : Value) (c5 : Value) (c6 : Value) (c7 : Value) (c8 : Value) (c9 : Value) (c10 : Value) (c11 : Value) (c12 : Value) (c13 : Value) (c14 : Value) (c15 : Value) (c16 : Value) (c17 : Value) (c18 : Value) (c19 : Value) (c20 : Value), cs = [.int .i64 x.fKind, .int .i64 x.fPackage, .int .i64 x.fAt, .int .i64 x.fSub, c4, c5, c6, c7, c8, c9, c10, c11, c12, c13, c14, c15, c16, c17, c18, c19, c20] ∧ Rep w K (.sl (mks (k) (x.fVars.map encS))) [c4] ∧ Rep w K (.sl (mks (k + (cnts (x.fVars.map encS) : Nat)) (x.fWhere.map TBound.enc))) [c5] ∧ Rep w K (.sl (mks (k + (cnts (x.fVars.map encS) : Nat) + (cnts (x.fWhere.map TBound.enc) : Nat)) (x.fParams.map TParam.enc))) [c6] ∧ Rep w K (tmk (k + (cnts (x.fVars.map encS) : Nat) + (cnts (x.fWhere.map TBound.enc) : Nat) + (cnts (x.fParams.map TParam.enc) : Nat)) x.fResult.enc) [c7, c8, c9] ∧ Rep w K (tmk (k + (cnts (x.fVars.map encS) : Nat) + (cnts (x.fWhere.map TBound.enc) : Nat) + (cnts (x.fParams.map TParam.enc) : Nat) + (tcnt x.fResult.enc : Nat)) x.fBody.enc) [c10, c11, c12, c13, c14, c15, c16, c17, c18, c19, c20] := by
  rw [TUnit.enc_eq] at h
  simp only [tmk, tmks, encI, tcnt, Rep_st] at h
  obtain ⟨_, rfl, -, h⟩ := RepS_lf.1 h
  obtain ⟨_, rfl, -, h⟩ := RepS_lf.1 h
  obtain ⟨_, rfl, -, h⟩ := RepS_lf.1 h
  obtain ⟨_, rfl, -, h⟩ := RepS_lf.1 h
  obtain ⟨u4, _, rfl, o4, h⟩ := RepS_cons.1 h
  obtain ⟨u5, _, rfl, o5, h⟩ := RepS_cons.1 h
  obtain ⟨u6, _, rfl, o6, h⟩ := RepS_cons.1 h
  obtain ⟨u7, _, rfl, o7, h⟩ := RepS_cons.1 h
  obtain ⟨u10, _, rfl, o10, h⟩ := RepS_cons.1 h
  obtain rfl := RepS_nil.1 h
  obtain ⟨c4, rfl⟩ := rep_one o4
  obtain ⟨c5, rfl⟩ := rep_one o5
  obtain ⟨c6, rfl⟩ := rep_one o6
  obtain ⟨c7, c8, c9, rfl⟩ := len3 ((Rep.length _ _ o7).trans ((tmk_width _ _).trans (TType.width _)))
  obtain ⟨c10, c11, c12, c13, c14, c15, c16, c17, c18, c19, c20, rfl⟩ := len11 ((Rep.length _ _ o10).trans ((tmk_width _ _).trans (TCore.width _)))
  exact ⟨c4, c5, c6, c7, c8, c9, c10, c11, c12, c13, c14, c15, c16, c17, c18, c19, c20, rfl, (rep_k o4 (by omega)), (rep_k o5 (by omega)), (rep_k o6 (by omega)), (rep_tk o7 (by omega)), (rep_tk o10 (by omega))⟩
theorem TUnitError.tcnt_eq (x : TUnitError) : tcnt x.enc = 0 := by
  rw [TUnitError.enc_eq]
  simp only [tcnt, tcnts, encI]
theorem TUnitError.tmk_id (x : TUnitError) (k : Int) : tmk k x.enc = x.enc := by
  rw [TUnitError.enc_eq]
  simp only [tmk, tmks, encI]
theorem TBuiltPackage.tcnt_eq (x : TBuiltPackage) : tcnt x.enc = cnts (x.fUnits.map TUnit.enc) + cnts (x.fErrors.map TUnitError.enc) := by
  rw [TBuiltPackage.enc_eq]
  simp only [tcnt, tcnts, encS]
  omega
theorem TBuiltPackage.own_open {w : World} {x : TBuiltPackage} {cs : List Value} {bs : List Nat} (h : Own w x.enc cs bs) : ∃ (c2 : Value) (c3 : Value) (r2 : List Nat) (r3 : List Nat), cs = [.string x.fName, .string x.fKey, c2, c3] ∧ bs = r2 ++ (r3 ++ ([])) ∧ x.fName.size ≤ maxLen ∧ x.fKey.size ≤ maxLen ∧ Own w (.sl (x.fUnits.map TUnit.enc)) [c2] r2 ∧ Own w (.sl (x.fErrors.map TUnitError.enc)) [c3] r3 := by
  rw [TBuiltPackage.enc_eq] at h
  simp only [Own_st, encS] at h
  obtain ⟨_, rfl, k0, h⟩ := OwnS_lf.1 h
  obtain ⟨_, rfl, k1, h⟩ := OwnS_lf.1 h
  obtain ⟨u2, _, r2, _, rfl, rfl, o2, h⟩ := OwnS_cons.1 h
  obtain ⟨u3, _, r3, _, rfl, rfl, o3, h⟩ := OwnS_cons.1 h
  obtain ⟨rfl, rfl⟩ := OwnS_nil.1 h
  obtain ⟨c2, rfl⟩ := own_one o2
  obtain ⟨c3, rfl⟩ := own_one o3
  exact ⟨c2, c3, r2, r3, rfl, rfl, k0, k1, o2, o3⟩
set_option maxHeartbeats 1000000 in
theorem TBuiltPackage.tmk_own {w : World} {x : TBuiltPackage} {k : Int} {c2 c3 : Value} {r2 r3 : List Nat} (k0 : x.fName.size ≤ maxLen) (k1 : x.fKey.size ≤ maxLen) (o2 : Own w (.sl (mks (k) (x.fUnits.map TUnit.enc))) [c2] r2) (o3 : Own w (.sl (mks (k + (cnts (x.fUnits.map TUnit.enc) : Nat)) (x.fErrors.map TUnitError.enc))) [c3] r3) : Own w (tmk k x.enc) [.string x.fName, .string x.fKey, c2, c3] (r2 ++ (r3 ++ ([]))) := by
  rw [TBuiltPackage.enc_eq]
  simp only [tmk, tmks, encS, tcnt, Own_st]
  refine OwnS_lf.2 ⟨_, rfl, k0, ?_⟩
  refine OwnS_lf.2 ⟨_, rfl, k1, ?_⟩
  refine OwnS_cons.2 ⟨[c2], _, r2, _, rfl, rfl, (own_k o2 (by omega)), ?_⟩
  refine OwnS_cons.2 ⟨[c3], _, r3, _, rfl, rfl, (own_k o3 (by omega)), ?_⟩
  exact OwnS_nil.2 ⟨rfl, rfl⟩
set_option maxHeartbeats 1000000 in
theorem TBuiltPackage.tmrep_open {w : World} {K : Nat → Prop} {x : TBuiltPackage} {k : Int} {cs : List Value} (h : Rep w K (tmk k x.enc) cs) : ∃ (c2 : Value) (c3 : Value), cs = [.string x.fName, .string x.fKey, c2, c3] ∧ Rep w K (.sl (mks (k) (x.fUnits.map TUnit.enc))) [c2] ∧ Rep w K (.sl (mks (k + (cnts (x.fUnits.map TUnit.enc) : Nat)) (x.fErrors.map TUnitError.enc))) [c3] := by
  rw [TBuiltPackage.enc_eq] at h
  simp only [tmk, tmks, encS, tcnt, Rep_st] at h
  obtain ⟨_, rfl, -, h⟩ := RepS_lf.1 h
  obtain ⟨_, rfl, -, h⟩ := RepS_lf.1 h
  obtain ⟨u2, _, rfl, o2, h⟩ := RepS_cons.1 h
  obtain ⟨u3, _, rfl, o3, h⟩ := RepS_cons.1 h
  obtain rfl := RepS_nil.1 h
  obtain ⟨c2, rfl⟩ := rep_one o2
  obtain ⟨c3, rfl⟩ := rep_one o3
  exact ⟨c2, c3, rfl, (rep_k o2 (by omega)), (rep_k o3 (by omega))⟩
theorem TBuild.tcnt_eq (x : TBuild) : tcnt x.enc = cnts (x.fPackages.map TBuiltPackage.enc) := by
  rw [TBuild.enc_eq]
  simp only [tcnt, tcnts]
  omega
theorem TBuild.own_open {w : World} {x : TBuild} {cs : List Value} {bs : List Nat} (h : Own w x.enc cs bs) : ∃ (c0 : Value) (r0 : List Nat), cs = [c0] ∧ bs = r0 ++ ([]) ∧ Own w (.sl (x.fPackages.map TBuiltPackage.enc)) [c0] r0 := by
  rw [TBuild.enc_eq] at h
  simp only [Own_st] at h
  obtain ⟨u0, _, r0, _, rfl, rfl, o0, h⟩ := OwnS_cons.1 h
  obtain ⟨rfl, rfl⟩ := OwnS_nil.1 h
  obtain ⟨c0, rfl⟩ := own_one o0
  exact ⟨c0, r0, rfl, rfl, o0⟩
set_option maxHeartbeats 1000000 in
theorem TBuild.tmk_own {w : World} {x : TBuild} {k : Int} {c0 : Value} {r0 : List Nat} (o0 : Own w (.sl (mks (k) (x.fPackages.map TBuiltPackage.enc))) [c0] r0) : Own w (tmk k x.enc) [c0] (r0 ++ ([])) := by
  rw [TBuild.enc_eq]
  simp only [tmk, tmks, Own_st]
  refine OwnS_cons.2 ⟨[c0], _, r0, _, rfl, rfl, (own_k o0 (by omega)), ?_⟩
  exact OwnS_nil.2 ⟨rfl, rfl⟩
set_option maxHeartbeats 1000000 in
theorem TBuild.tmrep_open {w : World} {K : Nat → Prop} {x : TBuild} {k : Int} {cs : List Value} (h : Rep w K (tmk k x.enc) cs) : ∃ (c0 : Value), cs = [c0] ∧ Rep w K (.sl (mks (k) (x.fPackages.map TBuiltPackage.enc))) [c0] := by
  rw [TBuild.enc_eq] at h
  simp only [tmk, tmks, Rep_st] at h
  obtain ⟨u0, _, rfl, o0, h⟩ := RepS_cons.1 h
  obtain rfl := RepS_nil.1 h
  obtain ⟨c0, rfl⟩ := rep_one o0
  exact ⟨c0, rfl, (rep_k o0 (by omega))⟩
end Go.Proofs.YtkmiecgcibjkbaaGreat
