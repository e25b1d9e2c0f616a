/- The marks of this program's types, laid flat. No condition. -/
import Derived.Test.YtkmiecgcibjkbaaGreatMarkText
namespace Go.Proofs.YtkmiecgcibjkbaaGreat
open Go.RowKit
theorem TInstanceRef.flat (x : TInstanceRef) : x.enc = .st [encI x.fPackage, encI x.fAt] := by
 simp only [TInstanceRef.enc_eq]
theorem TInstanceRef.cnt_flat (x : TInstanceRef) : cnt x.enc = 1 + 1 := by
 rw [TInstanceRef.flat]
 simp only [encI, cnt, cnts]
theorem TInstanceRef.own_flat {w : World} {x : TInstanceRef} {cs : List Value} {bs : List Nat} (h : Own w x.enc cs bs) : cs = [.int .i64 x.fPackage, .int .i64 x.fAt] ∧ bs = [] := by
 rw [TInstanceRef.flat] at h
 simp only [encI, Own_st] at h
 obtain ⟨_, rfl, -, h⟩ := OwnS_lf.1 h
 obtain ⟨_, rfl, -, h⟩ := OwnS_lf.1 h
 obtain ⟨rfl, rfl⟩ := OwnS_nil.1 h
 exact ⟨rfl, rfl⟩
set_option maxHeartbeats 1000000 in
theorem TInstanceRef.mk_flat {w : World} {x : TInstanceRef} {k : Int} (h0 : 0 ≤ k) (h1 : k + (cnt x.enc : Nat) ≤ 4611686018427387904) : Own w (mkd k x.enc) [.int .i64 (k), .int .i64 (k + 1)] ([]) := by
 rw [TInstanceRef.cnt_flat] at h1
 rw [TInstanceRef.flat]
 simp only [mkd, mks, mlit, encI, cnt, Own_st]
 refine OwnS_lf.2 ⟨_, cons_eq (congrArg (Value.int .i64) (by omega)) rfl, inR_mk (by omega) (by omega), ?_⟩
 refine OwnS_lf.2 ⟨_, cons_eq (congrArg (Value.int .i64) (by omega)) rfl, inR_mk (by omega) (by omega), ?_⟩
 exact OwnS_nil.2 ⟨rfl, rfl⟩
set_option maxHeartbeats 1000000 in
theorem TInstanceRef.mrep_flat {w : World} {K : Nat → Prop} {x : TInstanceRef} {k : Int} {cs : List Value} (h : Rep w K (mkd k x.enc) cs) : cs = [.int .i64 (k), .int .i64 (k + 1)] := by
 rw [TInstanceRef.flat] at h
 simp only [mkd, mks, mlit, encI, cnt, Rep_st] at h
 obtain ⟨_, rfl, -, h⟩ := RepS_lf.1 h
 obtain ⟨_, rfl, -, h⟩ := RepS_lf.1 h
 obtain rfl := RepS_nil.1 h
 exact cons_eq (congrArg (Value.int .i64) (by omega)) (cons_eq (congrArg (Value.int .i64) (by omega)) (rfl))
theorem TMethodTable.flat (x : TMethodTable) : x.enc = .st [encS x.fTrait, .st [encI x.fType.fKind, encS x.fType.fName, (.sl (x.fType.fArgs.map TType.enc))], (.sl (x.fEntries.map TMethodEntry.enc))] := by
 simp only [TMethodTable.enc_eq, TType.enc_eq]
theorem TMethodTable.cnt_flat (x : TMethodTable) : cnt x.enc = 1 + 1 + 1 + cnts (x.fType.fArgs.map TType.enc) + cnts (x.fEntries.map TMethodEntry.enc) := by
 rw [TMethodTable.flat]
 simp only [encI, encS, cnt, cnts]
 omega
theorem TMethodTable.own_flat {w : World} {x : TMethodTable} {cs : List Value} {bs : List Nat} (h : Own w x.enc cs bs) : ∃ (c3 : Value) (c4 : Value) (r3 : List Nat) (r4 : List Nat), cs = [.string x.fTrait, .int .i64 x.fType.fKind, .string x.fType.fName, c3, c4] ∧ bs = r3 ++ (r4 ++ ([])) ∧ Own w (.sl (x.fType.fArgs.map TType.enc)) [c3] r3 ∧ Own w (.sl (x.fEntries.map TMethodEntry.enc)) [c4] r4 := by
 rw [TMethodTable.flat] at h
 simp only [encI, encS, Own_st] at h
 obtain ⟨_, rfl, -, h⟩ := OwnS_lf.1 h
 replace h := OwnS_stc.1 h
 simp only [List.cons_append, List.nil_append] at h
 obtain ⟨_, rfl, -, h⟩ := OwnS_lf.1 h
 obtain ⟨_, rfl, -, h⟩ := OwnS_lf.1 h
 obtain ⟨c3, _, r3, _, rfl, rfl, o3, h⟩ := OwnS_sl.1 h
 obtain ⟨c4, _, r4, _, rfl, rfl, o4, h⟩ := OwnS_sl.1 h
 obtain ⟨rfl, rfl⟩ := OwnS_nil.1 h
 exact ⟨c3, c4, r3, r4, rfl, rfl, o3, o4⟩
set_option maxHeartbeats 1000000 in
theorem TMethodTable.mk_flat {w : World} {x : TMethodTable} {k : Int} {c3 c4 : Value} {r3 r4 : List Nat} (h0 : 0 ≤ k) (h1 : k + (cnt x.enc : Nat) ≤ 4611686018427387904) (o3 : Own w (.sl (mks (k + 1 + 1 + 1) (x.fType.fArgs.map TType.enc))) [c3] r3) (o4 : Own w (.sl (mks (k + 1 + 1 + 1 + (cnts (x.fType.fArgs.map TType.enc) : Nat)) (x.fEntries.map TMethodEntry.enc))) [c4] r4) : Own w (mkd k x.enc) [.string (mtext (k)), .int .i64 (k + 1), .string (mtext (k + 1 + 1)), c3, c4] (r3 ++ (r4 ++ ([]))) := by
 rw [TMethodTable.cnt_flat] at h1
 rw [TMethodTable.flat]
 simp only [mkd, mks, mlit, encI, encS, cnt, cnts, Own_st]
 refine OwnS_lf.2 ⟨_, cons_eq (congrArg (fun z => Value.string (mtext z)) (by omega)) rfl, mtext_size (by omega), ?_⟩
 refine OwnS_stc.2 ?_
 simp only [List.cons_append, List.nil_append]
 refine OwnS_lf.2 ⟨_, cons_eq (congrArg (Value.int .i64) (by omega)) rfl, inR_mk (by omega) (by omega), ?_⟩
 refine OwnS_lf.2 ⟨_, cons_eq (congrArg (fun z => Value.string (mtext z)) (by omega)) rfl, mtext_size (by omega), ?_⟩
 refine OwnS_sl.2 ⟨c3, _, r3, _, rfl, rfl, own_k o3 (by omega), ?_⟩
 refine OwnS_sl.2 ⟨c4, _, r4, _, rfl, rfl, own_k o4 (by omega), ?_⟩
 exact OwnS_nil.2 ⟨rfl, rfl⟩
set_option maxHeartbeats 1000000 in
theorem TMethodTable.mrep_flat {w : World} {K : Nat → Prop} {x : TMethodTable} {k : Int} {cs : List Value} (h : Rep w K (mkd k x.enc) cs) : ∃ (c3 : Value) (c4 : Value), cs = [.string (mtext (k)), .int .i64 (k + 1), .string (mtext (k + 1 + 1)), c3, c4] ∧ Rep w K (.sl (mks (k + 1 + 1 + 1) (x.fType.fArgs.map TType.enc))) [c3] ∧ Rep w K (.sl (mks (k + 1 + 1 + 1 + (cnts (x.fType.fArgs.map TType.enc) : Nat)) (x.fEntries.map TMethodEntry.enc))) [c4] := by
 rw [TMethodTable.flat] at h
 simp only [mkd, mks, mlit, encI, encS, cnt, cnts, Rep_st] at h
 obtain ⟨_, rfl, -, h⟩ := RepS_lf.1 h
 replace h := RepS_stc.1 h
 simp only [List.cons_append, List.nil_append] at h
 obtain ⟨_, rfl, -, h⟩ := RepS_lf.1 h
 obtain ⟨_, rfl, -, h⟩ := RepS_lf.1 h
 obtain ⟨c3, _, rfl, o3, h⟩ := RepS_sl.1 h
 obtain ⟨c4, _, rfl, o4, h⟩ := RepS_sl.1 h
 obtain rfl := RepS_nil.1 h
 exact ⟨c3, c4, cons_eq (congrArg (fun z => Value.string (mtext z)) (by omega)) (cons_eq (congrArg (Value.int .i64) (by omega)) (cons_eq (congrArg (fun z => Value.string (mtext z)) (by omega)) (cons_eq (rfl) (cons_eq (rfl) (rfl))))), rep_k o3 (by omega), rep_k o4 (by omega)⟩
theorem TSpecialization.flat (x : TSpecialization) : x.enc = .st [encI x.fUnit, (.sl (x.fTypeArgs.map TType.enc)), (.sl (x.fParams.map encS)), .st [encI x.fBody.fKind, encS x.fBody.fTrait, encS x.fBody.fName, encI x.fBody.fN, .st [encI x.fBody.fType.fKind, encS x.fBody.fType.fName, (.sl (x.fBody.fType.fArgs.map TType.enc))], (.sl (x.fBody.fTypeArgs.map TType.enc)), (.sl (x.fBody.fEvidence.map TEvidence.enc)), (.sl (x.fBody.fArgs.map TCore.enc)), (.sl (x.fBody.fArms.map TCoreArm.enc))]] := by
 simp only [TSpecialization.enc_eq, TCore.enc_eq, TType.enc_eq]
theorem TSpecialization.cnt_flat (x : TSpecialization) : cnt x.enc = 1 + cnts (x.fTypeArgs.map TType.enc) + cnts (x.fParams.map encS) + 1 + 1 + 1 + 1 + 1 + 1 + cnts (x.fBody.fType.fArgs.map TType.enc) + cnts (x.fBody.fTypeArgs.map TType.enc) + cnts (x.fBody.fEvidence.map TEvidence.enc) + cnts (x.fBody.fArgs.map TCore.enc) + cnts (x.fBody.fArms.map TCoreArm.enc) := by
 rw [TSpecialization.flat]
 simp only [encI, encS, cnt, cnts]
 omega
theorem TSpecialization.own_flat {w : World} {x : TSpecialization} {cs : List Value} {bs : List Nat} (h : Own w x.enc cs bs) : ∃ (c1 : Value) (c2 : Value) (c9 : Value) (c10 : Value) (c11 : Value) (c12 : Value) (c13 : Value) (r1 : List Nat) (r2 : List Nat) (r9 : List Nat) (r10 : List Nat) (r11 : List Nat) (r12 : List Nat) (r13 : List Nat), cs = [.int .i64 x.fUnit, c1, c2, .int .i64 x.fBody.fKind, .string x.fBody.fTrait, .string x.fBody.fName, .int .i64 x.fBody.fN, .int .i64 x.fBody.fType.fKind, .string x.fBody.fType.fName, c9, c10, c11, c12, c13] ∧ bs = r1 ++ (r2 ++ (r9 ++ (r10 ++ (r11 ++ (r12 ++ (r13 ++ ([]))))))) ∧ Own w (.sl (x.fTypeArgs.map TType.enc)) [c1] r1 ∧ Own w (.sl (x.fParams.map encS)) [c2] r2 ∧ Own w (.sl (x.fBody.fType.fArgs.map TType.enc)) [c9] r9 ∧ Own w (.sl (x.fBody.fTypeArgs.map TType.enc)) [c10] r10 ∧ Own w (.sl (x.fBody.fEvidence.map TEvidence.enc)) [c11] r11 ∧ Own w (.sl (x.fBody.fArgs.map TCore.enc)) [c12] r12 ∧ Own w (.sl (x.fBody.fArms.map TCoreArm.enc)) [c13] r13 := by
 rw [TSpecialization.flat] at h
 simp only [encI, encS, Own_st] at h
 obtain ⟨_, rfl, -, h⟩ := OwnS_lf.1 h
 obtain ⟨c1, _, r1, _, rfl, rfl, o1, h⟩ := OwnS_sl.1 h
 obtain ⟨c2, _, r2, _, rfl, rfl, o2, h⟩ := OwnS_sl.1 h
 replace h := OwnS_stc.1 h
 simp only [List.cons_append, List.nil_append] at h
 obtain ⟨_, rfl, -, h⟩ := OwnS_lf.1 h
 obtain ⟨_, rfl, -, h⟩ := OwnS_lf.1 h
 obtain ⟨_, rfl, -, h⟩ := OwnS_lf.1 h
 obtain ⟨_, rfl, -, h⟩ := OwnS_lf.1 h
 replace h := OwnS_stc.1 h
 simp only [List.cons_append, List.nil_append] at h
 obtain ⟨_, rfl, -, h⟩ := OwnS_lf.1 h
 obtain ⟨_, rfl, -, h⟩ := OwnS_lf.1 h
 obtain ⟨c9, _, r9, _, rfl, rfl, o9, h⟩ := OwnS_sl.1 h
 obtain ⟨c10, _, r10, _, rfl, rfl, o10, h⟩ := OwnS_sl.1 h
 obtain ⟨c11, _, r11, _, rfl, rfl, o11, h⟩ := OwnS_sl.1 h
 obtain ⟨c12, _, r12, _, rfl, rfl, o12, h⟩ := OwnS_sl.1 h
 obtain ⟨c13, _, r13, _, rfl, rfl, o13, h⟩ := OwnS_sl.1 h
 obtain ⟨rfl, rfl⟩ := OwnS_nil.1 h
 exact ⟨c1, c2, c9, c10, c11, c12, c13, r1, r2, r9, r10, r11, r12, r13, rfl, rfl, o1, o2, o9, o10, o11, o12, o13⟩
set_option maxHeartbeats 1000000 in
theorem TSpecialization.mk_flat {w : World} {x : TSpecialization} {k : Int} {c1 c2 c9 c10 c11 c12 c13 : Value} {r1 r2 r9 r10 r11 r12 r13 : List Nat} (h0 : 0 ≤ k) (h1 : k + (cnt x.enc : Nat) ≤ 4611686018427387904) (o1 : Own w (.sl (mks (k + 1) (x.fTypeArgs.map TType.enc))) [c1] r1) (o2 : Own w (.sl (mks (k + 1 + (cnts (x.fTypeArgs.map TType.enc) : Nat)) (x.fParams.map encS))) [c2] r2) (o9 : Own w (.sl (mks (k + 1 + (cnts (x.fTypeArgs.map TType.enc) : Nat) + (cnts (x.fParams.map encS) : Nat) + 1 + 1 + 1 + 1 + 1 + 1) (x.fBody.fType.fArgs.map TType.enc))) [c9] r9) (o10 : Own w (.sl (mks (k + 1 + (cnts (x.fTypeArgs.map TType.enc) : Nat) + (cnts (x.fParams.map encS) : Nat) + 1 + 1 + 1 + 1 + 1 + 1 + (cnts (x.fBody.fType.fArgs.map TType.enc) : Nat)) (x.fBody.fTypeArgs.map TType.enc))) [c10] r10) (o11 : Own w (.sl (mks (k + 1 + (cnts (x.fTypeArgs.map TType.enc) : Nat) + (cnts (x.fParams.map encS) : Nat) + 1 + 1 + 1 + 1 + 1 + 1 + (cnts (x.fBody.fType.fArgs.map TType.enc) : Nat) + (cnts (x.fBody.fTypeArgs.map TType.enc) : Nat)) (x.fBody.fEvidence.map TEvidence.enc))) [c11] r11) (o12 : Own w (.sl (mks (k + 1 + (cnts (x.fTypeArgs.map TType.enc) : Nat) + (cnts (x.fParams.map encS) : Nat) + 1 + 1 + 1 + 1 + 1 + 1 + (cnts (x.fBody.fType.fArgs.map TType.enc) : Nat) + (cnts (x.fBody.fTypeArgs.map TType.enc) : Nat) + (cnts (x.fBody.fEvidence.map TEvidence.enc) : Nat)) (x.fBody.fArgs.map TCore.enc))) [c12] r12) (o13 : Own w (.sl (mks (k + 1 + (cnts (x.fTypeArgs.map TType.enc) : Nat) + (cnts (x.fParams.map encS) : Nat) + 1 + 1 + 1 + 1 + 1 + 1 + (cnts (x.fBody.fType.fArgs.map TType.enc) : Nat) + (cnts (x.fBody.fTypeArgs.map TType.enc) : Nat) + (cnts (x.fBody.fEvidence.map TEvidence.enc) : Nat) + (cnts (x.fBody.fArgs.map TCore.enc) : Nat)) (x.fBody.fArms.map TCoreArm.enc))) [c13] r13) : Own w (mkd k x.enc) [.int .i64 (k), c1, c2, .int .i64 (k + 1 + (cnts (x.fTypeArgs.map TType.enc) : Nat) + (cnts (x.fParams.map encS) : Nat)), .string (mtext (k + 1 + (cnts (x.fTypeArgs.map TType.enc) : Nat) + (cnts (x.fParams.map encS) : Nat) + 1)), .string (mtext (k + 1 + (cnts (x.fTypeArgs.map TType.enc) : Nat) + (cnts (x.fParams.map encS) : Nat) + 1 + 1)), .int .i64 (k + 1 + (cnts (x.fTypeArgs.map TType.enc) : Nat) + (cnts (x.fParams.map encS) : Nat) + 1 + 1 + 1), .int .i64 (k + 1 + (cnts (x.fTypeArgs.map TType.enc) : Nat) + (cnts (x.fParams.map encS) : Nat) + 1 + 1 + 1 + 1), .string (mtext (k + 1 + (cnts (x.fTypeArgs.map TType.enc) : Nat) + (cnts (x.fParams.map encS) : Nat) + 1 + 1 + 1 + 1 + 1)), c9, c10, c11, c12, c13] (r1 ++ (r2 ++ (r9 ++ (r10 ++ (r11 ++ (r12 ++ (r13 ++ ([])))))))) := by
 rw [TSpecialization.cnt_flat] at h1
 rw [TSpecialization.flat]
 simp only [mkd, mks, mlit, encI, encS, cnt, cnts, Own_st]
 refine OwnS_lf.2 ⟨_, cons_eq (congrArg (Value.int .i64) (by omega)) rfl, inR_mk (by omega) (by omega), ?_⟩
 refine OwnS_sl.2 ⟨c1, _, r1, _, rfl, rfl, own_k o1 (by omega), ?_⟩
 refine OwnS_sl.2 ⟨c2, _, r2, _, rfl, rfl, own_k o2 (by omega), ?_⟩
 refine OwnS_stc.2 ?_
 simp only [List.cons_append, List.nil_append]
 refine OwnS_lf.2 ⟨_, cons_eq (congrArg (Value.int .i64) (by omega)) rfl, inR_mk (by omega) (by omega), ?_⟩
 refine OwnS_lf.2 ⟨_, cons_eq (congrArg (fun z => Value.string (mtext z)) (by omega)) rfl, mtext_size (by omega), ?_⟩
 refine OwnS_lf.2 ⟨_, cons_eq (congrArg (fun z => Value.string (mtext z)) (by omega)) rfl, mtext_size (by omega), ?_⟩
 refine OwnS_lf.2 ⟨_, cons_eq (congrArg (Value.int .i64) (by omega)) rfl, inR_mk (by omega) (by omega), ?_⟩
 refine OwnS_stc.2 ?_
 simp only [List.cons_append, List.nil_append]
 refine OwnS_lf.2 ⟨_, cons_eq (congrArg (Value.int .i64) (by omega)) rfl, inR_mk (by omega) (by omega), ?_⟩
 refine OwnS_lf.2 ⟨_, cons_eq (congrArg (fun z => Value.string (mtext z)) (by omega)) rfl, mtext_size (by omega), ?_⟩
 refine OwnS_sl.2 ⟨c9, _, r9, _, rfl, rfl, own_k o9 (by omega), ?_⟩
 refine OwnS_sl.2 ⟨c10, _, r10, _, rfl, rfl, own_k o10 (by omega), ?_⟩
 refine OwnS_sl.2 ⟨c11, _, r11, _, rfl, rfl, own_k o11 (by omega), ?_⟩
 refine OwnS_sl.2 ⟨c12, _, r12, _, rfl, rfl, own_k o12 (by omega), ?_⟩
 refine OwnS_sl.2 ⟨c13, _, r13, _, rfl, rfl, own_k o13 (by omega), ?_⟩
 exact OwnS_nil.2 ⟨rfl, rfl⟩
set_option maxHeartbeats 1000000 in
theorem TSpecialization.mrep_flat {w : World} {K : Nat → Prop} {x : TSpecialization} {k : Int} {cs : List Value} (h : Rep w K (mkd k x.enc) cs) : ∃ (c1 : Value) (c2 : Value) (c9 : Value) (c10 : Value) (c11 : Value) (c12 : Value) (c13 : Value), cs = [.int .i64 (k), c1, c2, .int .i64 (k + 1 + (cnts (x.fTypeArgs.map TType.enc) : Nat) + (cnts (x.fParams.map encS) : Nat)), .string (mtext (k + 1 + (cnts (x.fTypeArgs.map TType.enc) : Nat) + (cnts (x.fParams.map encS) : Nat) + 1)), .string (mtext (k + 1 + (cnts (x.fTypeArgs.map TType.enc) : Nat) + (cnts (x.fParams.map encS) : Nat) + 1 + 1)), .int .i64 (k + 1 + (cnts (x.fTypeArgs.map TType.enc) : Nat) + (cnts (x.fParams.map encS) : Nat) + 1 + 1 + 1), .int .i64 (k + 1 + (cnts (x.fTypeArgs.map TType.enc) : Nat) + (cnts (x.fParams.map encS) : Nat) + 1 + 1 + 1 + 1), .string (mtext (k + 1 + (cnts (x.fTypeArgs.map TType.enc) : Nat) + (cnts (x.fParams.map encS) : Nat) + 1 + 1 + 1 + 1 + 1)), c9, c10, c11, c12, c13] ∧ Rep w K (.sl (mks (k + 1) (x.fTypeArgs.map TType.enc))) [c1] ∧ Rep w K (.sl (mks (k + 1 + (cnts (x.fTypeArgs.map TType.enc) : Nat)) (x.fParams.map encS))) [c2] ∧ Rep w K (.sl (mks (k + 1 + (cnts (x.fTypeArgs.map TType.enc) : Nat) + (cnts (x.fParams.map encS) : Nat) + 1 + 1 + 1 + 1 + 1 + 1) (x.fBody.fType.fArgs.map TType.enc))) [c9] ∧ Rep w K (.sl (mks (k + 1 + (cnts (x.fTypeArgs.map TType.enc) : Nat) + (cnts (x.fParams.map encS) : Nat) + 1 + 1 + 1 + 1 + 1 + 1 + (cnts (x.fBody.fType.fArgs.map TType.enc) : Nat)) (x.fBody.fTypeArgs.map TType.enc))) [c10] ∧ Rep w K (.sl (mks (k + 1 + (cnts (x.fTypeArgs.map TType.enc) : Nat) + (cnts (x.fParams.map encS) : Nat) + 1 + 1 + 1 + 1 + 1 + 1 + (cnts (x.fBody.fType.fArgs.map TType.enc) : Nat) + (cnts (x.fBody.fTypeArgs.map TType.enc) : Nat)) (x.fBody.fEvidence.map TEvidence.enc))) [c11] ∧ Rep w K (.sl (mks (k + 1 + (cnts (x.fTypeArgs.map TType.enc) : Nat) + (cnts (x.fParams.map encS) : Nat) + 1 + 1 + 1 + 1 + 1 + 1 + (cnts (x.fBody.fType.fArgs.map TType.enc) : Nat) + (cnts (x.fBody.fTypeArgs.map TType.enc) : Nat) + (cnts (x.fBody.fEvidence.map TEvidence.enc) : Nat)) (x.fBody.fArgs.map TCore.enc))) [c12] ∧ Rep w K (.sl (mks (k + 1 + (cnts (x.fTypeArgs.map TType.enc) : Nat) + (cnts (x.fParams.map encS) : Nat) + 1 + 1 + 1 + 1 + 1 + 1 + (cnts (x.fBody.fType.fArgs.map TType.enc) : Nat) + (cnts (x.fBody.fTypeArgs.map TType.enc) : Nat) + (cnts (x.fBody.fEvidence.map TEvidence.enc) : Nat) + (cnts (x.fBody.fArgs.map TCore.enc) : Nat)) (x.fBody.fArms.map TCoreArm.enc))) [c13] := by
 rw [TSpecialization.flat] at h
 simp only [mkd, mks, mlit, encI, encS, cnt, cnts, Rep_st] at h
 obtain ⟨_, rfl, -, h⟩ := RepS_lf.1 h
 obtain ⟨c1, _, rfl, o1, h⟩ := RepS_sl.1 h
 obtain ⟨c2, _, rfl, o2, h⟩ := RepS_sl.1 h
 replace h := RepS_stc.1 h
 simp only [List.cons_append, List.nil_append] at h
 obtain ⟨_, rfl, -, h⟩ := RepS_lf.1 h
 obtain ⟨_, rfl, -, h⟩ := RepS_lf.1 h
 obtain ⟨_, rfl, -, h⟩ := RepS_lf.1 h
 obtain ⟨_, rfl, -, h⟩ := RepS_lf.1 h
 replace h := RepS_stc.1 h
 simp only [List.cons_append, List.nil_append] at h
 obtain ⟨_, rfl, -, h⟩ := RepS_lf.1 h
 obtain ⟨_, rfl, -, h⟩ := RepS_lf.1 h
 obtain ⟨c9, _, rfl, o9, h⟩ := RepS_sl.1 h
 obtain ⟨c10, _, rfl, o10, h⟩ := RepS_sl.1 h
 obtain ⟨c11, _, rfl, o11, h⟩ := RepS_sl.1 h
 obtain ⟨c12, _, rfl, o12, h⟩ := RepS_sl.1 h
 obtain ⟨c13, _, rfl, o13, h⟩ := RepS_sl.1 h
 obtain rfl := RepS_nil.1 h
 exact ⟨c1, c2, c9, c10, c11, c12, c13, cons_eq (congrArg (Value.int .i64) (by omega)) (cons_eq (rfl) (cons_eq (rfl) (cons_eq (congrArg (Value.int .i64) (by omega)) (cons_eq (congrArg (fun z => Value.string (mtext z)) (by omega)) (cons_eq (congrArg (fun z => Value.string (mtext z)) (by omega)) (cons_eq (congrArg (Value.int .i64) (by omega)) (cons_eq (congrArg (Value.int .i64) (by omega)) (cons_eq (congrArg (fun z => Value.string (mtext z)) (by omega)) (cons_eq (rfl) (cons_eq (rfl) (cons_eq (rfl) (cons_eq (rfl) (cons_eq (rfl) (rfl)))))))))))))), rep_k o1 (by omega), rep_k o2 (by omega), rep_k o9 (by omega), rep_k o10 (by omega), rep_k o11 (by omega), rep_k o12 (by omega), rep_k o13 (by omega)⟩
theorem TCore.flat (x : TCore) : x.enc = .st [encI x.fKind, encS x.fTrait, encS x.fName, encI x.fN, .st [encI x.fType.fKind, encS x.fType.fName, (.sl (x.fType.fArgs.map TType.enc))], (.sl (x.fTypeArgs.map TType.enc)), (.sl (x.fEvidence.map TEvidence.enc)), (.sl (x.fArgs.map TCore.enc)), (.sl (x.fArms.map TCoreArm.enc))] := by
 simp only [TCore.enc_eq, TType.enc_eq]
theorem TCore.cnt_flat (x : TCore) : cnt x.enc = 1 + 1 + 1 + 1 + 1 + 1 + cnts (x.fType.fArgs.map TType.enc) + cnts (x.fTypeArgs.map TType.enc) + cnts (x.fEvidence.map TEvidence.enc) + cnts (x.fArgs.map TCore.enc) + cnts (x.fArms.map TCoreArm.enc) := by
 rw [TCore.flat]
 simp only [encI, encS, cnt, cnts]
 omega
theorem TCore.own_flat {w : World} {x : TCore} {cs : List Value} {bs : List Nat} (h : Own w x.enc cs bs) : ∃ (c6 : Value) (c7 : Value) (c8 : Value) (c9 : Value) (c10 : Value) (r6 : List Nat) (r7 : List Nat) (r8 : List Nat) (r9 : List Nat) (r10 : List Nat), cs = [.int .i64 x.fKind, .string x.fTrait, .string x.fName, .int .i64 x.fN, .int .i64 x.fType.fKind, .string x.fType.fName, c6, c7, c8, c9, c10] ∧ bs = r6 ++ (r7 ++ (r8 ++ (r9 ++ (r10 ++ ([]))))) ∧ Own w (.sl (x.fType.fArgs.map TType.enc)) [c6] r6 ∧ Own w (.sl (x.fTypeArgs.map TType.enc)) [c7] r7 ∧ Own w (.sl (x.fEvidence.map TEvidence.enc)) [c8] r8 ∧ Own w (.sl (x.fArgs.map TCore.enc)) [c9] r9 ∧ Own w (.sl (x.fArms.map TCoreArm.enc)) [c10] r10 := by
 rw [TCore.flat] at h
 simp only [encI, encS, Own_st] at h
 obtain ⟨_, rfl, -, h⟩ := OwnS_lf.1 h
 obtain ⟨_, rfl, -, h⟩ := OwnS_lf.1 h
 obtain ⟨_, rfl, -, h⟩ := OwnS_lf.1 h
 obtain ⟨_, rfl, -, h⟩ := OwnS_lf.1 h
 replace h := OwnS_stc.1 h
 simp only [List.cons_append, List.nil_append] at h
 obtain ⟨_, rfl, -, h⟩ := OwnS_lf.1 h
 obtain ⟨_, rfl, -, h⟩ := OwnS_lf.1 h
 obtain ⟨c6, _, r6, _, rfl, rfl, o6, h⟩ := OwnS_sl.1 h
 obtain ⟨c7, _, r7, _, rfl, rfl, o7, h⟩ := OwnS_sl.1 h
 obtain ⟨c8, _, r8, _, rfl, rfl, o8, h⟩ := OwnS_sl.1 h
 obtain ⟨c9, _, r9, _, rfl, rfl, o9, h⟩ := OwnS_sl.1 h
 obtain ⟨c10, _, r10, _, rfl, rfl, o10, h⟩ := OwnS_sl.1 h
 obtain ⟨rfl, rfl⟩ := OwnS_nil.1 h
 exact ⟨c6, c7, c8, c9, c10, r6, r7, r8, r9, r10, rfl, rfl, o6, o7, o8, o9, o10⟩
set_option maxHeartbeats 1000000 in
theorem TCore.mk_flat {w : World} {x : TCore} {k : Int} {c6 c7 c8 c9 c10 : Value} {r6 r7 r8 r9 r10 : List Nat} (h0 : 0 ≤ k) (h1 : k + (cnt x.enc : Nat) ≤ 4611686018427387904) (o6 : Own w (.sl (mks (k + 1 + 1 + 1 + 1 + 1 + 1) (x.fType.fArgs.map TType.enc))) [c6] r6) (o7 : Own w (.sl (mks (k + 1 + 1 + 1 + 1 + 1 + 1 + (cnts (x.fType.fArgs.map TType.enc) : Nat)) (x.fTypeArgs.map TType.enc))) [c7] r7) (o8 : Own w (.sl (mks (k + 1 + 1 + 1 + 1 + 1 + 1 + (cnts (x.fType.fArgs.map TType.enc) : Nat) + (cnts (x.fTypeArgs.map TType.enc) : Nat)) (x.fEvidence.map TEvidence.enc))) [c8] r8) (o9 : Own w (.sl (mks (k + 1 + 1 + 1 + 1 + 1 + 1 + (cnts (x.fType.fArgs.map TType.enc) : Nat) + (cnts (x.fTypeArgs.map TType.enc) : Nat) + (cnts (x.fEvidence.map TEvidence.enc) : Nat)) (x.fArgs.map TCore.enc))) [c9] r9) (o10 : Own w (.sl (mks (k + 1 + 1 + 1 + 1 + 1 + 1 + (cnts (x.fType.fArgs.map TType.enc) : Nat) + (cnts (x.fTypeArgs.map TType.enc) : Nat) + (cnts (x.fEvidence.map TEvidence.enc) : Nat) + (cnts (x.fArgs.map TCore.enc) : Nat)) (x.fArms.map TCoreArm.enc))) [c10] r10) : Own w (mkd k x.enc) [.int .i64 (k), .string (mtext (k + 1)), .string (mtext (k + 1 + 1)), .int .i64 (k + 1 + 1 + 1), .int .i64 (k + 1 + 1 + 1 + 1), .string (mtext (k + 1 + 1 + 1 + 1 + 1)), c6, c7, c8, c9, c10] (r6 ++ (r7 ++ (r8 ++ (r9 ++ (r10 ++ ([])))))) := by
 rw [TCore.cnt_flat] at h1
 rw [TCore.flat]
 simp only [mkd, mks, mlit, encI, encS, cnt, cnts, Own_st]
 refine OwnS_lf.2 ⟨_, cons_eq (congrArg (Value.int .i64) (by omega)) rfl, inR_mk (by omega) (by omega), ?_⟩
 refine OwnS_lf.2 ⟨_, cons_eq (congrArg (fun z => Value.string (mtext z)) (by omega)) rfl, mtext_size (by omega), ?_⟩
 refine OwnS_lf.2 ⟨_, cons_eq (congrArg (fun z => Value.string (mtext z)) (by omega)) rfl, mtext_size (by omega), ?_⟩
 refine OwnS_lf.2 ⟨_, cons_eq (congrArg (Value.int .i64) (by omega)) rfl, inR_mk (by omega) (by omega), ?_⟩
 refine OwnS_stc.2 ?_
 simp only [List.cons_append, List.nil_append]
 refine OwnS_lf.2 ⟨_, cons_eq (congrArg (Value.int .i64) (by omega)) rfl, inR_mk (by omega) (by omega), ?_⟩
 refine OwnS_lf.2 ⟨_, cons_eq (congrArg (fun z => Value.string (mtext z)) (by omega)) rfl, mtext_size (by omega), ?_⟩
 refine OwnS_sl.2 ⟨c6, _, r6, _, rfl, rfl, own_k o6 (by omega), ?_⟩
 refine OwnS_sl.2 ⟨c7, _, r7, _, rfl, rfl, own_k o7 (by omega), ?_⟩
 refine OwnS_sl.2 ⟨c8, _, r8, _, rfl, rfl, own_k o8 (by omega), ?_⟩
 refine OwnS_sl.2 ⟨c9, _, r9, _, rfl, rfl, own_k o9 (by omega), ?_⟩
 refine OwnS_sl.2 ⟨c10, _, r10, _, rfl, rfl, own_k o10 (by omega), ?_⟩
 exact OwnS_nil.2 ⟨rfl, rfl⟩
set_option maxHeartbeats 1000000 in
theorem TCore.mrep_flat {w : World} {K : Nat → Prop} {x : TCore} {k : Int} {cs : List Value} (h : Rep w K (mkd k x.enc) cs) : ∃ (c6 : Value) (c7 : Value) (c8 : Value) (c9 : Value) (c10 : Value), cs = [.int .i64 (k), .string (mtext (k + 1)), .string (mtext (k + 1 + 1)), .int .i64 (k + 1 + 1 + 1), .int .i64 (k + 1 + 1 + 1 + 1), .string (mtext (k + 1 + 1 + 1 + 1 + 1)), c6, c7, c8, c9, c10] ∧ Rep w K (.sl (mks (k + 1 + 1 + 1 + 1 + 1 + 1) (x.fType.fArgs.map TType.enc))) [c6] ∧ Rep w K (.sl (mks (k + 1 + 1 + 1 + 1 + 1 + 1 + (cnts (x.fType.fArgs.map TType.enc) : Nat)) (x.fTypeArgs.map TType.enc))) [c7] ∧ Rep w K (.sl (mks (k + 1 + 1 + 1 + 1 + 1 + 1 + (cnts (x.fType.fArgs.map TType.enc) : Nat) + (cnts (x.fTypeArgs.map TType.enc) : Nat)) (x.fEvidence.map TEvidence.enc))) [c8] ∧ Rep w K (.sl (mks (k + 1 + 1 + 1 + 1 + 1 + 1 + (cnts (x.fType.fArgs.map TType.enc) : Nat) + (cnts (x.fTypeArgs.map TType.enc) : Nat) + (cnts (x.fEvidence.map TEvidence.enc) : Nat)) (x.fArgs.map TCore.enc))) [c9] ∧ Rep w K (.sl (mks (k + 1 + 1 + 1 + 1 + 1 + 1 + (cnts (x.fType.fArgs.map TType.enc) : Nat) + (cnts (x.fTypeArgs.map TType.enc) : Nat) + (cnts (x.fEvidence.map TEvidence.enc) : Nat) + (cnts (x.fArgs.map TCore.enc) : Nat)) (x.fArms.map TCoreArm.enc))) [c10] := by
 rw [TCore.flat] at h
 simp only [mkd, mks, mlit, encI, encS, cnt, cnts, Rep_st] at h
 obtain ⟨_, rfl, -, h⟩ := RepS_lf.1 h
 obtain ⟨_, rfl, -, h⟩ := RepS_lf.1 h
 obtain ⟨_, rfl, -, h⟩ := RepS_lf.1 h
 obtain ⟨_, rfl, -, h⟩ := RepS_lf.1 h
 replace h := RepS_stc.1 h
 simp only [List.cons_append, List.nil_append] at h
 obtain ⟨_, rfl, -, h⟩ := RepS_lf.1 h
 obtain ⟨_, rfl, -, h⟩ := RepS_lf.1 h
 obtain ⟨c6, _, rfl, o6, h⟩ := RepS_sl.1 h
 obtain ⟨c7, _, rfl, o7, h⟩ := RepS_sl.1 h
 obtain ⟨c8, _, rfl, o8, h⟩ := RepS_sl.1 h
 obtain ⟨c9, _, rfl, o9, h⟩ := RepS_sl.1 h
 obtain ⟨c10, _, rfl, o10, h⟩ := RepS_sl.1 h
 obtain rfl := RepS_nil.1 h
 exact ⟨c6, c7, c8, c9, c10, cons_eq (congrArg (Value.int .i64) (by omega)) (cons_eq (congrArg (fun z => Value.string (mtext z)) (by omega)) (cons_eq (congrArg (fun z => Value.string (mtext z)) (by omega)) (cons_eq (congrArg (Value.int .i64) (by omega)) (cons_eq (congrArg (Value.int .i64) (by omega)) (cons_eq (congrArg (fun z => Value.string (mtext z)) (by omega)) (cons_eq (rfl) (cons_eq (rfl) (cons_eq (rfl) (cons_eq (rfl) (cons_eq (rfl) (rfl))))))))))), rep_k o6 (by omega), rep_k o7 (by omega), rep_k o8 (by omega), rep_k o9 (by omega), rep_k o10 (by omega)⟩
theorem TCoreArm.flat (x : TCoreArm) : x.enc = .st [encS x.fConstructor, (.sl (x.fVars.map encS)), .st [encI x.fBody.fKind, encS x.fBody.fTrait, encS x.fBody.fName, encI x.fBody.fN, .st [encI x.fBody.fType.fKind, encS x.fBody.fType.fName, (.sl (x.fBody.fType.fArgs.map TType.enc))], (.sl (x.fBody.fTypeArgs.map TType.enc)), (.sl (x.fBody.fEvidence.map TEvidence.enc)), (.sl (x.fBody.fArgs.map TCore.enc)), (.sl (x.fBody.fArms.map TCoreArm.enc))]] := by
 simp only [TCoreArm.enc_eq, TCore.enc_eq, TType.enc_eq]
theorem TCoreArm.cnt_flat (x : TCoreArm) : cnt x.enc = 1 + cnts (x.fVars.map encS) + 1 + 1 + 1 + 1 + 1 + 1 + cnts (x.fBody.fType.fArgs.map TType.enc) + cnts (x.fBody.fTypeArgs.map TType.enc) + cnts (x.fBody.fEvidence.map TEvidence.enc) + cnts (x.fBody.fArgs.map TCore.enc) + cnts (x.fBody.fArms.map TCoreArm.enc) := by
 rw [TCoreArm.flat]
 simp only [encI, encS, cnt, cnts]
 omega
theorem TCoreArm.own_flat {w : World} {x : TCoreArm} {cs : List Value} {bs : List Nat} (h : Own w x.enc cs bs) : ∃ (c1 : Value) (c8 : Value) (c9 : Value) (c10 : Value) (c11 : Value) (c12 : Value) (r1 : List Nat) (r8 : List Nat) (r9 : List Nat) (r10 : List Nat) (r11 : List Nat) (r12 : List Nat), cs = [.string x.fConstructor, c1, .int .i64 x.fBody.fKind, .string x.fBody.fTrait, .string x.fBody.fName, .int .i64 x.fBody.fN, .int .i64 x.fBody.fType.fKind, .string x.fBody.fType.fName, c8, c9, c10, c11, c12] ∧ bs = r1 ++ (r8 ++ (r9 ++ (r10 ++ (r11 ++ (r12 ++ ([])))))) ∧ Own w (.sl (x.fVars.map encS)) [c1] r1 ∧ Own w (.sl (x.fBody.fType.fArgs.map TType.enc)) [c8] r8 ∧ Own w (.sl (x.fBody.fTypeArgs.map TType.enc)) [c9] r9 ∧ Own w (.sl (x.fBody.fEvidence.map TEvidence.enc)) [c10] r10 ∧ Own w (.sl (x.fBody.fArgs.map TCore.enc)) [c11] r11 ∧ Own w (.sl (x.fBody.fArms.map TCoreArm.enc)) [c12] r12 := by
 rw [TCoreArm.flat] at h
 simp only [encI, encS, Own_st] at h
 obtain ⟨_, rfl, -, h⟩ := OwnS_lf.1 h
 obtain ⟨c1, _, r1, _, rfl, rfl, o1, h⟩ := OwnS_sl.1 h
 replace h := OwnS_stc.1 h
 simp only [List.cons_append, List.nil_append] at h
 obtain ⟨_, rfl, -, h⟩ := OwnS_lf.1 h
 obtain ⟨_, rfl, -, h⟩ := OwnS_lf.1 h
 obtain ⟨_, rfl, -, h⟩ := OwnS_lf.1 h
 obtain ⟨_, rfl, -, h⟩ := OwnS_lf.1 h
 replace h := OwnS_stc.1 h
 simp only [List.cons_append, List.nil_append] at h
 obtain ⟨_, rfl, -, h⟩ := OwnS_lf.1 h
 obtain ⟨_, rfl, -, h⟩ := OwnS_lf.1 h
 obtain ⟨c8, _, r8, _, rfl, rfl, o8, h⟩ := OwnS_sl.1 h
 obtain ⟨c9, _, r9, _, rfl, rfl, o9, h⟩ := OwnS_sl.1 h
 obtain ⟨c10, _, r10, _, rfl, rfl, o10, h⟩ := OwnS_sl.1 h
 obtain ⟨c11, _, r11, _, rfl, rfl, o11, h⟩ := OwnS_sl.1 h
 obtain ⟨c12, _, r12, _, rfl, rfl, o12, h⟩ := OwnS_sl.1 h
 obtain ⟨rfl, rfl⟩ := OwnS_nil.1 h
 exact ⟨c1, c8, c9, c10, c11, c12, r1, r8, r9, r10, r11, r12, rfl, rfl, o1, o8, o9, o10, o11, o12⟩
set_option maxHeartbeats 1000000 in
theorem TCoreArm.mk_flat {w : World} {x : TCoreArm} {k : Int} {c1 c8 c9 c10 c11 c12 : Value} {r1 r8 r9 r10 r11 r12 : List Nat} (h0 : 0 ≤ k) (h1 : k + (cnt x.enc : Nat) ≤ 4611686018427387904) (o1 : Own w (.sl (mks (k + 1) (x.fVars.map encS))) [c1] r1) (o8 : Own w (.sl (mks (k + 1 + (cnts (x.fVars.map encS) : Nat) + 1 + 1 + 1 + 1 + 1 + 1) (x.fBody.fType.fArgs.map TType.enc))) [c8] r8) (o9 : Own w (.sl (mks (k + 1 + (cnts (x.fVars.map encS) : Nat) + 1 + 1 + 1 + 1 + 1 + 1 + (cnts (x.fBody.fType.fArgs.map TType.enc) : Nat)) (x.fBody.fTypeArgs.map TType.enc))) [c9] r9) (o10 : Own w (.sl (mks (k + 1 + (cnts (x.fVars.map encS) : Nat) + 1 + 1 + 1 + 1 + 1 + 1 + (cnts (x.fBody.fType.fArgs.map TType.enc) : Nat) + (cnts (x.fBody.fTypeArgs.map TType.enc) : Nat)) (x.fBody.fEvidence.map TEvidence.enc))) [c10] r10) (o11 : Own w (.sl (mks (k + 1 + (cnts (x.fVars.map encS) : Nat) + 1 + 1 + 1 + 1 + 1 + 1 + (cnts (x.fBody.fType.fArgs.map TType.enc) : Nat) + (cnts (x.fBody.fTypeArgs.map TType.enc) : Nat) + (cnts (x.fBody.fEvidence.map TEvidence.enc) : Nat)) (x.fBody.fArgs.map TCore.enc))) [c11] r11) (o12 : Own w (.sl (mks (k + 1 + (cnts (x.fVars.map encS) : Nat) + 1 + 1 + 1 + 1 + 1 + 1 + (cnts (x.fBody.fType.fArgs.map TType.enc) : Nat) + (cnts (x.fBody.fTypeArgs.map TType.enc) : Nat) + (cnts (x.fBody.fEvidence.map TEvidence.enc) : Nat) + (cnts (x.fBody.fArgs.map TCore.enc) : Nat)) (x.fBody.fArms.map TCoreArm.enc))) [c12] r12) : Own w (mkd k x.enc) [.string (mtext (k)), c1, .int .i64 (k + 1 + (cnts (x.fVars.map encS) : Nat)), .string (mtext (k + 1 + (cnts (x.fVars.map encS) : Nat) + 1)), .string (mtext (k + 1 + (cnts (x.fVars.map encS) : Nat) + 1 + 1)), .int .i64 (k + 1 + (cnts (x.fVars.map encS) : Nat) + 1 + 1 + 1), .int .i64 (k + 1 + (cnts (x.fVars.map encS) : Nat) + 1 + 1 + 1 + 1), .string (mtext (k + 1 + (cnts (x.fVars.map encS) : Nat) + 1 + 1 + 1 + 1 + 1)), c8, c9, c10, c11, c12] (r1 ++ (r8 ++ (r9 ++ (r10 ++ (r11 ++ (r12 ++ ([]))))))) := by
 rw [TCoreArm.cnt_flat] at h1
 rw [TCoreArm.flat]
 simp only [mkd, mks, mlit, encI, encS, cnt, cnts, Own_st]
 refine OwnS_lf.2 ⟨_, cons_eq (congrArg (fun z => Value.string (mtext z)) (by omega)) rfl, mtext_size (by omega), ?_⟩
 refine OwnS_sl.2 ⟨c1, _, r1, _, rfl, rfl, own_k o1 (by omega), ?_⟩
 refine OwnS_stc.2 ?_
 simp only [List.cons_append, List.nil_append]
 refine OwnS_lf.2 ⟨_, cons_eq (congrArg (Value.int .i64) (by omega)) rfl, inR_mk (by omega) (by omega), ?_⟩
 refine OwnS_lf.2 ⟨_, cons_eq (congrArg (fun z => Value.string (mtext z)) (by omega)) rfl, mtext_size (by omega), ?_⟩
 refine OwnS_lf.2 ⟨_, cons_eq (congrArg (fun z => Value.string (mtext z)) (by omega)) rfl, mtext_size (by omega), ?_⟩
 refine OwnS_lf.2 ⟨_, cons_eq (congrArg (Value.int .i64) (by omega)) rfl, inR_mk (by omega) (by omega), ?_⟩
 refine OwnS_stc.2 ?_
 simp only [List.cons_append, List.nil_append]
 refine OwnS_lf.2 ⟨_, cons_eq (congrArg (Value.int .i64) (by omega)) rfl, inR_mk (by omega) (by omega), ?_⟩
 refine OwnS_lf.2 ⟨_, cons_eq (congrArg (fun z => Value.string (mtext z)) (by omega)) rfl, mtext_size (by omega), ?_⟩
 refine OwnS_sl.2 ⟨c8, _, r8, _, rfl, rfl, own_k o8 (by omega), ?_⟩
 refine OwnS_sl.2 ⟨c9, _, r9, _, rfl, rfl, own_k o9 (by omega), ?_⟩
 refine OwnS_sl.2 ⟨c10, _, r10, _, rfl, rfl, own_k o10 (by omega), ?_⟩
 refine OwnS_sl.2 ⟨c11, _, r11, _, rfl, rfl, own_k o11 (by omega), ?_⟩
 refine OwnS_sl.2 ⟨c12, _, r12, _, rfl, rfl, own_k o12 (by omega), ?_⟩
 exact OwnS_nil.2 ⟨rfl, rfl⟩
set_option maxHeartbeats 1000000 in
theorem TCoreArm.mrep_flat {w : World} {K : Nat → Prop} {x : TCoreArm} {k : Int} {cs : List Value} (h : Rep w K (mkd k x.enc) cs) : ∃ (c1 : Value) (c8 : Value) (c9 : Value) (c10 : Value) (c11 : Value) (c12 : Value), cs = [.string (mtext (k)), c1, .int .i64 (k + 1 + (cnts (x.fVars.map encS) : Nat)), .string (mtext (k + 1 + (cnts (x.fVars.map encS) : Nat) + 1)), .string (mtext (k + 1 + (cnts (x.fVars.map encS) : Nat) + 1 + 1)), .int .i64 (k + 1 + (cnts (x.fVars.map encS) : Nat) + 1 + 1 + 1), .int .i64 (k + 1 + (cnts (x.fVars.map encS) : Nat) + 1 + 1 + 1 + 1), .string (mtext (k + 1 + (cnts (x.fVars.map encS) : Nat) + 1 + 1 + 1 + 1 + 1)), c8, c9, c10, c11, c12] ∧ Rep w K (.sl (mks (k + 1) (x.fVars.map encS))) [c1] ∧ Rep w K (.sl (mks (k + 1 + (cnts (x.fVars.map encS) : Nat) + 1 + 1 + 1 + 1 + 1 + 1) (x.fBody.fType.fArgs.map TType.enc))) [c8] ∧ Rep w K (.sl (mks (k + 1 + (cnts (x.fVars.map encS) : Nat) + 1 + 1 + 1 + 1 + 1 + 1 + (cnts (x.fBody.fType.fArgs.map TType.enc) : Nat)) (x.fBody.fTypeArgs.map TType.enc))) [c9] ∧ Rep w K (.sl (mks (k + 1 + (cnts (x.fVars.map encS) : Nat) + 1 + 1 + 1 + 1 + 1 + 1 + (cnts (x.fBody.fType.fArgs.map TType.enc) : Nat) + (cnts (x.fBody.fTypeArgs.map TType.enc) : Nat)) (x.fBody.fEvidence.map TEvidence.enc))) [c10] ∧ Rep w K (.sl (mks (k + 1 + (cnts (x.fVars.map encS) : Nat) + 1 + 1 + 1 + 1 + 1 + 1 + (cnts (x.fBody.fType.fArgs.map TType.enc) : Nat) + (cnts (x.fBody.fTypeArgs.map TType.enc) : Nat) + (cnts (x.fBody.fEvidence.map TEvidence.enc) : Nat)) (x.fBody.fArgs.map TCore.enc))) [c11] ∧ Rep w K (.sl (mks (k + 1 + (cnts (x.fVars.map encS) : Nat) + 1 + 1 + 1 + 1 + 1 + 1 + (cnts (x.fBody.fType.fArgs.map TType.enc) : Nat) + (cnts (x.fBody.fTypeArgs.map TType.enc) : Nat) + (cnts (x.fBody.fEvidence.map TEvidence.enc) : Nat) + (cnts (x.fBody.fArgs.map TCore.enc) : Nat)) (x.fBody.fArms.map TCoreArm.enc))) [c12] := by
 rw [TCoreArm.flat] at h
 simp only [mkd, mks, mlit, encI, encS, cnt, cnts, Rep_st] at h
 obtain ⟨_, rfl, -, h⟩ := RepS_lf.1 h
 obtain ⟨c1, _, rfl, o1, h⟩ := RepS_sl.1 h
 replace h := RepS_stc.1 h
 simp only [List.cons_append, List.nil_append] at h
 obtain ⟨_, rfl, -, h⟩ := RepS_lf.1 h
 obtain ⟨_, rfl, -, h⟩ := RepS_lf.1 h
 obtain ⟨_, rfl, -, h⟩ := RepS_lf.1 h
 obtain ⟨_, rfl, -, h⟩ := RepS_lf.1 h
 replace h := RepS_stc.1 h
 simp only [List.cons_append, List.nil_append] at h
 obtain ⟨_, rfl, -, h⟩ := RepS_lf.1 h
 obtain ⟨_, rfl, -, h⟩ := RepS_lf.1 h
 obtain ⟨c8, _, rfl, o8, h⟩ := RepS_sl.1 h
 obtain ⟨c9, _, rfl, o9, h⟩ := RepS_sl.1 h
 obtain ⟨c10, _, rfl, o10, h⟩ := RepS_sl.1 h
 obtain ⟨c11, _, rfl, o11, h⟩ := RepS_sl.1 h
 obtain ⟨c12, _, rfl, o12, h⟩ := RepS_sl.1 h
 obtain rfl := RepS_nil.1 h
 exact ⟨c1, c8, c9, c10, c11, c12, cons_eq (congrArg (fun z => Value.string (mtext z)) (by omega)) (cons_eq (rfl) (cons_eq (congrArg (Value.int .i64) (by omega)) (cons_eq (congrArg (fun z => Value.string (mtext z)) (by omega)) (cons_eq (congrArg (fun z => Value.string (mtext z)) (by omega)) (cons_eq (congrArg (Value.int .i64) (by omega)) (cons_eq (congrArg (Value.int .i64) (by omega)) (cons_eq (congrArg (fun z => Value.string (mtext z)) (by omega)) (cons_eq (rfl) (cons_eq (rfl) (cons_eq (rfl) (cons_eq (rfl) (cons_eq (rfl) (rfl))))))))))))), rep_k o1 (by omega), rep_k o8 (by omega), rep_k o9 (by omega), rep_k o10 (by omega), rep_k o11 (by omega), rep_k o12 (by omega)⟩
theorem TCode.flat (x : TCode) : x.enc = .st [encI x.fParams, (.sl (x.fList.map TInstr.enc))] := by
 simp only [TCode.enc_eq]
theorem TCode.cnt_flat (x : TCode) : cnt x.enc = 1 + cnts (x.fList.map TInstr.enc) := by
 rw [TCode.flat]
 simp only [encI, cnt, cnts]
 omega
theorem TCode.own_flat {w : World} {x : TCode} {cs : List Value} {bs : List Nat} (h : Own w x.enc cs bs) : ∃ (c1 : Value) (r1 : List Nat), cs = [.int .i64 x.fParams, c1] ∧ bs = r1 ++ ([]) ∧ Own w (.sl (x.fList.map TInstr.enc)) [c1] r1 := by
 rw [TCode.flat] at h
 simp only [encI, Own_st] at h
 obtain ⟨_, rfl, -, h⟩ := OwnS_lf.1 h
 obtain ⟨c1, _, r1, _, rfl, rfl, o1, h⟩ := OwnS_sl.1 h
 obtain ⟨rfl, rfl⟩ := OwnS_nil.1 h
 exact ⟨c1, r1, rfl, rfl, o1⟩
set_option maxHeartbeats 1000000 in
theorem TCode.mk_flat {w : World} {x : TCode} {k : Int} {c1 : Value} {r1 : List Nat} (h0 : 0 ≤ k) (h1 : k + (cnt x.enc : Nat) ≤ 4611686018427387904) (o1 : Own w (.sl (mks (k + 1) (x.fList.map TInstr.enc))) [c1] r1) : Own w (mkd k x.enc) [.int .i64 (k), c1] (r1 ++ ([])) := by
 rw [TCode.cnt_flat] at h1
 rw [TCode.flat]
 simp only [mkd, mks, mlit, encI, cnt, Own_st]
 refine OwnS_lf.2 ⟨_, cons_eq (congrArg (Value.int .i64) (by omega)) rfl, inR_mk (by omega) (by omega), ?_⟩
 refine OwnS_sl.2 ⟨c1, _, r1, _, rfl, rfl, own_k o1 (by omega), ?_⟩
 exact OwnS_nil.2 ⟨rfl, rfl⟩
set_option maxHeartbeats 1000000 in
theorem TCode.mrep_flat {w : World} {K : Nat → Prop} {x : TCode} {k : Int} {cs : List Value} (h : Rep w K (mkd k x.enc) cs) : ∃ (c1 : Value), cs = [.int .i64 (k), c1] ∧ Rep w K (.sl (mks (k + 1) (x.fList.map TInstr.enc))) [c1] := by
 rw [TCode.flat] at h
 simp only [mkd, mks, mlit, encI, cnt, Rep_st] at h
 obtain ⟨_, rfl, -, h⟩ := RepS_lf.1 h
 obtain ⟨c1, _, rfl, o1, h⟩ := RepS_sl.1 h
 obtain rfl := RepS_nil.1 h
 exact ⟨c1, cons_eq (congrArg (Value.int .i64) (by omega)) (cons_eq (rfl) (rfl)), rep_k o1 (by omega)⟩
theorem TMonoProgram.flat (x : TMonoProgram) : x.enc = .st [(.sl (x.fSpecializations.map TSpecialization.enc)), (.sl (x.fTables.map TMethodTable.enc))] := by
 simp only [TMonoProgram.enc_eq]
theorem TMonoProgram.cnt_flat (x : TMonoProgram) : cnt x.enc = cnts (x.fSpecializations.map TSpecialization.enc) + cnts (x.fTables.map TMethodTable.enc) := by
 rw [TMonoProgram.flat]
 simp only [cnt, cnts]
 omega
theorem TMonoProgram.own_flat {w : World} {x : TMonoProgram} {cs : List Value} {bs : List Nat} (h : Own w x.enc cs bs) : ∃ (c0 : Value) (c1 : Value) (r0 : List Nat) (r1 : List Nat), cs = [c0, c1] ∧ bs = r0 ++ (r1 ++ ([])) ∧ Own w (.sl (x.fSpecializations.map TSpecialization.enc)) [c0] r0 ∧ Own w (.sl (x.fTables.map TMethodTable.enc)) [c1] r1 := by
 rw [TMonoProgram.flat] at h
 simp only [Own_st] at h
 obtain ⟨c0, _, r0, _, rfl, rfl, o0, h⟩ := OwnS_sl.1 h
 obtain ⟨c1, _, r1, _, rfl, rfl, o1, h⟩ := OwnS_sl.1 h
 obtain ⟨rfl, rfl⟩ := OwnS_nil.1 h
 exact ⟨c0, c1, r0, r1, rfl, rfl, o0, o1⟩
set_option maxHeartbeats 1000000 in
theorem TMonoProgram.mk_flat {w : World} {x : TMonoProgram} {k : Int} {c0 c1 : Value} {r0 r1 : List Nat} (_h0 : 0 ≤ k) (_h1 : k + (cnt x.enc : Nat) ≤ 4611686018427387904) (o0 : Own w (.sl (mks (k) (x.fSpecializations.map TSpecialization.enc))) [c0] r0) (o1 : Own w (.sl (mks (k + (cnts (x.fSpecializations.map TSpecialization.enc) : Nat)) (x.fTables.map TMethodTable.enc))) [c1] r1) : Own w (mkd k x.enc) [c0, c1] (r0 ++ (r1 ++ ([]))) := by
 rw [TMonoProgram.flat]
 simp only [mkd, mks, cnt, Own_st]
 refine OwnS_sl.2 ⟨c0, _, r0, _, rfl, rfl, own_k o0 (by omega), ?_⟩
 refine OwnS_sl.2 ⟨c1, _, r1, _, rfl, rfl, own_k o1 (by omega), ?_⟩
 exact OwnS_nil.2 ⟨rfl, rfl⟩
set_option maxHeartbeats 1000000 in
theorem TMonoProgram.mrep_flat {w : World} {K : Nat → Prop} {x : TMonoProgram} {k : Int} {cs : List Value} (h : Rep w K (mkd k x.enc) cs) : ∃ (c0 : Value) (c1 : Value), cs = [c0, c1] ∧ Rep w K (.sl (mks (k) (x.fSpecializations.map TSpecialization.enc))) [c0] ∧ Rep w K (.sl (mks (k + (cnts (x.fSpecializations.map TSpecialization.enc) : Nat)) (x.fTables.map TMethodTable.enc))) [c1] := by
 rw [TMonoProgram.flat] at h
 simp only [mkd, mks, cnt, Rep_st] at h
 obtain ⟨c0, _, rfl, o0, h⟩ := RepS_sl.1 h
 obtain ⟨c1, _, rfl, o1, h⟩ := RepS_sl.1 h
 obtain rfl := RepS_nil.1 h
 exact ⟨c0, c1, cons_eq (rfl) (cons_eq (rfl) (rfl)), rep_k o0 (by omega), rep_k o1 (by omega)⟩
theorem TMachine.flat (x : TMachine) : x.enc = .st [(.sl (x.fCodes.map TCode.enc)), (.sl (x.fTables.map TMethodTable.enc))] := by
 simp only [TMachine.enc_eq]
theorem TMachine.cnt_flat (x : TMachine) : cnt x.enc = cnts (x.fCodes.map TCode.enc) + cnts (x.fTables.map TMethodTable.enc) := by
 rw [TMachine.flat]
 simp only [cnt, cnts]
 omega
theorem TMachine.own_flat {w : World} {x : TMachine} {cs : List Value} {bs : List Nat} (h : Own w x.enc cs bs) : ∃ (c0 : Value) (c1 : Value) (r0 : List Nat) (r1 : List Nat), cs = [c0, c1] ∧ bs = r0 ++ (r1 ++ ([])) ∧ Own w (.sl (x.fCodes.map TCode.enc)) [c0] r0 ∧ Own w (.sl (x.fTables.map TMethodTable.enc)) [c1] r1 := by
 rw [TMachine.flat] at h
 simp only [Own_st] at h
 obtain ⟨c0, _, r0, _, rfl, rfl, o0, h⟩ := OwnS_sl.1 h
 obtain ⟨c1, _, r1, _, rfl, rfl, o1, h⟩ := OwnS_sl.1 h
 obtain ⟨rfl, rfl⟩ := OwnS_nil.1 h
 exact ⟨c0, c1, r0, r1, rfl, rfl, o0, o1⟩
set_option maxHeartbeats 1000000 in
theorem TMachine.mk_flat {w : World} {x : TMachine} {k : Int} {c0 c1 : Value} {r0 r1 : List Nat} (_h0 : 0 ≤ k) (_h1 : k + (cnt x.enc : Nat) ≤ 4611686018427387904) (o0 : Own w (.sl (mks (k) (x.fCodes.map TCode.enc))) [c0] r0) (o1 : Own w (.sl (mks (k + (cnts (x.fCodes.map TCode.enc) : Nat)) (x.fTables.map TMethodTable.enc))) [c1] r1) : Own w (mkd k x.enc) [c0, c1] (r0 ++ (r1 ++ ([]))) := by
 rw [TMachine.flat]
 simp only [mkd, mks, cnt, Own_st]
 refine OwnS_sl.2 ⟨c0, _, r0, _, rfl, rfl, own_k o0 (by omega), ?_⟩
 refine OwnS_sl.2 ⟨c1, _, r1, _, rfl, rfl, own_k o1 (by omega), ?_⟩
 exact OwnS_nil.2 ⟨rfl, rfl⟩
set_option maxHeartbeats 1000000 in
theorem TMachine.mrep_flat {w : World} {K : Nat → Prop} {x : TMachine} {k : Int} {cs : List Value} (h : Rep w K (mkd k x.enc) cs) : ∃ (c0 : Value) (c1 : Value), cs = [c0, c1] ∧ Rep w K (.sl (mks (k) (x.fCodes.map TCode.enc))) [c0] ∧ Rep w K (.sl (mks (k + (cnts (x.fCodes.map TCode.enc) : Nat)) (x.fTables.map TMethodTable.enc))) [c1] := by
 rw [TMachine.flat] at h
 simp only [mkd, mks, cnt, Rep_st] at h
 obtain ⟨c0, _, rfl, o0, h⟩ := RepS_sl.1 h
 obtain ⟨c1, _, rfl, o1, h⟩ := RepS_sl.1 h
 obtain rfl := RepS_nil.1 h
 exact ⟨c0, c1, cons_eq (rfl) (cons_eq (rfl) (rfl)), rep_k o0 (by omega), rep_k o1 (by omega)⟩
theorem TInstr.flat (x : TInstr) : x.enc = .st [encI x.fOp, encI x.fA, encI x.fB, encS x.fTrait, encS x.fName] := by
 simp only [TInstr.enc_eq]
theorem TInstr.cnt_flat (x : TInstr) : cnt x.enc = 1 + 1 + 1 + 1 + 1 := by
 rw [TInstr.flat]
 simp only [encI, encS, cnt, cnts]
theorem TInstr.own_flat {w : World} {x : TInstr} {cs : List Value} {bs : List Nat} (h : Own w x.enc cs bs) : cs = [.int .i64 x.fOp, .int .i64 x.fA, .int .i64 x.fB, .string x.fTrait, .string x.fName] ∧ bs = [] := by
 rw [TInstr.flat] at h
 simp only [encI, encS, Own_st] at h
 obtain ⟨_, rfl, -, h⟩ := OwnS_lf.1 h
 obtain ⟨_, rfl, -, h⟩ := OwnS_lf.1 h
 obtain ⟨_, rfl, -, h⟩ := OwnS_lf.1 h
 obtain ⟨_, rfl, -, h⟩ := OwnS_lf.1 h
 obtain ⟨_, rfl, -, h⟩ := OwnS_lf.1 h
 obtain ⟨rfl, rfl⟩ := OwnS_nil.1 h
 exact ⟨rfl, rfl⟩
set_option maxHeartbeats 1000000 in
theorem TInstr.mk_flat {w : World} {x : TInstr} {k : Int} (h0 : 0 ≤ k) (h1 : k + (cnt x.enc : Nat) ≤ 4611686018427387904) : Own w (mkd k x.enc) [.int .i64 (k), .int .i64 (k + 1), .int .i64 (k + 1 + 1), .string (mtext (k + 1 + 1 + 1)), .string (mtext (k + 1 + 1 + 1 + 1))] ([]) := by
 rw [TInstr.cnt_flat] at h1
 rw [TInstr.flat]
 simp only [mkd, mks, mlit, encI, encS, cnt, Own_st]
 refine OwnS_lf.2 ⟨_, cons_eq (congrArg (Value.int .i64) (by omega)) rfl, inR_mk (by omega) (by omega), ?_⟩
 refine OwnS_lf.2 ⟨_, cons_eq (congrArg (Value.int .i64) (by omega)) rfl, inR_mk (by omega) (by omega), ?_⟩
 refine OwnS_lf.2 ⟨_, cons_eq (congrArg (Value.int .i64) (by omega)) rfl, inR_mk (by omega) (by omega), ?_⟩
 refine OwnS_lf.2 ⟨_, cons_eq (congrArg (fun z => Value.string (mtext z)) (by omega)) rfl, mtext_size (by omega), ?_⟩
 refine OwnS_lf.2 ⟨_, cons_eq (congrArg (fun z => Value.string (mtext z)) (by omega)) rfl, mtext_size (by omega), ?_⟩
 exact OwnS_nil.2 ⟨rfl, rfl⟩
set_option maxHeartbeats 1000000 in
theorem TInstr.mrep_flat {w : World} {K : Nat → Prop} {x : TInstr} {k : Int} {cs : List Value} (h : Rep w K (mkd k x.enc) cs) : cs = [.int .i64 (k), .int .i64 (k + 1), .int .i64 (k + 1 + 1), .string (mtext (k + 1 + 1 + 1)), .string (mtext (k + 1 + 1 + 1 + 1))] := by
 rw [TInstr.flat] at h
 simp only [mkd, mks, mlit, encI, encS, cnt, Rep_st] at h
 obtain ⟨_, rfl, -, h⟩ := RepS_lf.1 h
 obtain ⟨_, rfl, -, h⟩ := RepS_lf.1 h
 obtain ⟨_, rfl, -, h⟩ := RepS_lf.1 h
 obtain ⟨_, rfl, -, h⟩ := RepS_lf.1 h
 obtain ⟨_, rfl, -, h⟩ := RepS_lf.1 h
 obtain rfl := RepS_nil.1 h
 exact cons_eq (congrArg (Value.int .i64) (by omega)) (cons_eq (congrArg (Value.int .i64) (by omega)) (cons_eq (congrArg (Value.int .i64) (by omega)) (cons_eq (congrArg (fun z => Value.string (mtext z)) (by omega)) (cons_eq (congrArg (fun z => Value.string (mtext z)) (by omega)) (rfl)))))
theorem TType.flat (x : TType) : x.enc = .st [encI x.fKind, encS x.fName, (.sl (x.fArgs.map TType.enc))] := by
 simp only [TType.enc_eq]
theorem TType.cnt_flat (x : TType) : cnt x.enc = 1 + 1 + cnts (x.fArgs.map TType.enc) := by
 rw [TType.flat]
 simp only [encI, encS, cnt, cnts]
 omega
theorem TType.own_flat {w : World} {x : TType} {cs : List Value} {bs : List Nat} (h : Own w x.enc cs bs) : ∃ (c2 : Value) (r2 : List Nat), cs = [.int .i64 x.fKind, .string x.fName, c2] ∧ bs = r2 ++ ([]) ∧ Own w (.sl (x.fArgs.map TType.enc)) [c2] r2 := by
 rw [TType.flat] at h
 simp only [encI, encS, Own_st] at h
 obtain ⟨_, rfl, -, h⟩ := OwnS_lf.1 h
 obtain ⟨_, rfl, -, h⟩ := OwnS_lf.1 h
 obtain ⟨c2, _, r2, _, rfl, rfl, o2, h⟩ := OwnS_sl.1 h
 obtain ⟨rfl, rfl⟩ := OwnS_nil.1 h
 exact ⟨c2, r2, rfl, rfl, o2⟩
set_option maxHeartbeats 1000000 in
theorem TType.mk_flat {w : World} {x : TType} {k : Int} {c2 : Value} {r2 : List Nat} (h0 : 0 ≤ k) (h1 : k + (cnt x.enc : Nat) ≤ 4611686018427387904) (o2 : Own w (.sl (mks (k + 1 + 1) (x.fArgs.map TType.enc))) [c2] r2) : Own w (mkd k x.enc) [.int .i64 (k), .string (mtext (k + 1)), c2] (r2 ++ ([])) := by
 rw [TType.cnt_flat] at h1
 rw [TType.flat]
 simp only [mkd, mks, mlit, encI, encS, cnt, Own_st]
 refine OwnS_lf.2 ⟨_, cons_eq (congrArg (Value.int .i64) (by omega)) rfl, inR_mk (by omega) (by omega), ?_⟩
 refine OwnS_lf.2 ⟨_, cons_eq (congrArg (fun z => Value.string (mtext z)) (by omega)) rfl, mtext_size (by omega), ?_⟩
 refine OwnS_sl.2 ⟨c2, _, r2, _, rfl, rfl, own_k o2 (by omega), ?_⟩
 exact OwnS_nil.2 ⟨rfl, rfl⟩
set_option maxHeartbeats 1000000 in
theorem TType.mrep_flat {w : World} {K : Nat → Prop} {x : TType} {k : Int} {cs : List Value} (h : Rep w K (mkd k x.enc) cs) : ∃ (c2 : Value), cs = [.int .i64 (k), .string (mtext (k + 1)), c2] ∧ Rep w K (.sl (mks (k + 1 + 1) (x.fArgs.map TType.enc))) [c2] := by
 rw [TType.flat] at h
 simp only [mkd, mks, mlit, encI, encS, cnt, Rep_st] at h
 obtain ⟨_, rfl, -, h⟩ := RepS_lf.1 h
 obtain ⟨_, rfl, -, h⟩ := RepS_lf.1 h
 obtain ⟨c2, _, rfl, o2, h⟩ := RepS_sl.1 h
 obtain rfl := RepS_nil.1 h
 exact ⟨c2, cons_eq (congrArg (Value.int .i64) (by omega)) (cons_eq (congrArg (fun z => Value.string (mtext z)) (by omega)) (cons_eq (rfl) (rfl))), rep_k o2 (by omega)⟩
theorem TEvidence.flat (x : TEvidence) : x.enc = .st [encI x.fKind, encI x.fN, .st [encI x.fAt.fPackage, encI x.fAt.fAt], (.sl (x.fArgs.map TEvidence.enc))] := by
 simp only [TEvidence.enc_eq, TInstanceRef.enc_eq]
theorem TEvidence.cnt_flat (x : TEvidence) : cnt x.enc = 1 + 1 + 1 + 1 + cnts (x.fArgs.map TEvidence.enc) := by
 rw [TEvidence.flat]
 simp only [encI, cnt, cnts]
 omega
theorem TEvidence.own_flat {w : World} {x : TEvidence} {cs : List Value} {bs : List Nat} (h : Own w x.enc cs bs) : ∃ (c4 : Value) (r4 : List Nat), cs = [.int .i64 x.fKind, .int .i64 x.fN, .int .i64 x.fAt.fPackage, .int .i64 x.fAt.fAt, c4] ∧ bs = r4 ++ ([]) ∧ Own w (.sl (x.fArgs.map TEvidence.enc)) [c4] r4 := by
 rw [TEvidence.flat] at h
 simp only [encI, Own_st] at h
 obtain ⟨_, rfl, -, h⟩ := OwnS_lf.1 h
 obtain ⟨_, rfl, -, h⟩ := OwnS_lf.1 h
 replace h := OwnS_stc.1 h
 simp only [List.cons_append, List.nil_append] at h
 obtain ⟨_, rfl, -, h⟩ := OwnS_lf.1 h
 obtain ⟨_, rfl, -, h⟩ := OwnS_lf.1 h
 obtain ⟨c4, _, r4, _, rfl, rfl, o4, h⟩ := OwnS_sl.1 h
 obtain ⟨rfl, rfl⟩ := OwnS_nil.1 h
 exact ⟨c4, r4, rfl, rfl, o4⟩
set_option maxHeartbeats 1000000 in
theorem TEvidence.mk_flat {w : World} {x : TEvidence} {k : Int} {c4 : Value} {r4 : List Nat} (h0 : 0 ≤ k) (h1 : k + (cnt x.enc : Nat) ≤ 4611686018427387904) (o4 : Own w (.sl (mks (k + 1 + 1 + 1 + 1) (x.fArgs.map TEvidence.enc))) [c4] r4) : Own w (mkd k x.enc) [.int .i64 (k), .int .i64 (k + 1), .int .i64 (k + 1 + 1), .int .i64 (k + 1 + 1 + 1), c4] (r4 ++ ([])) := by
 rw [TEvidence.cnt_flat] at h1
 rw [TEvidence.flat]
 simp only [mkd, mks, mlit, encI, cnt, cnts, Own_st]
 refine OwnS_lf.2 ⟨_, cons_eq (congrArg (Value.int .i64) (by omega)) rfl, inR_mk (by omega) (by omega), ?_⟩
 refine OwnS_lf.2 ⟨_, cons_eq (congrArg (Value.int .i64) (by omega)) rfl, inR_mk (by omega) (by omega), ?_⟩
 refine OwnS_stc.2 ?_
 simp only [List.cons_append, List.nil_append]
 refine OwnS_lf.2 ⟨_, cons_eq (congrArg (Value.int .i64) (by omega)) rfl, inR_mk (by omega) (by omega), ?_⟩
 refine OwnS_lf.2 ⟨_, cons_eq (congrArg (Value.int .i64) (by omega)) rfl, inR_mk (by omega) (by omega), ?_⟩
 refine OwnS_sl.2 ⟨c4, _, r4, _, rfl, rfl, own_k o4 (by omega), ?_⟩
 exact OwnS_nil.2 ⟨rfl, rfl⟩
set_option maxHeartbeats 1000000 in
theorem TEvidence.mrep_flat {w : World} {K : Nat → Prop} {x : TEvidence} {k : Int} {cs : List Value} (h : Rep w K (mkd k x.enc) cs) : ∃ (c4 : Value), cs = [.int .i64 (k), .int .i64 (k + 1), .int .i64 (k + 1 + 1), .int .i64 (k + 1 + 1 + 1), c4] ∧ Rep w K (.sl (mks (k + 1 + 1 + 1 + 1) (x.fArgs.map TEvidence.enc))) [c4] := by
 rw [TEvidence.flat] at h
 simp only [mkd, mks, mlit, encI, cnt, cnts, Rep_st] at h
 obtain ⟨_, rfl, -, h⟩ := RepS_lf.1 h
 obtain ⟨_, rfl, -, h⟩ := RepS_lf.1 h
 replace h := RepS_stc.1 h
 simp only [List.cons_append, List.nil_append] at h
 obtain ⟨_, rfl, -, h⟩ := RepS_lf.1 h
 obtain ⟨_, rfl, -, h⟩ := RepS_lf.1 h
 obtain ⟨c4, _, rfl, o4, h⟩ := RepS_sl.1 h
 obtain rfl := RepS_nil.1 h
 exact ⟨c4, cons_eq (congrArg (Value.int .i64) (by omega)) (cons_eq (congrArg (Value.int .i64) (by omega)) (cons_eq (congrArg (Value.int .i64) (by omega)) (cons_eq (congrArg (Value.int .i64) (by omega)) (cons_eq (rfl) (rfl))))), rep_k o4 (by omega)⟩
theorem TMethodEntry.flat (x : TMethodEntry) : x.enc = .st [encS x.fTrait, encS x.fName, encI x.fSpecialization] := by
 simp only [TMethodEntry.enc_eq]
theorem TMethodEntry.cnt_flat (x : TMethodEntry) : cnt x.enc = 1 + 1 + 1 := by
 rw [TMethodEntry.flat]
 simp only [encI, encS, cnt, cnts]
theorem TMethodEntry.own_flat {w : World} {x : TMethodEntry} {cs : List Value} {bs : List Nat} (h : Own w x.enc cs bs) : cs = [.string x.fTrait, .string x.fName, .int .i64 x.fSpecialization] ∧ bs = [] := by
 rw [TMethodEntry.flat] at h
 simp only [encI, encS, Own_st] at h
 obtain ⟨_, rfl, -, h⟩ := OwnS_lf.1 h
 obtain ⟨_, rfl, -, h⟩ := OwnS_lf.1 h
 obtain ⟨_, rfl, -, h⟩ := OwnS_lf.1 h
 obtain ⟨rfl, rfl⟩ := OwnS_nil.1 h
 exact ⟨rfl, rfl⟩
set_option maxHeartbeats 1000000 in
theorem TMethodEntry.mk_flat {w : World} {x : TMethodEntry} {k : Int} (h0 : 0 ≤ k) (h1 : k + (cnt x.enc : Nat) ≤ 4611686018427387904) : Own w (mkd k x.enc) [.string (mtext (k)), .string (mtext (k + 1)), .int .i64 (k + 1 + 1)] ([]) := by
 rw [TMethodEntry.cnt_flat] at h1
 rw [TMethodEntry.flat]
 simp only [mkd, mks, mlit, encI, encS, cnt, Own_st]
 refine OwnS_lf.2 ⟨_, cons_eq (congrArg (fun z => Value.string (mtext z)) (by omega)) rfl, mtext_size (by omega), ?_⟩
 refine OwnS_lf.2 ⟨_, cons_eq (congrArg (fun z => Value.string (mtext z)) (by omega)) rfl, mtext_size (by omega), ?_⟩
 refine OwnS_lf.2 ⟨_, cons_eq (congrArg (Value.int .i64) (by omega)) rfl, inR_mk (by omega) (by omega), ?_⟩
 exact OwnS_nil.2 ⟨rfl, rfl⟩
set_option maxHeartbeats 1000000 in
theorem TMethodEntry.mrep_flat {w : World} {K : Nat → Prop} {x : TMethodEntry} {k : Int} {cs : List Value} (h : Rep w K (mkd k x.enc) cs) : cs = [.string (mtext (k)), .string (mtext (k + 1)), .int .i64 (k + 1 + 1)] := by
 rw [TMethodEntry.flat] at h
 simp only [mkd, mks, mlit, encI, encS, cnt, Rep_st] at h
 obtain ⟨_, rfl, -, h⟩ := RepS_lf.1 h
 obtain ⟨_, rfl, -, h⟩ := RepS_lf.1 h
 obtain ⟨_, rfl, -, h⟩ := RepS_lf.1 h
 obtain rfl := RepS_nil.1 h
 exact cons_eq (congrArg (fun z => Value.string (mtext z)) (by omega)) (cons_eq (congrArg (fun z => Value.string (mtext z)) (by omega)) (cons_eq (congrArg (Value.int .i64) (by omega)) (rfl)))
theorem TInstanceRef.tcnt_eq (x : TInstanceRef) : tcnt x.enc = 0 := by
 rw [TInstanceRef.enc_eq]
 simp only [tcnt, tcnts, encI]
theorem TInstanceRef.tmk_id (x : TInstanceRef) (k : Int) : tmk k x.enc = x.enc := by
 rw [TInstanceRef.enc_eq]
 simp only [tmk, tmks, encI]
theorem TEvidence.tcnt_eq (x : TEvidence) : tcnt x.enc = cnts (x.fArgs.map TEvidence.enc) := by
 rw [TEvidence.enc_eq]
 simp only [tcnt, tcnts, encI, TInstanceRef.tcnt_eq]
 omega
theorem TEvidence.own_open {w : World} {x : TEvidence} {cs : List Value} {bs : List Nat} (h : Own w x.enc cs bs) : ∃ (c2 : Value) (c3 : Value) (c4 : Value) (r2 : List Nat) (r4 : List Nat), cs = [.int .i64 x.fKind, .int .i64 x.fN, c2, c3, c4] ∧ bs = r2 ++ (r4 ++ ([])) ∧ InR x.fKind ∧ InR x.fN ∧ Own w x.fAt.enc [c2, c3] r2 ∧ Own w (.sl (x.fArgs.map TEvidence.enc)) [c4] r4 := by
 rw [TEvidence.enc_eq] at h
 simp only [Own_st, encI] at h
 obtain ⟨_, rfl, k0, h⟩ := OwnS_lf.1 h
 obtain ⟨_, rfl, k1, h⟩ := OwnS_lf.1 h
 obtain ⟨u2, _, r2, _, rfl, rfl, o2, h⟩ := OwnS_cons.1 h
 obtain ⟨u4, _, r4, _, rfl, rfl, o4, h⟩ := OwnS_cons.1 h
 obtain ⟨rfl, rfl⟩ := OwnS_nil.1 h
 obtain ⟨c2, c3, rfl⟩ := len2 ((Rep.length (K := fun _ => True) _ _ (Own.rep _ _ _ o2 (fun _ _ => trivial))).trans (TInstanceRef.width _))
 obtain ⟨c4, rfl⟩ := own_one o4
 exact ⟨c2, c3, c4, r2, r4, rfl, rfl, k0, k1, o2, o4⟩
set_option maxHeartbeats 1000000 in
theorem TEvidence.tmk_own {w : World} {x : TEvidence} {k : Int} {c2 c3 c4 : Value} {r2 r4 : List Nat} (k0 : InR x.fKind) (k1 : InR x.fN) (o2 : Own w x.fAt.enc [c2, c3] r2) (o4 : Own w (.sl (mks (k) (x.fArgs.map TEvidence.enc))) [c4] r4) : Own w (tmk k x.enc) [.int .i64 x.fKind, .int .i64 x.fN, c2, c3, c4] (r2 ++ (r4 ++ ([]))) := by
 rw [TEvidence.enc_eq]
 simp only [tmk, tmks, encI, TInstanceRef.tmk_id, TInstanceRef.tcnt_eq, tcnt, Own_st]
 refine OwnS_lf.2 ⟨_, rfl, k0, ?_⟩
 refine OwnS_lf.2 ⟨_, rfl, k1, ?_⟩
 refine OwnS_cons.2 ⟨[c2, c3], _, r2, _, rfl, rfl, o2, ?_⟩
 refine OwnS_cons.2 ⟨[c4], _, r4, _, rfl, rfl, (own_k o4 (by omega)), ?_⟩
 exact OwnS_nil.2 ⟨rfl, rfl⟩
set_option maxHeartbeats 1000000 in
theorem TEvidence.tmrep_open {w : World} {K : Nat → Prop} {x : TEvidence} {k : Int} {cs : List Value} (h : Rep w K (tmk k x.enc) cs) : ∃ (c2 : Value) (c3 : Value) (c4 : Value), cs = [.int .i64 x.fKind, .int .i64 x.fN, c2, c3, c4] ∧ Rep w K (.sl (mks (k) (x.fArgs.map TEvidence.enc))) [c4] := by
 rw [TEvidence.enc_eq] at h
 simp only [tmk, tmks, encI, TInstanceRef.tmk_id, TInstanceRef.tcnt_eq, tcnt, Rep_st] at h
 obtain ⟨_, rfl, -, h⟩ := RepS_lf.1 h
 obtain ⟨_, rfl, -, h⟩ := RepS_lf.1 h
 obtain ⟨u2, _, rfl, o2, h⟩ := RepS_cons.1 h
 obtain ⟨u4, _, rfl, o4, h⟩ := RepS_cons.1 h
 obtain rfl := RepS_nil.1 h
 obtain ⟨c2, c3, rfl⟩ := len2 ((Rep.length _ _ o2).trans (TInstanceRef.width _))
 obtain ⟨c4, rfl⟩ := rep_one o4
 exact ⟨c2, c3, c4, rfl, (rep_k o4 (by omega))⟩
theorem TInstr.tcnt_eq (x : TInstr) : tcnt x.enc = 0 := by
 rw [TInstr.enc_eq]
 simp only [tcnt, tcnts, encI, encS]
theorem TInstr.tmk_id (x : TInstr) (k : Int) : tmk k x.enc = x.enc := by
 rw [TInstr.enc_eq]
 simp only [tmk, tmks, encI, encS]
theorem TCode.tcnt_eq (x : TCode) : tcnt x.enc = cnts (x.fList.map TInstr.enc) := by
 rw [TCode.enc_eq]
 simp only [tcnt, tcnts, encI]
 omega
theorem TCode.own_open {w : World} {x : TCode} {cs : List Value} {bs : List Nat} (h : Own w x.enc cs bs) : ∃ (c1 : Value) (r1 : List Nat), cs = [.int .i64 x.fParams, c1] ∧ bs = r1 ++ ([]) ∧ InR x.fParams ∧ Own w (.sl (x.fList.map TInstr.enc)) [c1] r1 := by
 rw [TCode.enc_eq] at h
 simp only [Own_st, encI] at h
 obtain ⟨_, rfl, k0, h⟩ := OwnS_lf.1 h
 obtain ⟨u1, _, r1, _, rfl, rfl, o1, h⟩ := OwnS_cons.1 h
 obtain ⟨rfl, rfl⟩ := OwnS_nil.1 h
 obtain ⟨c1, rfl⟩ := own_one o1
 exact ⟨c1, r1, rfl, rfl, k0, o1⟩
set_option maxHeartbeats 1000000 in
theorem TCode.tmk_own {w : World} {x : TCode} {k : Int} {c1 : Value} {r1 : List Nat} (k0 : InR x.fParams) (o1 : Own w (.sl (mks (k) (x.fList.map TInstr.enc))) [c1] r1) : Own w (tmk k x.enc) [.int .i64 x.fParams, c1] (r1 ++ ([])) := by
 rw [TCode.enc_eq]
 simp only [tmk, tmks, encI, tcnt, Own_st]
 refine OwnS_lf.2 ⟨_, rfl, k0, ?_⟩
 refine OwnS_cons.2 ⟨[c1], _, r1, _, rfl, rfl, (own_k o1 (by omega)), ?_⟩
 exact OwnS_nil.2 ⟨rfl, rfl⟩
set_option maxHeartbeats 1000000 in
theorem TCode.tmrep_open {w : World} {K : Nat → Prop} {x : TCode} {k : Int} {cs : List Value} (h : Rep w K (tmk k x.enc) cs) : ∃ (c1 : Value), cs = [.int .i64 x.fParams, c1] ∧ Rep w K (.sl (mks (k) (x.fList.map TInstr.enc))) [c1] := by
 rw [TCode.enc_eq] at h
 simp only [tmk, tmks, encI, tcnt, Rep_st] at h
 obtain ⟨_, rfl, -, h⟩ := RepS_lf.1 h
 obtain ⟨u1, _, rfl, o1, h⟩ := RepS_cons.1 h
 obtain rfl := RepS_nil.1 h
 obtain ⟨c1, rfl⟩ := rep_one o1
 exact ⟨c1, rfl, (rep_k o1 (by omega))⟩
theorem TMethodEntry.tcnt_eq (x : TMethodEntry) : tcnt x.enc = 0 := by
 rw [TMethodEntry.enc_eq]
 simp only [tcnt, tcnts, encI, encS]
theorem TMethodEntry.tmk_id (x : TMethodEntry) (k : Int) : tmk k x.enc = x.enc := by
 rw [TMethodEntry.enc_eq]
 simp only [tmk, tmks, encI, encS]
theorem TType.tcnt_eq (x : TType) : tcnt x.enc = cnts (x.fArgs.map TType.enc) := by
 rw [TType.enc_eq]
 simp only [tcnt, tcnts, encI, encS]
 omega
theorem TType.own_open {w : World} {x : TType} {cs : List Value} {bs : List Nat} (h : Own w x.enc cs bs) : ∃ (c2 : Value) (r2 : List Nat), cs = [.int .i64 x.fKind, .string x.fName, c2] ∧ bs = r2 ++ ([]) ∧ InR x.fKind ∧ x.fName.size ≤ maxLen ∧ Own w (.sl (x.fArgs.map TType.enc)) [c2] r2 := by
 rw [TType.enc_eq] at h
 simp only [Own_st, encI, encS] at h
 obtain ⟨_, rfl, k0, h⟩ := OwnS_lf.1 h
 obtain ⟨_, rfl, k1, h⟩ := OwnS_lf.1 h
 obtain ⟨u2, _, r2, _, rfl, rfl, o2, h⟩ := OwnS_cons.1 h
 obtain ⟨rfl, rfl⟩ := OwnS_nil.1 h
 obtain ⟨c2, rfl⟩ := own_one o2
 exact ⟨c2, r2, rfl, rfl, k0, k1, o2⟩
set_option maxHeartbeats 1000000 in
theorem TType.tmk_own {w : World} {x : TType} {k : Int} {c2 : Value} {r2 : List Nat} (k0 : InR x.fKind) (k1 : x.fName.size ≤ maxLen) (o2 : Own w (.sl (mks (k) (x.fArgs.map TType.enc))) [c2] r2) : Own w (tmk k x.enc) [.int .i64 x.fKind, .string x.fName, c2] (r2 ++ ([])) := by
 rw [TType.enc_eq]
 simp only [tmk, tmks, encI, encS, tcnt, Own_st]
 refine OwnS_lf.2 ⟨_, rfl, k0, ?_⟩
 refine OwnS_lf.2 ⟨_, rfl, k1, ?_⟩
 refine OwnS_cons.2 ⟨[c2], _, r2, _, rfl, rfl, (own_k o2 (by omega)), ?_⟩
 exact OwnS_nil.2 ⟨rfl, rfl⟩
set_option maxHeartbeats 1000000 in
theorem TType.tmrep_open {w : World} {K : Nat → Prop} {x : TType} {k : Int} {cs : List Value} (h : Rep w K (tmk k x.enc) cs) : ∃ (c2 : Value), cs = [.int .i64 x.fKind, .string x.fName, c2] ∧ Rep w K (.sl (mks (k) (x.fArgs.map TType.enc))) [c2] := by
 rw [TType.enc_eq] at h
 simp only [tmk, tmks, encI, encS, tcnt, Rep_st] at h
 obtain ⟨_, rfl, -, h⟩ := RepS_lf.1 h
 obtain ⟨_, rfl, -, h⟩ := RepS_lf.1 h
 obtain ⟨u2, _, rfl, o2, h⟩ := RepS_cons.1 h
 obtain rfl := RepS_nil.1 h
 obtain ⟨c2, rfl⟩ := rep_one o2
 exact ⟨c2, rfl, (rep_k o2 (by omega))⟩
theorem TCore.tcnt_eq (x : TCore) : tcnt x.enc = tcnt x.fType.enc + cnts (x.fTypeArgs.map TType.enc) + cnts (x.fEvidence.map TEvidence.enc) + cnts (x.fArgs.map TCore.enc) + cnts (x.fArms.map TCoreArm.enc) := by
 rw [TCore.enc_eq]
 simp only [tcnt, tcnts, encI, encS]
 omega
theorem TCore.own_open {w : World} {x : TCore} {cs : List Value} {bs : List Nat} (h : Own w x.enc cs bs) : ∃ (c4 : Value) (c5 : Value) (c6 : Value) (c7 : Value) (c8 : Value) (c9 : Value) (c10 : Value) (r4 : List Nat) (r7 : List Nat) (r8 : List Nat) (r9 : List Nat) (r10 : List Nat), cs = [.int .i64 x.fKind, .string x.fTrait, .string x.fName, .int .i64 x.fN, c4, c5, c6, c7, c8, c9, c10] ∧ bs = r4 ++ (r7 ++ (r8 ++ (r9 ++ (r10 ++ ([]))))) ∧ InR x.fKind ∧ x.fTrait.size ≤ maxLen ∧ x.fName.size ≤ maxLen ∧ InR x.fN ∧ Own w x.fType.enc [c4, c5, c6] r4 ∧ Own w (.sl (x.fTypeArgs.map TType.enc)) [c7] r7 ∧ Own w (.sl (x.fEvidence.map TEvidence.enc)) [c8] r8 ∧ Own w (.sl (x.fArgs.map TCore.enc)) [c9] r9 ∧ Own w (.sl (x.fArms.map TCoreArm.enc)) [c10] r10 := by
 rw [TCore.enc_eq] at h
 simp only [Own_st, encI, encS] at h
 obtain ⟨_, rfl, k0, h⟩ := OwnS_lf.1 h
 obtain ⟨_, rfl, k1, h⟩ := OwnS_lf.1 h
 obtain ⟨_, rfl, k2, h⟩ := OwnS_lf.1 h
 obtain ⟨_, rfl, k3, h⟩ := OwnS_lf.1 h
 obtain ⟨u4, _, r4, _, rfl, rfl, o4, h⟩ := OwnS_cons.1 h
 obtain ⟨u7, _, r7, _, rfl, rfl, o7, h⟩ := OwnS_cons.1 h
 obtain ⟨u8, _, r8, _, rfl, rfl, o8, h⟩ := OwnS_cons.1 h
 obtain ⟨u9, _, r9, _, rfl, rfl, o9, h⟩ := OwnS_cons.1 h
 obtain ⟨u10, _, r10, _, rfl, rfl, o10, h⟩ := OwnS_cons.1 h
 obtain ⟨rfl, rfl⟩ := OwnS_nil.1 h
 obtain ⟨c4, c5, c6, rfl⟩ := len3 ((Rep.length (K := fun _ => True) _ _ (Own.rep _ _ _ o4 (fun _ _ => trivial))).trans (TType.width _))
 obtain ⟨c7, rfl⟩ := own_one o7
 obtain ⟨c8, rfl⟩ := own_one o8
 obtain ⟨c9, rfl⟩ := own_one o9
 obtain ⟨c10, rfl⟩ := own_one o10
 exact ⟨c4, c5, c6, c7, c8, c9, c10, r4, r7, r8, r9, r10, rfl, rfl, k0, k1, k2, k3, o4, o7, o8, o9, o10⟩
set_option maxHeartbeats 1000000 in
theorem TCore.tmk_own {w : World} {x : TCore} {k : Int} {c4 c5 c6 c7 c8 c9 c10 : Value} {r4 r7 r8 r9 r10 : List Nat} (k0 : InR x.fKind) (k1 : x.fTrait.size ≤ maxLen) (k2 : x.fName.size ≤ maxLen) (k3 : InR x.fN) (o4 : Own w (tmk (k) x.fType.enc) [c4, c5, c6] r4) (o7 : Own w (.sl (mks (k + (tcnt x.fType.enc : Nat)) (x.fTypeArgs.map TType.enc))) [c7] r7) (o8 : Own w (.sl (mks (k + (tcnt x.fType.enc : Nat) + (cnts (x.fTypeArgs.map TType.enc) : Nat)) (x.fEvidence.map TEvidence.enc))) [c8] r8) (o9 : Own w (.sl (mks (k + (tcnt x.fType.enc : Nat) + (cnts (x.fTypeArgs.map TType.enc) : Nat) + (cnts (x.fEvidence.map TEvidence.enc) : Nat)) (x.fArgs.map TCore.enc))) [c9] r9) (o10 : Own w (.sl (mks (k + (tcnt x.fType.enc : Nat) + (cnts (x.fTypeArgs.map TType.enc) : Nat) + (cnts (x.fEvidence.map TEvidence.enc) : Nat) + (cnts (x.fArgs.map TCore.enc) : Nat)) (x.fArms.map TCoreArm.enc))) [c10] r10) : Own w (tmk k x.enc) [.int .i64 x.fKind, .string x.fTrait, .string x.fName, .int .i64 x.fN, c4, c5, c6, c7, c8, c9, c10] (r4 ++ (r7 ++ (r8 ++ (r9 ++ (r10 ++ ([])))))) := by
 rw [TCore.enc_eq]
 simp only [tmk, tmks, encI, encS, tcnt, Own_st]
 refine OwnS_lf.2 ⟨_, rfl, k0, ?_⟩
 refine OwnS_lf.2 ⟨_, rfl, k1, ?_⟩
 refine OwnS_lf.2 ⟨_, rfl, k2, ?_⟩
 refine OwnS_lf.2 ⟨_, rfl, k3, ?_⟩
 refine OwnS_cons.2 ⟨[c4, c5, c6], _, r4, _, rfl, rfl, (own_tk o4 (by omega)), ?_⟩
 refine OwnS_cons.2 ⟨[c7], _, r7, _, rfl, rfl, (own_k o7 (by omega)), ?_⟩
 refine OwnS_cons.2 ⟨[c8], _, r8, _, rfl, rfl, (own_k o8 (by omega)), ?_⟩
 refine OwnS_cons.2 ⟨[c9], _, r9, _, rfl, rfl, (own_k o9 (by omega)), ?_⟩
 refine OwnS_cons.2 ⟨[c10], _, r10, _, rfl, rfl, (own_k o10 (by omega)), ?_⟩
 exact OwnS_nil.2 ⟨rfl, rfl⟩
set_option maxHeartbeats 1000000 in
theorem TCore.tmrep_open {w : World} {K : Nat → Prop} {x : TCore} {k : Int} {cs : List Value} (h : Rep w K (tmk k x.enc) cs) : ∃ (c4 : Value) (c5 : Value) (c6 : Value) (c7 : Value) (c8 : Value) (c9 : Value) (c10 : Value), cs = [.int .i64 x.fKind, .string x.fTrait, .string x.fName, .int .i64 x.fN, c4, c5, c6, c7, c8, c9, c10] ∧ Rep w K (tmk (k) x.fType.enc) [c4, c5, c6] ∧ Rep w K (.sl (mks (k + (tcnt x.fType.enc : Nat)) (x.fTypeArgs.map TType.enc))) [c7] ∧ Rep w K (.sl (mks (k + (tcnt x.fType.enc : Nat) + (cnts (x.fTypeArgs.map TType.enc) : Nat)) (x.fEvidence.map TEvidence.enc))) [c8] ∧ Rep w K (.sl (mks (k + (tcnt x.fType.enc : Nat) + (cnts (x.fTypeArgs.map TType.enc) : Nat) + (cnts (x.fEvidence.map TEvidence.enc) : Nat)) (x.fArgs.map TCore.enc))) [c9] ∧ Rep w K (.sl (mks (k + (tcnt x.fType.enc : Nat) + (cnts (x.fTypeArgs.map TType.enc) : Nat) + (cnts (x.fEvidence.map TEvidence.enc) : Nat) + (cnts (x.fArgs.map TCore.enc) : Nat)) (x.fArms.map TCoreArm.enc))) [c10] := by
 rw [TCore.enc_eq] at h
 simp only [tmk, tmks, encI, encS, tcnt, Rep_st] at h
 obtain ⟨_, rfl, -, h⟩ := RepS_lf.1 h
 obtain ⟨_, rfl, -, h⟩ := RepS_lf.1 h
 obtain ⟨_, rfl, -, h⟩ := RepS_lf.1 h
 obtain ⟨_, rfl, -, h⟩ := RepS_lf.1 h
 obtain ⟨u4, _, rfl, o4, h⟩ := RepS_cons.1 h
 obtain ⟨u7, _, rfl, o7, h⟩ := RepS_cons.1 h
 obtain ⟨u8, _, rfl, o8, h⟩ := RepS_cons.1 h
 obtain ⟨u9, _, rfl, o9, h⟩ := RepS_cons.1 h
 obtain ⟨u10, _, rfl, o10, h⟩ := RepS_cons.1 h
 obtain rfl := RepS_nil.1 h
 obtain ⟨c4, c5, c6, rfl⟩ := len3 ((Rep.length _ _ o4).trans ((tmk_width _ _).trans (TType.width _)))
 obtain ⟨c7, rfl⟩ := rep_one o7
 obtain ⟨c8, rfl⟩ := rep_one o8
 obtain ⟨c9, rfl⟩ := rep_one o9
 obtain ⟨c10, rfl⟩ := rep_one o10
 exact ⟨c4, c5, c6, c7, c8, c9, c10, rfl, (rep_tk o4 (by omega)), (rep_k o7 (by omega)), (rep_k o8 (by omega)), (rep_k o9 (by omega)), (rep_k o10 (by omega))⟩
theorem TCoreArm.tcnt_eq (x : TCoreArm) : tcnt x.enc = cnts (x.fVars.map encS) + tcnt x.fBody.enc := by
 rw [TCoreArm.enc_eq]
 simp only [tcnt, tcnts, encS]
 omega
theorem TCoreArm.own_open {w : World} {x : TCoreArm} {cs : List Value} {bs : List Nat} (h : Own w x.enc cs bs) : ∃ (c1 : Value) (c2 : Value) (c3 : Value) (c4 : Value) (c5 : Value) (c6 : Value) (c7 : Value) (c8 : Value) (c9 : Value) (c10 : Value) (c11 : Value) (c12 : Value) (r1 : List Nat) (r2 : List Nat), cs = [.string x.fConstructor, c1, c2, c3, c4, c5, c6, c7, c8, c9, c10, c11, c12] ∧ bs = r1 ++ (r2 ++ ([])) ∧ x.fConstructor.size ≤ maxLen ∧ Own w (.sl (x.fVars.map encS)) [c1] r1 ∧ Own w x.fBody.enc [c2, c3, c4, c5, c6, c7, c8, c9, c10, c11, c12] r2 := by
 rw [TCoreArm.enc_eq] at h
 simp only [Own_st, encS] at h
 obtain ⟨_, rfl, k0, h⟩ := OwnS_lf.1 h
 obtain ⟨u1, _, r1, _, rfl, rfl, o1, h⟩ := OwnS_cons.1 h
 obtain ⟨u2, _, r2, _, rfl, rfl, o2, h⟩ := OwnS_cons.1 h
 obtain ⟨rfl, rfl⟩ := OwnS_nil.1 h
 obtain ⟨c1, rfl⟩ := own_one o1
 obtain ⟨c2, c3, c4, c5, c6, c7, c8, c9, c10, c11, c12, rfl⟩ := len11 ((Rep.length (K := fun _ => True) _ _ (Own.rep _ _ _ o2 (fun _ _ => trivial))).trans (TCore.width _))
 exact ⟨c1, c2, c3, c4, c5, c6, c7, c8, c9, c10, c11, c12, r1, r2, rfl, rfl, k0, o1, o2⟩
set_option maxHeartbeats 1000000 in
theorem TCoreArm.tmk_own {w : World} {x : TCoreArm} {k : Int} {c1 c2 c3 c4 c5 c6 c7 c8 c9 c10 c11 c12 : Value} {r1 r2 : List Nat} (k0 : x.fConstructor.size ≤ maxLen) (o1 : Own w (.sl (mks (k) (x.fVars.map encS))) [c1] r1) (o2 : Own w (tmk (k + (cnts (x.fVars.map encS) : Nat)) x.fBody.enc) [c2, c3, c4, c5, c6, c7, c8, c9, c10, c11, c12] r2) : Own w (tmk k x.enc) [.string x.fConstructor, c1, c2, c3, c4, c5, c6, c7, c8, c9, c10, c11, c12] (r1 ++ (r2 ++ ([]))) := by
 rw [TCoreArm.enc_eq]
 simp only [tmk, tmks, encS, tcnt, Own_st]
 refine OwnS_lf.2 ⟨_, rfl, k0, ?_⟩
 refine OwnS_cons.2 ⟨[c1], _, r1, _, rfl, rfl, (own_k o1 (by omega)), ?_⟩
 refine OwnS_cons.2 ⟨[c2, c3, c4, c5, c6, c7, c8, c9, c10, c11, c12], _, r2, _, rfl, rfl, (own_tk o2 (by omega)), ?_⟩
 exact OwnS_nil.2 ⟨rfl, rfl⟩
set_option maxHeartbeats 1000000 in
theorem TCoreArm.tmrep_open {w : World} {K : Nat → Prop} {x : TCoreArm} {k : Int} {cs : List Value} (h : Rep w K (tmk k x.enc) cs) : ∃ (c1 : Value) (c2 : Value) (c3 : Value) (c4 : Value) (c5 : Value) (c6 : Value) (c7 : Value) (c8 : Value) (c9 : Value) (c10 : Value) (c11 : Value) (c12 : Value), cs = [.string x.fConstructor, c1, c2, c3, c4, c5, c6, c7, c8, c9, c10, c11, c12] ∧ Rep w K (.sl (mks (k) (x.fVars.map encS))) [c1] ∧ Rep w K (tmk (k + (cnts (x.fVars.map encS) : Nat)) x.fBody.enc) [c2, c3, c4, c5, c6, c7, c8, c9, c10, c11, c12] := by
 rw [TCoreArm.enc_eq] at h
 simp only [tmk, tmks, encS, tcnt, Rep_st] at h
 obtain ⟨_, rfl, -, h⟩ := RepS_lf.1 h
 obtain ⟨u1, _, rfl, o1, h⟩ := RepS_cons.1 h
 obtain ⟨u2, _, rfl, o2, h⟩ := RepS_cons.1 h
 obtain rfl := RepS_nil.1 h
 obtain ⟨c1, rfl⟩ := rep_one o1
 obtain ⟨c2, c3, c4, c5, c6, c7, c8, c9, c10, c11, c12, rfl⟩ := len11 ((Rep.length _ _ o2).trans ((tmk_width _ _).trans (TCore.width _)))
 exact ⟨c1, c2, c3, c4, c5, c6, c7, c8, c9, c10, c11, c12, rfl, (rep_k o1 (by omega)), (rep_tk o2 (by omega))⟩
theorem TMethodTable.tcnt_eq (x : TMethodTable) : tcnt x.enc = tcnt x.fType.enc + cnts (x.fEntries.map TMethodEntry.enc) := by
 rw [TMethodTable.enc_eq]
 simp only [tcnt, tcnts, encS]
 omega
theorem TMethodTable.own_open {w : World} {x : TMethodTable} {cs : List Value} {bs : List Nat} (h : Own w x.enc cs bs) : ∃ (c1 : Value) (c2 : Value) (c3 : Value) (c4 : Value) (r1 : List Nat) (r4 : List Nat), cs = [.string x.fTrait, c1, c2, c3, c4] ∧ bs = r1 ++ (r4 ++ ([])) ∧ x.fTrait.size ≤ maxLen ∧ Own w x.fType.enc [c1, c2, c3] r1 ∧ Own w (.sl (x.fEntries.map TMethodEntry.enc)) [c4] r4 := by
 rw [TMethodTable.enc_eq] at h
 simp only [Own_st, encS] at h
 obtain ⟨_, rfl, k0, h⟩ := OwnS_lf.1 h
 obtain ⟨u1, _, r1, _, rfl, rfl, o1, h⟩ := OwnS_cons.1 h
 obtain ⟨u4, _, r4, _, rfl, rfl, o4, h⟩ := OwnS_cons.1 h
 obtain ⟨rfl, rfl⟩ := OwnS_nil.1 h
 obtain ⟨c1, c2, c3, rfl⟩ := len3 ((Rep.length (K := fun _ => True) _ _ (Own.rep _ _ _ o1 (fun _ _ => trivial))).trans (TType.width _))
 obtain ⟨c4, rfl⟩ := own_one o4
 exact ⟨c1, c2, c3, c4, r1, r4, rfl, rfl, k0, o1, o4⟩
set_option maxHeartbeats 1000000 in
theorem TMethodTable.tmk_own {w : World} {x : TMethodTable} {k : Int} {c1 c2 c3 c4 : Value} {r1 r4 : List Nat} (k0 : x.fTrait.size ≤ maxLen) (o1 : Own w (tmk (k) x.fType.enc) [c1, c2, c3] r1) (o4 : Own w (.sl (mks (k + (tcnt x.fType.enc : Nat)) (x.fEntries.map TMethodEntry.enc))) [c4] r4) : Own w (tmk k x.enc) [.string x.fTrait, c1, c2, c3, c4] (r1 ++ (r4 ++ ([]))) := by
 rw [TMethodTable.enc_eq]
 simp only [tmk, tmks, encS, tcnt, Own_st]
 refine OwnS_lf.2 ⟨_, rfl, k0, ?_⟩
 refine OwnS_cons.2 ⟨[c1, c2, c3], _, r1, _, rfl, rfl, (own_tk o1 (by omega)), ?_⟩
 refine OwnS_cons.2 ⟨[c4], _, r4, _, rfl, rfl, (own_k o4 (by omega)), ?_⟩
 exact OwnS_nil.2 ⟨rfl, rfl⟩
set_option maxHeartbeats 1000000 in
theorem TMethodTable.tmrep_open {w : World} {K : Nat → Prop} {x : TMethodTable} {k : Int} {cs : List Value} (h : Rep w K (tmk k x.enc) cs) : ∃ (c1 : Value) (c2 : Value) (c3 : Value) (c4 : Value), cs = [.string x.fTrait, c1, c2, c3, c4] ∧ Rep w K (tmk (k) x.fType.enc) [c1, c2, c3] ∧ Rep w K (.sl (mks (k + (tcnt x.fType.enc : Nat)) (x.fEntries.map TMethodEntry.enc))) [c4] := by
 rw [TMethodTable.enc_eq] at h
 simp only [tmk, tmks, encS, tcnt, Rep_st] at h
 obtain ⟨_, rfl, -, h⟩ := RepS_lf.1 h
 obtain ⟨u1, _, rfl, o1, h⟩ := RepS_cons.1 h
 obtain ⟨u4, _, rfl, o4, h⟩ := RepS_cons.1 h
 obtain rfl := RepS_nil.1 h
 obtain ⟨c1, c2, c3, rfl⟩ := len3 ((Rep.length _ _ o1).trans ((tmk_width _ _).trans (TType.width _)))
 obtain ⟨c4, rfl⟩ := rep_one o4
 exact ⟨c1, c2, c3, c4, rfl, (rep_tk o1 (by omega)), (rep_k o4 (by omega))⟩
theorem TMachine.tcnt_eq (x : TMachine) : tcnt x.enc = cnts (x.fCodes.map TCode.enc) + cnts (x.fTables.map TMethodTable.enc) := by
 rw [TMachine.enc_eq]
 simp only [tcnt, tcnts]
 omega
theorem TMachine.own_open {w : World} {x : TMachine} {cs : List Value} {bs : List Nat} (h : Own w x.enc cs bs) : ∃ (c0 : Value) (c1 : Value) (r0 : List Nat) (r1 : List Nat), cs = [c0, c1] ∧ bs = r0 ++ (r1 ++ ([])) ∧ Own w (.sl (x.fCodes.map TCode.enc)) [c0] r0 ∧ Own w (.sl (x.fTables.map TMethodTable.enc)) [c1] r1 := by
 rw [TMachine.enc_eq] at h
 simp only [Own_st] at h
 obtain ⟨u0, _, r0, _, rfl, rfl, o0, h⟩ := OwnS_cons.1 h
 obtain ⟨u1, _, r1, _, rfl, rfl, o1, h⟩ := OwnS_cons.1 h
 obtain ⟨rfl, rfl⟩ := OwnS_nil.1 h
 obtain ⟨c0, rfl⟩ := own_one o0
 obtain ⟨c1, rfl⟩ := own_one o1
 exact ⟨c0, c1, r0, r1, rfl, rfl, o0, o1⟩
set_option maxHeartbeats 1000000 in
theorem TMachine.tmk_own {w : World} {x : TMachine} {k : Int} {c0 c1 : Value} {r0 r1 : List Nat} (o0 : Own w (.sl (mks (k) (x.fCodes.map TCode.enc))) [c0] r0) (o1 : Own w (.sl (mks (k + (cnts (x.fCodes.map TCode.enc) : Nat)) (x.fTables.map TMethodTable.enc))) [c1] r1) : Own w (tmk k x.enc) [c0, c1] (r0 ++ (r1 ++ ([]))) := by
 rw [TMachine.enc_eq]
 simp only [tmk, tmks, tcnt, Own_st]
 refine OwnS_cons.2 ⟨[c0], _, r0, _, rfl, rfl, (own_k o0 (by omega)), ?_⟩
 refine OwnS_cons.2 ⟨[c1], _, r1, _, rfl, rfl, (own_k o1 (by omega)), ?_⟩
 exact OwnS_nil.2 ⟨rfl, rfl⟩
set_option maxHeartbeats 1000000 in
theorem TMachine.tmrep_open {w : World} {K : Nat → Prop} {x : TMachine} {k : Int} {cs : List Value} (h : Rep w K (tmk k x.enc) cs) : ∃ (c0 : Value) (c1 : Value), cs = [c0, c1] ∧ Rep w K (.sl (mks (k) (x.fCodes.map TCode.enc))) [c0] ∧ Rep w K (.sl (mks (k + (cnts (x.fCodes.map TCode.enc) : Nat)) (x.fTables.map TMethodTable.enc))) [c1] := by
 rw [TMachine.enc_eq] at h
 simp only [tmk, tmks, tcnt, Rep_st] at h
 obtain ⟨u0, _, rfl, o0, h⟩ := RepS_cons.1 h
 obtain ⟨u1, _, rfl, o1, h⟩ := RepS_cons.1 h
 obtain rfl := RepS_nil.1 h
 obtain ⟨c0, rfl⟩ := rep_one o0
 obtain ⟨c1, rfl⟩ := rep_one o1
 exact ⟨c0, c1, rfl, (rep_k o0 (by omega)), (rep_k o1 (by omega))⟩
theorem TSpecialization.tcnt_eq (x : TSpecialization) : tcnt x.enc = cnts (x.fTypeArgs.map TType.enc) + cnts (x.fParams.map encS) + tcnt x.fBody.enc := by
 rw [TSpecialization.enc_eq]
 simp only [tcnt, tcnts, encI]
 omega
theorem TSpecialization.own_open {w : World} {x : TSpecialization} {cs : List Value} {bs : List Nat} (h : Own w x.enc cs bs) : ∃ (c1 : Value) (c2 : Value) (c3 : Value) (c4 : Value) (c5 : Value) (c6 : Value) (c7 : Value) (c8 : Value) (c9 : Value) (c10 : Value) (c11 : Value) (c12 : Value) (c13 : Value) (r1 : List Nat) (r2 : List Nat) (r3 : List Nat), cs = [.int .i64 x.fUnit, c1, c2, c3, c4, c5, c6, c7, c8, c9, c10, c11, c12, c13] ∧ bs = r1 ++ (r2 ++ (r3 ++ ([]))) ∧ InR x.fUnit ∧ Own w (.sl (x.fTypeArgs.map TType.enc)) [c1] r1 ∧ Own w (.sl (x.fParams.map encS)) [c2] r2 ∧ Own w x.fBody.enc [c3, c4, c5, c6, c7, c8, c9, c10, c11, c12, c13] r3 := by
 rw [TSpecialization.enc_eq] at h
 simp only [Own_st, encI] at h
 obtain ⟨_, rfl, k0, h⟩ := OwnS_lf.1 h
 obtain ⟨u1, _, r1, _, rfl, rfl, o1, h⟩ := OwnS_cons.1 h
 obtain ⟨u2, _, r2, _, rfl, rfl, o2, h⟩ := OwnS_cons.1 h
 obtain ⟨u3, _, r3, _, rfl, rfl, o3, h⟩ := OwnS_cons.1 h
 obtain ⟨rfl, rfl⟩ := OwnS_nil.1 h
 obtain ⟨c1, rfl⟩ := own_one o1
 obtain ⟨c2, rfl⟩ := own_one o2
 obtain ⟨c3, c4, c5, c6, c7, c8, c9, c10, c11, c12, c13, rfl⟩ := len11 ((Rep.length (K := fun _ => True) _ _ (Own.rep _ _ _ o3 (fun _ _ => trivial))).trans (TCore.width _))
 exact ⟨c1, c2, c3, c4, c5, c6, c7, c8, c9, c10, c11, c12, c13, r1, r2, r3, rfl, rfl, k0, o1, o2, o3⟩
set_option maxHeartbeats 1000000 in
theorem TSpecialization.tmk_own {w : World} {x : TSpecialization} {k : Int} {c1 c2 c3 c4 c5 c6 c7 c8 c9 c10 c11 c12 c13 : Value} {r1 r2 r3 : List Nat} (k0 : InR x.fUnit) (o1 : Own w (.sl (mks (k) (x.fTypeArgs.map TType.enc))) [c1] r1) (o2 : Own w (.sl (mks (k + (cnts (x.fTypeArgs.map TType.enc) : Nat)) (x.fParams.map encS))) [c2] r2) (o3 : Own w (tmk (k + (cnts (x.fTypeArgs.map TType.enc) : Nat) + (cnts (x.fParams.map encS) : Nat)) x.fBody.enc) [c3, c4, c5, c6, c7, c8, c9, c10, c11, c12, c13] r3) : Own w (tmk k x.enc) [.int .i64 x.fUnit, c1, c2, c3, c4, c5, c6, c7, c8, c9, c10, c11, c12, c13] (r1 ++ (r2 ++ (r3 ++ ([])))) := by
 rw [TSpecialization.enc_eq]
 simp only [tmk, tmks, encI, tcnt, Own_st]
 refine OwnS_lf.2 ⟨_, rfl, k0, ?_⟩
 refine OwnS_cons.2 ⟨[c1], _, r1, _, rfl, rfl, (own_k o1 (by omega)), ?_⟩
 refine OwnS_cons.2 ⟨[c2], _, r2, _, rfl, rfl, (own_k o2 (by omega)), ?_⟩
 refine OwnS_cons.2 ⟨[c3, c4, c5, c6, c7, c8, c9, c10, c11, c12, c13], _, r3, _, rfl, rfl, (own_tk o3 (by omega)), ?_⟩
 exact OwnS_nil.2 ⟨rfl, rfl⟩
set_option maxHeartbeats 1000000 in
theorem TSpecialization.tmrep_open {w : World} {K : Nat → Prop} {x : TSpecialization} {k : Int} {cs : List Value} (h : Rep w K (tmk k x.enc) cs) : ∃ (c1 : Value) (c2 : Value) (c3 : Value) (c4 : Value) (c5 : Value) (c6 : Value) (c7 : Value) (c8 : Value) (c9 : Value) (c10 : Value) (c11 : Value) (c12 : Value) (c13 : Value), cs = [.int .i64 x.fUnit, c1, c2, c3, c4, c5, c6, c7, c8, c9, c10, c11, c12, c13] ∧ Rep w K (.sl (mks (k) (x.fTypeArgs.map TType.enc))) [c1] ∧ Rep w K (.sl (mks (k + (cnts (x.fTypeArgs.map TType.enc) : Nat)) (x.fParams.map encS))) [c2] ∧ Rep w K (tmk (k + (cnts (x.fTypeArgs.map TType.enc) : Nat) + (cnts (x.fParams.map encS) : Nat)) x.fBody.enc) [c3, c4, c5, c6, c7, c8, c9, c10, c11, c12, c13] := by
 rw [TSpecialization.enc_eq] at h
 simp only [tmk, tmks, encI, tcnt, Rep_st] at h
 obtain ⟨_, rfl, -, h⟩ := RepS_lf.1 h
 obtain ⟨u1, _, rfl, o1, h⟩ := RepS_cons.1 h
 obtain ⟨u2, _, rfl, o2, h⟩ := RepS_cons.1 h
 obtain ⟨u3, _, rfl, o3, h⟩ := RepS_cons.1 h
 obtain rfl := RepS_nil.1 h
 obtain ⟨c1, rfl⟩ := rep_one o1
 obtain ⟨c2, rfl⟩ := rep_one o2
 obtain ⟨c3, c4, c5, c6, c7, c8, c9, c10, c11, c12, c13, rfl⟩ := len11 ((Rep.length _ _ o3).trans ((tmk_width _ _).trans (TCore.width _)))
 exact ⟨c1, c2, c3, c4, c5, c6, c7, c8, c9, c10, c11, c12, c13, rfl, (rep_k o1 (by omega)), (rep_k o2 (by omega)), (rep_tk o3 (by omega))⟩
theorem TMonoProgram.tcnt_eq (x : TMonoProgram) : tcnt x.enc = cnts (x.fSpecializations.map TSpecialization.enc) + cnts (x.fTables.map TMethodTable.enc) := by
 rw [TMonoProgram.enc_eq]
 simp only [tcnt, tcnts]
 omega
theorem TMonoProgram.own_open {w : World} {x : TMonoProgram} {cs : List Value} {bs : List Nat} (h : Own w x.enc cs bs) : ∃ (c0 : Value) (c1 : Value) (r0 : List Nat) (r1 : List Nat), cs = [c0, c1] ∧ bs = r0 ++ (r1 ++ ([])) ∧ Own w (.sl (x.fSpecializations.map TSpecialization.enc)) [c0] r0 ∧ Own w (.sl (x.fTables.map TMethodTable.enc)) [c1] r1 := by
 rw [TMonoProgram.enc_eq] at h
 simp only [Own_st] at h
 obtain ⟨u0, _, r0, _, rfl, rfl, o0, h⟩ := OwnS_cons.1 h
 obtain ⟨u1, _, r1, _, rfl, rfl, o1, h⟩ := OwnS_cons.1 h
 obtain ⟨rfl, rfl⟩ := OwnS_nil.1 h
 obtain ⟨c0, rfl⟩ := own_one o0
 obtain ⟨c1, rfl⟩ := own_one o1
 exact ⟨c0, c1, r0, r1, rfl, rfl, o0, o1⟩
set_option maxHeartbeats 1000000 in
theorem TMonoProgram.tmk_own {w : World} {x : TMonoProgram} {k : Int} {c0 c1 : Value} {r0 r1 : List Nat} (o0 : Own w (.sl (mks (k) (x.fSpecializations.map TSpecialization.enc))) [c0] r0) (o1 : Own w (.sl (mks (k + (cnts (x.fSpecializations.map TSpecialization.enc) : Nat)) (x.fTables.map TMethodTable.enc))) [c1] r1) : Own w (tmk k x.enc) [c0, c1] (r0 ++ (r1 ++ ([]))) := by
 rw [TMonoProgram.enc_eq]
 simp only [tmk, tmks, tcnt, Own_st]
 refine OwnS_cons.2 ⟨[c0], _, r0, _, rfl, rfl, (own_k o0 (by omega)), ?_⟩
 refine OwnS_cons.2 ⟨[c1], _, r1, _, rfl, rfl, (own_k o1 (by omega)), ?_⟩
 exact OwnS_nil.2 ⟨rfl, rfl⟩
set_option maxHeartbeats 1000000 in
theorem TMonoProgram.tmrep_open {w : World} {K : Nat → Prop} {x : TMonoProgram} {k : Int} {cs : List Value} (h : Rep w K (tmk k x.enc) cs) : ∃ (c0 : Value) (c1 : Value), cs = [c0, c1] ∧ Rep w K (.sl (mks (k) (x.fSpecializations.map TSpecialization.enc))) [c0] ∧ Rep w K (.sl (mks (k + (cnts (x.fSpecializations.map TSpecialization.enc) : Nat)) (x.fTables.map TMethodTable.enc))) [c1] := by
 rw [TMonoProgram.enc_eq] at h
 simp only [tmk, tmks, tcnt, Rep_st] at h
 obtain ⟨u0, _, rfl, o0, h⟩ := RepS_cons.1 h
 obtain ⟨u1, _, rfl, o1, h⟩ := RepS_cons.1 h
 obtain rfl := RepS_nil.1 h
 obtain ⟨c0, rfl⟩ := rep_one o0
 obtain ⟨c1, rfl⟩ := rep_one o1
 exact ⟨c0, c1, rfl, (rep_k o0 (by omega)), (rep_k o1 (by omega))⟩
end Go.Proofs.YtkmiecgcibjkbaaGreat
