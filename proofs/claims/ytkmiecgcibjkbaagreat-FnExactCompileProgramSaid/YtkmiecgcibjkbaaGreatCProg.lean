/- CompileProgram: what it computes. No condition. -/
import Derived.Test.YtkmiecgcibjkbaaGreatComp4
import Derived.Test.YtkmiecgcibjkbaaGreatEng
import Derived.Test.YtkmiecgcibjkbaaGreatMkBound
namespace Go.Proofs.YtkmiecgcibjkbaaGreat
open Go.RowKit
noncomputable def cprog (x : TMonoProgram) : TMachine × Bool :=
 if x.fSpecializations.all (fun y => (cmpOf y).2) then (⟨x.fSpecializations.map (fun y => (cmpOf y).1), x.fTables⟩, true) else (⟨[], []⟩, false)
theorem cprog_ok {x : TMonoProgram} (h : ∀ z ∈ x.fSpecializations.take x.fSpecializations.length, (cmpOf z).2 = true) : cprog x = (⟨x.fSpecializations.map (fun y => (cmpOf y).1), x.fTables⟩, true) := by
 unfold cprog
 rw [List.take_length] at h
 rw [if_pos (by simpa using h)]
theorem cprog_bad {x : TMonoProgram} {n : Nat} (hlt : n < x.fSpecializations.length) : (cmpOf x.fSpecializations[n]).2 = false → cprog x = (⟨[], []⟩, false) := fun h => by
 unfold cprog
 rw [if_neg]
 simp only [List.all_eq_true]
 intro hq
 have := hq _ (List.getElem_mem hlt)
 rw [h] at this
 cases this
theorem cmp_step {L : List TSpecialization} {n : Nat} (hlt : n < L.length) : (cmpOf L[n]).2 = true → (∀ z ∈ L.take n, (cmpOf z).2 = true) → ∀ z ∈ L.take (n + 1), (cmpOf z).2 = true := fun h1 h2 z hz => by
 rw [List.take_succ_eq_append_getElem hlt] at hz
 rcases List.mem_append.1 hz with hz | hz
 ·exact h2 z hz
 ·rw [List.mem_singleton.1 hz]; exact h1
theorem specCompileSpecialization_at (x : TMonoProgram) (n : Nat) (y : TSpecialization) (hc : cmp x n = cmpOf y) (hz : x.sz ≤ 1048576) (w : World) (K : Nat → Prop) (hK : ∀ b, K b → b < w.heap.size) (cs : List Value) (h : Rep w K x.enc cs) (hn : InR n) :
  Calls Tryz.prog 36 #[.agg cs.toArray, .int .i64 n] w fun e w' => ∃ cs', e = .returned (.tuple #[.agg cs'.toArray, .bool (cmpOf y).2]) ∧ Ow w' w.heap.size w'.heap.size (cmpOf y).1.enc cs' ∧ Below w.heap.size w w' := by
 rw [← hc]
 exact (specCompileSpecialization_c x n hz w K hK cs h hn).mono fun e w' ⟨cs', bs, h1, h2, h3, h4, h5⟩ => ⟨cs', h1, ow_of h2 h3 h4, h5⟩
theorem implCompileSpecialization_at (x : TMonoProgram) (n : Nat) (y : TSpecialization) (hc : cmp x n = cmpOf y) (hz : x.sz ≤ 1048576) (w : World) (K : Nat → Prop) (hK : ∀ b, K b → b < w.heap.size) (cs : List Value) (h : Rep w K x.enc cs) (hn : InR n) :
  Calls Tryz.prog 39 #[.agg cs.toArray, .int .i64 n] w fun e w' => ∃ cs', e = .returned (.tuple #[.agg cs'.toArray, .bool (cmpOf y).2]) ∧ Ow w' w.heap.size w'.heap.size (cmpOf y).1.enc cs' ∧ Below w.heap.size w w' := by
 rw [← hc]
 exact (implCompileSpecialization_c x n hz w K hK cs h hn).mono fun e w' ⟨cs', bs, h1, h2, h3, h4, h5⟩ => ⟨cs', h1, ow_of h2 h3 h4, h5⟩
theorem code_cnt (c : TCode) : cnt c.enc ≤ 4 + tcnt c.enc := by
 rw [TCode.tcnt_eq, TCode.enc_eq]
 simp only [cnt, cnts, encI]
 omega
theorem cprog_tcnt (x : TMonoProgram) : tcnt (cprog x).1.enc ≤ 32 * x.sz := by
 have h1 := cnts_map_le (enc := fun y => TCode.enc (cmpOf y).1) (f := TSpecialization.sz) (fun y => by have := code_cnt (cmpOf y).1; have := cmpOf_tcnt y; omega) x.fSpecializations
 have h2 := cnts_map_le (f := TMethodTable.sz) (fun y => Nat.le_trans (TMethodTable.cnt_le y) (by omega)) x.fTables
 rw [TMonoProgram.sz_eq]
 unfold cprog
 split
 ·rw [TMachine.tcnt_eq]
  simp only [List.map_map]
  have h3 : cnts (x.fSpecializations.map (TCode.enc ∘ fun y => (cmpOf y).1)) ≤ 32 * szs TSpecialization.sz x.fSpecializations := h1
  omega
 ·rw [TMachine.tcnt_eq]
  simp [cnts]
end Go.Proofs.YtkmiecgcibjkbaaGreat
