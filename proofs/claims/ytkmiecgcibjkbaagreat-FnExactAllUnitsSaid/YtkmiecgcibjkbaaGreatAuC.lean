/- AllUnits: both walks in the form that the law asks for. No condition but the value's size. -/
import Derived.Test.YtkmiecgcibjkbaaGreatDenH
import Derived.Test.YtkmiecgcibjkbaaGreatMkBound
namespace Go.Proofs.YtkmiecgcibjkbaaGreat
open Go.RowKit
def allUnits (x : TBuild) : List TUnit := x.fPackages.flatMap TBuiltPackage.fUnits
theorem allUnits_dd (x : TBuild) : x.fPackages.flatMap fU = (allUnits x).map (TUnit.dd true) := by
  unfold allUnits
  rw [List.map_flatMap]; rfl
theorem units_sz : ∀ l : List TBuiltPackage, szs TUnit.sz (l.flatMap TBuiltPackage.fUnits) ≤ szL TBuiltPackage.sz l
  | [] => by simp [szs, szL]
  | p :: l => by
    have h1 := units_sz l
    have h2 := p.sz_eq
    have h3 : ∀ a b : List TUnit, szL TUnit.sz (a ++ b) = szL TUnit.sz a + szL TUnit.sz b := by
      intro a b
      induction a with
      | nil => simp [szL]
      | cons x a ih => simp only [List.cons_append, szL, ih]; omega
    unfold szs at h1 h2
    rw [List.flatMap_cons]
    unfold szs
    rw [h3]
    simp only [List.length_append, szL]
    omega
theorem allUnits_cnt (x : TBuild) : cnts ((allUnits x).map TUnit.enc) ≤ 32 * x.sz := by
  have h1 := cnts_map_le (f := TUnit.sz) (fun y => Nat.le_trans (TUnit.cnt_le y) (by omega)) (allUnits x)
  have h2 := units_sz x.fPackages
  have h3 := x.sz_eq
  unfold szs at h3
  have h4 : szs TUnit.sz (allUnits x) ≤ szL TBuiltPackage.sz x.fPackages := h2
  omega
theorem specAllUnits_c (x : TBuild) (hz : x.sz ≤ 1048576) : ∀ (w : World) (K : Nat → Prop) (_ : ∀ b, K b → b < w.heap.size) (cs : List Value) (_ : Rep w K x.enc cs),
    Calls Tryz.prog 25 #[.agg cs.toArray] w fun e w' => ∃ a p bs, e = .returned (.slice a (allUnits x).length p) ∧ Own w' (.sl ((allUnits x).map TUnit.enc)) [.slice a (allUnits x).length p] bs ∧ bs.Nodup ∧ (∀ b ∈ bs, w.heap.size ≤ b ∧ b < w'.heap.size) ∧ Below w.heap.size w w' := fun w _ _ cs h =>
  CS.outS (c := cx) (args := [x.dd false]) (TUnit.sh_dd true) (by decide) (fun y => y.is_dd true) (by have := specAllUnits_d x hz []; rwa [allUnits_dd] at this) w [.agg cs.toArray] (argOk_cons cs (rep_rp _ _ _ (x.is_dd false) h) (by rw [TBuild.dd_eq]; rfl) argOk_nil)
theorem implAllUnits_c (x : TBuild) (hz : x.sz ≤ 1048576) : ∀ (w : World) (K : Nat → Prop) (_ : ∀ b, K b → b < w.heap.size) (cs : List Value) (_ : Rep w K x.enc cs),
    Calls Tryz.prog 27 #[.agg cs.toArray] w fun e w' => ∃ a p bs, e = .returned (.slice a (allUnits x).length p) ∧ Own w' (.sl ((allUnits x).map TUnit.enc)) [.slice a (allUnits x).length p] bs ∧ bs.Nodup ∧ (∀ b ∈ bs, w.heap.size ≤ b ∧ b < w'.heap.size) ∧ Below w.heap.size w w' := fun w _ _ cs h =>
  CS.outS (c := cx) (args := [x.dd false]) (TUnit.sh_dd true) (by decide) (fun y => y.is_dd true) (by have := implAllUnits_d x hz []; rwa [allUnits_dd] at this) w [.agg cs.toArray] (argOk_cons cs (rep_rp _ _ _ (x.is_dd false) h) (by rw [TBuild.dd_eq]; rfl) argOk_nil)
end Go.Proofs.YtkmiecgcibjkbaaGreat
