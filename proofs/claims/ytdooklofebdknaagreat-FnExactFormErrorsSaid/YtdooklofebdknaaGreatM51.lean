/- What the law of FormErrors calls, in terms of trees. No condition but sizes. -/
import Derived.Test.YtdooklofebdknaaGreatM05
import Derived.Test.YtdooklofebdknaaGreatM34
import Derived.Test.YtdooklofebdknaaGreatM35
import Derived.Test.YtdooklofebdknaaGreatM41
import Derived.Test.YtdooklofebdknaaGreatM43
import Derived.Test.YtdooklofebdknaaGreatM48
import Derived.Test.YtdooklofebdknaaGreatM50
namespace Go.Proofs.YtdooklofebdknaaGreat
open Go.RowKit
set_option linter.unusedVariables false
theorem Own.below {w w' : World} {d : D} {cs : List Value} {bs : List Nat} (h : Own w d cs bs) (hB : Below w.heap.size w w') : Own w' d cs bs := Own.keep _ _ _ h (fun b hb => hB.block b (Own.lt _ _ _ h b hb))
theorem leafOk {w : World} (left : Int) (h0 : 0 ≤ left) (h1 : left ≤ 1048576) : rp w (Fz w) (.lf (.int .i64 left)) [.int .i64 left] [] := by
 simp only [rp]
 exact ⟨trivial, by simp [okLeaf, IntKind.min, IntKind.max, IntKind.bits, IntKind.signed]; omega, trivial⟩
theorem agOk {w : World} {K : Nat → Prop} (x : TProgram) {cs : List Value} (h : Rep w K x.enc cs) {ds : List DD} {vs : List Value} (k : argOk w ds vs) : argOk w (x.dd false :: ds) (.agg cs.toArray :: vs) := argOk_cons cs (rep_rp _ _ _ (x.is_dd false) h) (by rw [TProgram.dd_eq]; rfl) k
theorem szProgram_c (x : TProgram) : ∀ (w : World) (K : Nat → Prop) (_ : ∀ b, K b → b < w.heap.size) (cs : List Value) (_ : Rep w K x.enc cs) (left : Int) (_ : 0 ≤ left) (_ : left ≤ 1048576),
  Calls Tryz.prog 5 #[.agg cs.toArray, .int .i64 left] w fun e w' => e = .returned (.int .i64 (szr x.sz left)) ∧ Below w.heap.size w w' := fun w K _ cs h left h0 h1 =>
 (CS.out (c := cx) (args := [x.dd false, .lf (.int .i64 left)]) (y := .lf (.int .i64 (lftI x.sz left))) ((szProgram x left).cs ⟨h0, h1⟩ []) w [.agg cs.toArray, .int .i64 left] (agOk x h (argOk_cons _ (leafOk left h0 h1) rfl argOk_nil))).mono fun e w' ⟨cs', bs, F', e1, e2, _, _, e3⟩ => by
  simp only [rp] at e2
  obtain ⟨rfl, -⟩ := e2
  exact ⟨e1, e3⟩
theorem toProgram_c (x : TProgram) (hz : x.sz ≤ 1048576) : ∀ (w : World) (K : Nat → Prop) (_ : ∀ b, K b → b < w.heap.size) (cs : List Value) (_ : Rep w K x.enc cs),
  Calls Tryz.prog 7 #[.agg cs.toArray] w fun e w' => ∃ cs' bs, e = .returned (.agg cs'.toArray) ∧ Own w' x.enc cs' bs ∧ bs.Nodup ∧ (∀ b ∈ bs, w.heap.size ≤ b ∧ b < w'.heap.size) ∧ Below w.heap.size w w' := fun w K _ cs h => by
 have h1 := (toProgram x).cs (by omega) []
 have h2 := x.is_dd true
 obtain ⟨fs, hfs⟩ : ∃ fs, x.dd true = .st fs := ⟨_, TProgram.dd_eq true x⟩
 rw [hfs] at h1 h2
 exact CS.outT (c := cx) (args := [x.dd false]) h2 h1 w [.agg cs.toArray] (agOk x h argOk_nil)
theorem eqProgram_c (x : TProgram) (hz : x.sz ≤ 1048576) : ∀ (w : World) (K : Nat → Prop) (_ : ∀ b, K b → b < w.heap.size) (cs ds : List Value) (_ : Rep w K x.enc cs) (_ : Rep w K x.enc ds),
  Calls Tryz.prog 10 #[.agg cs.toArray, .agg ds.toArray] w fun e w' => e = .returned (.bool true) ∧ Below w.heap.size w w' := fun w K _ cs ds h k =>
 (CS.out (c := cx) (args := [x.dd false, x.dd false]) (y := .lf (.bool true)) ((eqProgram x).cs trivial []) w [.agg cs.toArray, .agg ds.toArray] (agOk x h (agOk x k argOk_nil))).mono fun e w' ⟨cs', bs, F', e1, e2, _, _, e3⟩ => by
  simp only [rp] at e2
  obtain ⟨rfl, -⟩ := e2
  exact ⟨e1, e3⟩
theorem agR {w : World} {K : Nat → Prop} (l : List TFormError) {v : Value} (h : Rep w K (.sl (l.map TFormError.enc)) [v]) {ds : List DD} {vs : List Value} (k : argOk w ds vs) : argOk w (.sl false sh40 (l.map (TFormError.dd false)) :: ds) (v :: vs) :=
 argOk_cons [v] (rep_rp _ _ _ (is_sl (fun y => TFormError.sh_dd false y) (by decide) fun y _ => y.is_dd false) h) rfl k
theorem eqFormErrorS_c (l : List TFormError) : ∀ (w : World) (K : Nat → Prop) (_ : ∀ b, K b → b < w.heap.size) (u v : Value) (_ : Rep w K (.sl (l.map TFormError.enc)) [u]) (_ : Rep w K (.sl (l.map TFormError.enc)) [v]),
  Calls Tryz.prog 9 #[u, v] w fun e w' => e = .returned (.bool true) ∧ Below w.heap.size w w' := fun w K _ u v h k =>
 (CS.out (c := cx) (args := [.sl false sh40 (l.map (TFormError.dd false)), .sl false sh40 (l.map (TFormError.dd false))]) (y := .lf (.bool true)) (eqFES l []) w [u, v] (agR l h (agR l k argOk_nil))).mono fun e w' ⟨cs', bs, F', e1, e2, _, _, e3⟩ => by
  simp only [rp] at e2
  obtain ⟨rfl, -⟩ := e2
  exact ⟨e1, e3⟩
theorem feE_len (w : TProgram) : (feE w).length ≤ w.sz + 1 := by
 have h := feK_sz w (k := w.fPackages.length) (Nat.le_refl _)
 unfold feE
 split
 ·split <;> simp <;> omega
 ·simp
theorem feE_cnt (x : TProgram) : cnts ((feE x).map TFormError.enc) ≤ 32 * (x.sz + 1) := by
 have h1 := cnts_map_le (enc := TFormError.enc) (f := fun _ => 0) (fun s => by rw [TFormError.cnt_flat]; omega) (feE x)
 have h2 := szL_zero (feE x)
 have h3 := feE_len x
 unfold szs at h1
 omega
theorem specFormErrors_c (x : TProgram) (hz : x.sz ≤ 1048576) : ∀ (w : World) (K : Nat → Prop) (_ : ∀ b, K b → b < w.heap.size) (cs : List Value) (_ : Rep w K x.enc cs),
  Calls Tryz.prog 6 #[.agg cs.toArray] w fun e w' => ∃ a p bs, e = .returned (.slice a (feE x).length p) ∧ Own w' (.sl ((feE x).map TFormError.enc)) [.slice a (feE x).length p] bs ∧ bs.Nodup ∧ (∀ b ∈ bs, w.heap.size ≤ b ∧ b < w'.heap.size) ∧ Below w.heap.size w w' := fun w _ _ cs h =>
 CS.outS (c := cx) (args := [x.dd false]) (dd := TFormError.dd true) (s := sh40) (fun y => TFormError.sh_dd true y) (by decide) (fun y => y.is_dd true) (by have q := (sForE x).cs (by omega) []; simpa [TProgram.dd_eq] using q) w [.agg cs.toArray] (agOk x h argOk_nil)
theorem implFormErrors_c (x : TProgram) (hz : x.sz ≤ 1048576) : ∀ (w : World) (K : Nat → Prop) (_ : ∀ b, K b → b < w.heap.size) (cs : List Value) (_ : Rep w K x.enc cs),
  Calls Tryz.prog 8 #[.agg cs.toArray] w fun e w' => ∃ a p bs, e = .returned (.slice a (feE x).length p) ∧ Own w' (.sl ((feE x).map TFormError.enc)) [.slice a (feE x).length p] bs ∧ bs.Nodup ∧ (∀ b ∈ bs, w.heap.size ≤ b ∧ b < w'.heap.size) ∧ Below w.heap.size w w' := fun w _ _ cs h =>
 CS.outS (c := cx) (args := [x.dd false]) (dd := TFormError.dd true) (s := sh40) (fun y => TFormError.sh_dd true y) (by decide) (fun y => y.is_dd true) (iForE x (by omega) []) w [.agg cs.toArray] (agOk x h argOk_nil)
end Go.Proofs.YtdooklofebdknaaGreat
