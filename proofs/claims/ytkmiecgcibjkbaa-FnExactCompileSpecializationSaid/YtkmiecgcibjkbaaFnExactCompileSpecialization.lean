/- 'laws.FnExactCompileSpecialization', whatever its input: it answers true, and its arguments read behind the call as they read before. No condition. -/
import Derived.Test.YtkmiecgcibjkbaaOpens
import Derived.ChangeMaps5
import Derived.Test.YtkmiecgcibjkbaaLawCompileSpecialization
namespace Go.Proofs.Ytkmiecgcibjkbaa.fnExactCompileSpecialization
open Go.ChangeShapes Go.WideShapes Go.ChangeAt Go.RowKit
theorem own : ownKnob Try.prog.godebug = none := by kernel_rfl
theorem laidOut : laidOutB Try.prog = true := by kernel_rfl
theorem readable3 : Try.prog.readableRec 3 = true := by kernel_rfl
theorem rowed3 : 3 < Try.prog.types.size := of_decide_eq_true (by kernel_rfl)
theorem readable25 : Try.prog.readableRec 25 = true := by kernel_rfl
theorem rowed25 : 25 < Try.prog.types.size := of_decide_eq_true (by kernel_rfl)
set_option maxRecDepth 100000 in
theorem lifted (os : Os) (started : os.Started) (H : Type) (enc : TypeId × Value → H) :
    ReturnsInHanded {} Try.checked os 3 .any (Rows.fnExactCompileSpecializationSpec.pre6 enc Try.prog Try.f3 Rows.fnExactCompileSpecializationRow.domain false) (Rows.fnExactCompileSpecializationSpec.post enc Try.prog Try.f3 false true false false) := by
  refine returnsInHanded_of_change (C := Try.checked) own started (by kernel_rfl) Try.func3
    (ChangeSpec.witness6 (enc := enc) (C := Try.checked) false ⟨#[], #[.agg #[.slice none 0 0, .slice none 0 0], .int .i64 0], []⟩ 12 (by kernel_rfl) (by kernel_rfl) (by kernel_rfl) (by kernel_rfl)) ?_
  intro W base args ds gs before hval0 hW hcnd _
  have hval : ∀ (j : Nat) t v, Try.f3.params[j]? = some t → args[j]? = some v → Value.okWide Try.prog W .any base t v := hval0
  have hW' := hW
  have hlt := hW.lt
  obtain ⟨p, q, hA0, hV, rfl, hfz, hnd⟩ := hW
  have hA : DataW.TrodAll enc Try.prog W 0 (fun _ => true) true Try.f3.params.toList args.toList ds p := hA0
  rw [Try.params3] at hA hval
  obtain ⟨v0, v1, d0, d1, p0, p1, rfl, rfl, rfl, h0, h1⟩ := trodAll_two hA
  obtain ⟨rfl, rfl⟩ := trodVars_none hV
  have t0 := h0
  obtain ⟨c0, rfl⟩ := okAgg Try.underlying25 (hval 0 25 v0 rfl rfl)
  obtain ⟨f0, u0⟩ := h0
  obtain ⟨x0, R0⟩ := openMonoProgram_c (cs := c0) u0
  have t1 := h1
  obtain ⟨n1, rfl, rfl, rfl, wn1⟩ := open_int Try.underlying3 (hval 1 3 v1 rfl rfl) h1
  refine (law_c x0 n1 W c0 R0 (inR_of wn1)).mono fun e W' ⟨he, hB⟩ => ?_
  subst he
  exact ⟨_, rfl, post_of_below (pa := p0 ++ ([] ++ ([]))) (pv := []) hW' (fun _ _ _ => trodAll_cons_mk (shut_bool Try.underlying4 _) trodAll_mk0)
    (fun sp hsp => (trodAll_cons_mk (stays t0 rowed25 readable25 laidOut hB (fun x hx => hlt x (by simp [hx])) (fun x hx => hsp x (by simp [hx]))) (trodAll_cons_mk (stays t1 rowed3 readable3 laidOut hB (fun x hx => by cases hx) (fun x hx => by cases hx)) trodAll_mk0))) (fun _ _ => rfl) (by simp) hB (ok_one (by kernel_rfl) rfl (okWide_bool_mk Try.underlying4 _))⟩
theorem proved : Rows.FnExactCompileSpecializationSaid :=
  OpenClaim.holds_of_wide 3 Try.f3 rfl rfl rfl rfl rfl rfl rfl ⟨rfl, rfl, rfl, rfl, rfl⟩ rfl rfl rfl rfl rfl (by kernel_rfl) Try.func3 (by kernel_rfl)
    (of_decide_eq_true (by kernel_rfl)) (by unfold Func.isWrapper; first | (rw [if_pos (by decide +kernel)]; kernel_rfl) | (rw [if_neg (by decide +kernel)]; exact ⟨rfl, rfl⟩))
    (fun os started H enc _ => lifted os started H enc)
end Go.Proofs.Ytkmiecgcibjkbaa.fnExactCompileSpecialization
