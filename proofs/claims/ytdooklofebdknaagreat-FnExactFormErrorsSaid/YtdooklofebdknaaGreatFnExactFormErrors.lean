/- 'laws.FnExactFormErrors', whatever its input: it answers true, and its arguments read behind the call as they read before. No condition. -/
import Derived.Test.YtdooklofebdknaaGreatM03
import Derived.ChangeMaps5
import Derived.Test.YtdooklofebdknaaGreatClFormErrors
import Derived.Test.YtdooklofebdknaaGreatLawFormErrors
namespace Go.Proofs.YtdooklofebdknaaGreat.fnExactFormErrors
open Go.ChangeShapes Go.WideShapes Go.ChangeAt Go.RowKit
theorem own : ownKnob Tryz.prog.godebug = none := by kernel_rfl
theorem laidOut : laidOutB Tryz.prog = true := by kernel_rfl
theorem readable24 : Tryz.prog.readableRec 24 = true := by kernel_rfl
theorem rowed24 : 24 < Tryz.prog.types.size := of_decide_eq_true (by kernel_rfl)
set_option maxRecDepth 100000 in
theorem lifted (os : Os) (started : os.Started) (H : Type) (enc : TypeId × Value → H) :
  ReturnsInHanded {} Tryz.checked os 3 .any (Rows.fnExactFormErrorsSpec.pre6 enc Tryz.prog Tryz.f3 Rows.fnExactFormErrorsRow.domain false) (Rows.fnExactFormErrorsSpec.post enc Tryz.prog Tryz.f3 false true false false) := by
 refine returnsInHanded_of_change (C := Tryz.checked) own started (by kernel_rfl) Tryz.func3
  (ChangeSpec.witness6 (enc := enc) (C := Tryz.checked) false ⟨#[], #[.agg #[.slice none 0 0]], []⟩ 12 (by kernel_rfl) (by kernel_rfl) (by kernel_rfl) (by kernel_rfl)) ?_
 intro W base args ds gs before hval0 hW hcnd _
 have hval : ∀ (j : Nat) t v, Tryz.f3.params[j]? = some t → args[j]? = some v → Value.okWide Tryz.prog W .any base t v := hval0
 have hW' := hW
 have hlt := hW.lt
 obtain ⟨p, q, hA0, hV, rfl, hfz, hnd⟩ := hW
 have hA : DataW.TrodAll enc Tryz.prog W 0 (fun _ => true) true Tryz.f3.params.toList args.toList ds p := hA0
 rw [Tryz.params3] at hA hval
 obtain ⟨v0, d0, rfl, rfl, h0⟩ := trodAll_one hA
 obtain ⟨p0, rfl⟩ : ∃ p0, p0 = p := ⟨_, rfl⟩
 obtain ⟨rfl, rfl⟩ := trodVars_none hV
 have t0 := h0
 obtain ⟨c0, rfl⟩ := okAgg Tryz.underlying24 (hval 0 24 v0 rfl rfl)
 obtain ⟨f0, u0⟩ := h0
 obtain ⟨x0, R0⟩ := openProgram_c (cs := c0) u0
 refine (law_c x0 W c0 R0).mono fun e W' ⟨he, hB⟩ => ?_
 subst he
 exact ⟨_, rfl, post_of_below (pa := p0 ++ ([])) (pv := []) hW' (fun _ _ _ => trodAll_cons_mk (shut_bool Tryz.underlying4 _) trodAll_mk0)
  (fun sp hsp => (trodAll_cons_mk (stays t0 rowed24 readable24 laidOut hB (fun x hx => hlt x (by simp [hx])) (fun x hx => hsp x (by simp [hx]))) trodAll_mk0)) (fun _ _ => rfl) (by simp) hB (ok_one (by kernel_rfl) rfl (okWide_bool_mk Tryz.underlying4 _))⟩
theorem proved : Rows.FnExactFormErrorsSaid :=
 OpenClaim.holds_of_wide 3 Tryz.f3 rfl rfl rfl rfl rfl rfl rfl ⟨rfl, rfl, rfl, rfl, rfl⟩ rfl rfl rfl rfl rfl (by kernel_rfl) Tryz.func3 closed
  (of_decide_eq_true (by kernel_rfl)) (by unfold Func.isWrapper; first | (rw [if_pos (by decide +kernel)]; kernel_rfl) | (rw [if_neg (by decide +kernel)]; exact ⟨rfl, rfl⟩))
  (fun os started H enc _ => lifted os started H enc)
end Go.Proofs.YtdooklofebdknaaGreat.fnExactFormErrors
