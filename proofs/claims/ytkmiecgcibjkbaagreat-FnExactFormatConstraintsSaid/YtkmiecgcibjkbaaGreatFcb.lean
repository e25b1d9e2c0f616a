/- Walks by the Den rules. No condition but sizes. -/
import Derived.Test.YtkmiecgcibjkbaaGreatFca
namespace Go.Proofs.YtkmiecgcibjkbaaGreat
open Go.RowKit
set_option maxRecDepth 10000
set_option linter.unusedSimpArgs false
set_option maxHeartbeats 4000000
def hdOk (k : Int) (n : ByteArray) (m : Nat) : Bool := if k = 1 ∨ k = 4 then isNm n && decide (m = 0) else if k = 3 then isNm n && decide (m = 1) else if k = 2 then isNm n && decide (m ≤ 3) || base n && decide (m = 0) else false
mutual
def tForm : TType → Bool
  | ⟨k, n, l⟩ => hdOk k n l.length && tForms l
def tForms : List TType → Bool
  | [] => true
  | x :: l => tForm x && tForms l
end
def tFormk (l : List TType) (k : Nat) : Bool := tForms (l.take k)
theorem tForms_app : ∀ a b : List TType, tForms (a ++ b) = (tForms a && tForms b)
  | [], b => by simp [tForms]
  | x :: a, b => by simp only [List.cons_append, tForms, tForms_app a b, Bool.and_assoc]
theorem tFormk_zero (l : List TType) : tFormk l 0 = true := rfl
theorem tFormk_full (x : TType) : (hdOk x.fKind x.fName x.fArgs.length && tFormk x.fArgs x.fArgs.length) = tForm x := by cases x; simp [tFormk, tForm]
theorem tFormk_step {l : List TType} {k : Nat} (h : k < l.length) : tFormk l (k + 1) = (tFormk l k && tForm l[k]) := by
  unfold tFormk
  rw [List.take_succ_eq_append_getElem h, tForms_app]; simp [tForms]
theorem sForm_a (x : TType) (hz : x.sz ≤ 1048576) (hc : ∀ y ∈ x.fArgs, ∀ h, CS cx.P 173 [.d (y.dd false)] h (.d (.lf (.bool (tForm y)))) h) (h : HP) : CS cx.P 173 [.d (x.dd false)] h (.d (.lf (.bool (tForm x)))) h := by
  have hz2 := x.sz_eq; unfold szs at hz2
  refine CS.run (fn := Tryz.f173) ⟨Tryz.func173, rfl, rfl⟩ _ _ _ _ 66 rfl (by simp) ?_
  refine W.seq ?_
  apply W.regS; intro _ K hK
  iterate 2 (refine WL.op [] rfl (by simp <;> omega) rfl ?_; simp)
  exact WL.nil hK
  refine W.seq ?_
  apply W.regS; intro _ K hK
  iterate 2 (refine WL.op [] rfl (by simp <;> omega) rfl ?_; simp)
  refine WL.call [] _ _ _ rfl rfl (by simp) (g := 178) (caps := []) (by simp) (by simp) (fn := Tryz.f178) ⟨Tryz.func178, rfl, rfl⟩ rfl (by simp) (by simp) (by simp) (sName_d x.fName (by omega) _) rfl ?_; simp
  refine WL.op [] rfl (by simp <;> omega) rfl ?_; simp
  exact WL.nil hK
  refine W.seq ?_
  refine W.seq ?_
  apply W.regS; intro _ K hK
  iterate 2 (refine WL.op [] rfl (by simp <;> omega) rfl ?_; simp)
  exact WL.nil hK
  refine W.join [1] [1] [(3, .d (.lf (.bool (hdOk x.fKind x.fName x.fArgs.length))))] [] ?_ fun T hT => ?_
  · refine W.block ?_
    refine W.seq ?_
    refine W.seq ?_
    apply W.regS; intro _ K hK
    iterate 2 (refine WL.op [] rfl (by simp <;> omega) rfl ?_; simp)
    exact WL.nil hK
    refine W.condS _ rfl trivial (fun hb0 => ?_) fun hb0 => ?_ <;> try simp at hb0
    · refine W.skip ?_
      refine W.condT (by simp [hb0]) trivial ?_
      refine W.regJ0 (D := [some 13, some 14, some 15, some 16, some 17, some 18, some 19, some 3]) rfl fun _ K hD hK => ?_
      iterate 2 (refine WL.op [] rfl (by simp <;> omega) rfl ?_; simp)
      refine WL.split 14 _ rfl (fun g14 => ?_) fun g14 => ?_ <;> try simp at g14
      · simp
        refine WL.opG [] hD 1 14 true rfl rfl (by simp) (by simp <;> omega) rfl ?_; simp
        refine WL.opG [] hD 1 14 true rfl rfl (by simp) (by simp <;> omega) rfl ?_; simp
        refine WL.opG [] hD 1 14 true rfl rfl (by simp) (by simp <;> omega) rfl ?_; simp
        refine WL.opG [] hD 1 14 true rfl rfl (by simp) (by simp <;> omega) rfl ?_; simp
        iterate 2 (refine WL.op [] rfl (by simp <;> omega) rfl ?_; simp)
        refine WL.nil (hK _ ?_)
        refine Wz.to rfl rfl rfl ?_
        simp [hdOk, hb0, g14] <;> first | omega | grind
      · simp
        refine WL.no2 hD 1 14 true rfl rfl (by simp) (by simp) rfl ?_; simp
        refine WL.no2 hD 1 14 true rfl rfl (by simp) (by simp) rfl ?_; simp
        refine WL.no2 hD 1 14 true rfl rfl (by simp) (by simp) rfl ?_; simp
        refine WL.no2 hD 1 14 true rfl rfl (by simp) (by simp) rfl ?_; simp
        iterate 2 (refine WL.op [] rfl (by simp <;> omega) rfl ?_; simp)
        refine WL.nil (hK _ ?_)
        refine Wz.to rfl rfl rfl ?_
        simp [hdOk, hb0, g14] <;> first | omega | grind
    · apply W.regS; intro _ K hK
      iterate 2 (refine WL.op [] rfl (by simp <;> omega) rfl ?_; simp)
      exact WL.nil hK
      refine W.condS _ rfl trivial (fun hb1 => ?_) fun hb1 => ?_ <;> try simp at hb1
      · refine W.regJ0 (D := [some 13, some 14, some 15, some 16, some 17, some 18, some 19, some 3]) rfl fun _ K hD hK => ?_
        iterate 2 (refine WL.op [] rfl (by simp <;> omega) rfl ?_; simp)
        refine WL.split 14 _ rfl (fun g14 => ?_) fun g14 => ?_ <;> try simp at g14
        · simp
          refine WL.opG [] hD 1 14 true rfl rfl (by simp) (by simp <;> omega) rfl ?_; simp
          refine WL.opG [] hD 1 14 true rfl rfl (by simp) (by simp <;> omega) rfl ?_; simp
          refine WL.opG [] hD 1 14 true rfl rfl (by simp) (by simp <;> omega) rfl ?_; simp
          refine WL.opG [] hD 1 14 true rfl rfl (by simp) (by simp <;> omega) rfl ?_; simp
          iterate 2 (refine WL.op [] rfl (by simp <;> omega) rfl ?_; simp)
          refine WL.nil (hK _ ?_)
          refine Wz.to rfl rfl rfl ?_
          simp [hdOk, hb0, hb1, g14] <;> first | omega | grind
        · simp
          refine WL.no2 hD 1 14 true rfl rfl (by simp) (by simp) rfl ?_; simp
          refine WL.no2 hD 1 14 true rfl rfl (by simp) (by simp) rfl ?_; simp
          refine WL.no2 hD 1 14 true rfl rfl (by simp) (by simp) rfl ?_; simp
          refine WL.no2 hD 1 14 true rfl rfl (by simp) (by simp) rfl ?_; simp
          iterate 2 (refine WL.op [] rfl (by simp <;> omega) rfl ?_; simp)
          refine WL.nil (hK _ ?_)
          refine Wz.to rfl rfl rfl ?_
          simp [hdOk, hb0, hb1, g14] <;> first | omega | grind
      · refine W.seq ?_
        apply W.regS; intro _ K hK
        iterate 2 (refine WL.op [] rfl (by simp <;> omega) rfl ?_; simp)
        exact WL.nil hK
        refine W.condS _ rfl trivial (fun hb2 => ?_) fun hb2 => ?_ <;> try simp at hb2
        · refine W.regJ0 (D := [some 22, some 23, some 24, some 25, some 26, some 27, some 28, some 3]) rfl fun _ K hD hK => ?_
          iterate 2 (refine WL.op [] rfl (by simp <;> omega) rfl ?_; simp)
          refine WL.split 23 _ rfl (fun g23 => ?_) fun g23 => ?_ <;> try simp at g23
          · simp
            refine WL.opG [] hD 1 23 true rfl rfl (by simp) (by simp <;> omega) rfl ?_; simp
            refine WL.opG [] hD 1 23 true rfl rfl (by simp) (by simp <;> omega) rfl ?_; simp
            refine WL.opG [] hD 1 23 true rfl rfl (by simp) (by simp <;> omega) rfl ?_; simp
            refine WL.opG [] hD 1 23 true rfl rfl (by simp) (by simp <;> omega) rfl ?_; simp
            iterate 2 (refine WL.op [] rfl (by simp <;> omega) rfl ?_; simp)
            refine WL.nil (hK _ ?_)
            refine Wz.to rfl rfl rfl ?_
            simp [hdOk, hb0, hb1, hb2, g23] <;> first | omega | grind
          · simp
            refine WL.no2 hD 1 23 true rfl rfl (by simp) (by simp) rfl ?_; simp
            refine WL.no2 hD 1 23 true rfl rfl (by simp) (by simp) rfl ?_; simp
            refine WL.no2 hD 1 23 true rfl rfl (by simp) (by simp) rfl ?_; simp
            refine WL.no2 hD 1 23 true rfl rfl (by simp) (by simp) rfl ?_; simp
            iterate 2 (refine WL.op [] rfl (by simp <;> omega) rfl ?_; simp)
            refine WL.nil (hK _ ?_)
            refine Wz.to rfl rfl rfl ?_
            simp [hdOk, hb0, hb1, hb2, g23] <;> first | omega | grind
        · refine W.seq ?_
          apply W.regS; intro _ K hK
          iterate 2 (refine WL.op [] rfl (by simp <;> omega) rfl ?_; simp)
          exact WL.nil hK
          refine W.condS _ rfl trivial (fun hb3 => ?_) fun hb3 => ?_ <;> try simp at hb3
          · refine W.regJ0 (D := [some 31, some 32, some 33, some 34, some 35, some 36, some 37, some 38, some 39, some 40, some 41, some 42, some 43, some 44, some 45, some 46, some 47, some 48, some 3]) rfl fun _ K hD hK => ?_
            iterate 2 (refine WL.op [] rfl (by simp <;> omega) rfl ?_; simp)
            refine WL.split 32 _ rfl (fun g32 => ?_) fun g32 => ?_ <;> try simp at g32
            · simp
              refine WL.opG [] hD 1 32 true rfl rfl (by simp) (by simp <;> omega) rfl ?_; simp
              refine WL.opG [] hD 1 32 true rfl rfl (by simp) (by simp <;> omega) rfl ?_; simp
              refine WL.opG [] hD 1 32 true rfl rfl (by simp) (by simp <;> omega) rfl ?_; simp
              refine WL.opG [] hD 1 32 true rfl rfl (by simp) (by simp <;> omega) rfl ?_; simp
              iterate 2 (refine WL.op [] rfl (by simp <;> omega) rfl ?_; simp)
              refine WL.split 38 _ rfl (fun g38 => ?_) fun g38 => ?_ <;> try simp at g38
              · simp
                refine WL.no2 hD 7 38 false rfl rfl (by simp) (by simp) rfl ?_; simp
                refine WL.no2 hD 7 38 false rfl rfl (by simp) (by simp) rfl ?_; simp
                refine WL.no2 hD 7 38 false rfl rfl (by simp) (by simp) rfl ?_; simp
                refine WL.no2 hD 7 38 false rfl rfl (by simp) (by simp) rfl ?_; simp
                refine WL.no2 hD 11 42 true rfl rfl (by simp) (by simp) rfl ?_; simp
                refine WL.no2 hD 11 42 true rfl rfl (by simp) (by simp) rfl ?_; simp
                refine WL.no2 hD 11 42 true rfl rfl (by simp) (by simp) rfl ?_; simp
                refine WL.no2 hD 11 42 true rfl rfl (by simp) (by simp) rfl ?_; simp
                refine WL.no2 hD 7 38 false rfl rfl (by simp) (by simp) rfl ?_; simp
                iterate 2 (refine WL.op [] rfl (by simp <;> omega) rfl ?_; simp)
                refine WL.nil (hK _ ?_)
                refine Wz.to rfl rfl rfl ?_
                simp [hdOk, hb0, hb1, hb2, hb3, g32, g38] <;> first | omega | grind
              · simp
                refine WL.opG [] hD 7 38 false rfl rfl (by simp) (by simp <;> omega) rfl ?_; simp
                refine WL.opG [] hD 7 38 false rfl rfl (by simp) (by simp <;> omega) rfl ?_; simp
                refine WL.callG hD 7 38 false rfl rfl (by simp) [] _ _ _ rfl (by simp) (g := 214) (caps := []) (by simp) (by simp) (fn := Tryz.f214) ⟨Tryz.func214, rfl, rfl⟩ rfl (by simp) (by simp) (by simp) (l4Base_d x.fName _) rfl ?_; simp
                refine WL.opG [] hD 7 38 false rfl rfl (by simp) (by simp <;> omega) rfl ?_; simp
                refine WL.split 42 _ rfl (fun g42 => ?_) fun g42 => ?_ <;> try simp at g42
                · simp
                  refine WL.opG [] hD 11 42 true rfl rfl (by simp) (by simp <;> omega) rfl ?_; simp
                  refine WL.opG [] hD 11 42 true rfl rfl (by simp) (by simp <;> omega) rfl ?_; simp
                  refine WL.opG [] hD 11 42 true rfl rfl (by simp) (by simp <;> omega) rfl ?_; simp
                  refine WL.opG [] hD 11 42 true rfl rfl (by simp) (by simp <;> omega) rfl ?_; simp
                  refine WL.opG [] hD 7 38 false rfl rfl (by simp) (by simp <;> omega) rfl ?_; simp
                  iterate 2 (refine WL.op [] rfl (by simp <;> omega) rfl ?_; simp)
                  refine WL.nil (hK _ ?_)
                  refine Wz.to rfl rfl rfl ?_
                  simp [hdOk, hb0, hb1, hb2, hb3, g32, g38, g42] <;> first | omega | grind
                · simp
                  refine WL.no2 hD 11 42 true rfl rfl (by simp) (by simp) rfl ?_; simp
                  refine WL.no2 hD 11 42 true rfl rfl (by simp) (by simp) rfl ?_; simp
                  refine WL.no2 hD 11 42 true rfl rfl (by simp) (by simp) rfl ?_; simp
                  refine WL.no2 hD 11 42 true rfl rfl (by simp) (by simp) rfl ?_; simp
                  refine WL.opG [] hD 7 38 false rfl rfl (by simp) (by simp <;> omega) rfl ?_; simp
                  iterate 2 (refine WL.op [] rfl (by simp <;> omega) rfl ?_; simp)
                  refine WL.nil (hK _ ?_)
                  refine Wz.to rfl rfl rfl ?_
                  simp [hdOk, hb0, hb1, hb2, hb3, g32, g38, g42] <;> first | omega | grind
            · simp
              refine WL.no2 hD 1 32 true rfl rfl (by simp) (by simp) rfl ?_; simp
              refine WL.no2 hD 1 32 true rfl rfl (by simp) (by simp) rfl ?_; simp
              refine WL.no2 hD 1 32 true rfl rfl (by simp) (by simp) rfl ?_; simp
              refine WL.no2 hD 1 32 true rfl rfl (by simp) (by simp) rfl ?_; simp
              iterate 2 (refine WL.op [] rfl (by simp <;> omega) rfl ?_; simp)
              refine WL.opG [] hD 7 38 false rfl rfl (by simp) (by simp <;> omega) rfl ?_; simp
              refine WL.opG [] hD 7 38 false rfl rfl (by simp) (by simp <;> omega) rfl ?_; simp
              refine WL.callG hD 7 38 false rfl rfl (by simp) [] _ _ _ rfl (by simp) (g := 214) (caps := []) (by simp) (by simp) (fn := Tryz.f214) ⟨Tryz.func214, rfl, rfl⟩ rfl (by simp) (by simp) (by simp) (l4Base_d x.fName _) rfl ?_; simp
              refine WL.opG [] hD 7 38 false rfl rfl (by simp) (by simp <;> omega) rfl ?_; simp
              refine WL.split 42 _ rfl (fun g42 => ?_) fun g42 => ?_ <;> try simp at g42
              · simp
                refine WL.opG [] hD 11 42 true rfl rfl (by simp) (by simp <;> omega) rfl ?_; simp
                refine WL.opG [] hD 11 42 true rfl rfl (by simp) (by simp <;> omega) rfl ?_; simp
                refine WL.opG [] hD 11 42 true rfl rfl (by simp) (by simp <;> omega) rfl ?_; simp
                refine WL.opG [] hD 11 42 true rfl rfl (by simp) (by simp <;> omega) rfl ?_; simp
                refine WL.opG [] hD 7 38 false rfl rfl (by simp) (by simp <;> omega) rfl ?_; simp
                iterate 2 (refine WL.op [] rfl (by simp <;> omega) rfl ?_; simp)
                refine WL.nil (hK _ ?_)
                refine Wz.to rfl rfl rfl ?_
                simp [hdOk, hb0, hb1, hb2, hb3, g32, g42] <;> first | omega | grind
              · simp
                refine WL.no2 hD 11 42 true rfl rfl (by simp) (by simp) rfl ?_; simp
                refine WL.no2 hD 11 42 true rfl rfl (by simp) (by simp) rfl ?_; simp
                refine WL.no2 hD 11 42 true rfl rfl (by simp) (by simp) rfl ?_; simp
                refine WL.no2 hD 11 42 true rfl rfl (by simp) (by simp) rfl ?_; simp
                refine WL.opG [] hD 7 38 false rfl rfl (by simp) (by simp <;> omega) rfl ?_; simp
                iterate 2 (refine WL.op [] rfl (by simp <;> omega) rfl ?_; simp)
                refine WL.nil (hK _ ?_)
                refine Wz.to rfl rfl rfl ?_
                simp [hdOk, hb0, hb1, hb2, hb3, g32, g42] <;> first | omega | grind
          · have hres : tForm x = false := by rw [← tFormk_full]; simp [hdOk, hb0, hb1, hb2, hb3]
            refine W.seq ?_
            apply W.regS; intro _ K hK
            refine WL.op [] rfl (by simp <;> omega) rfl ?_; simp
            exact WL.nil hK
            refine W.ret ⟨.inr rfl, ⟨_, rfl⟩, ?_⟩
            simp [Tryz.f173, hres]
  simp at hT; subst hT
  refine W.seq ?_
  refine W.seq ?_
  apply W.regS; intro _ K hK
  refine WL.op [] rfl (by simp <;> omega) rfl ?_; simp
  exact WL.nil hK
  refine W.block ?_
  refine W.loopk [1] [1] (fun k0 => [(4, .d (.lf (.int .i64 (k0 : Int)))), (3, .d (.lf (.bool (hdOk x.fKind x.fName x.fArgs.length && tFormk x.fArgs k0))))]) (fun _ => []) x.fArgs.length rfl (by simp [tFormk_zero]) fun k0 hk0 T hT => ?_
  simp at hT; subst hT
  refine W.seq ?_
  refine W.seq ?_
  apply W.regS; intro _ K hK
  iterate 5 (refine WL.op [] rfl (by simp <;> omega) rfl ?_; simp)
  exact WL.nil hK
  refine W.condS _ rfl trivial (fun hb4 => ?_) fun hb4 => ?_ <;> try simp at hb4
  · have hx := ixNext hb4 (by omega)
    refine W.skip ?_
    refine W.seq ?_
    refine W.block ?_
    refine W.regJ (D := [some 56, some 57, some 58, some 59, some 60, some 61, some 62, some 63, some 64, some 3]) [1, 4] [1] [(3, .d (.lf (.bool (hdOk x.fKind x.fName x.fArgs.length && tFormk x.fArgs (k0 + 1)))))] [] rfl (fun _ K hD hK => ?_) fun T hT => ?_
    iterate 2 (refine WL.op [] rfl (by simp [hb4, hx] <;> omega) rfl ?_; simp [hb4, hx])
    refine WL.split 57 _ rfl (fun g57 => ?_) fun g57 => ?_ <;> try simp at g57
    · simp [hb4, hx]
      refine WL.opG [] hD 1 57 true rfl rfl (by simp) (by simp [hb4, hx] <;> omega) rfl ?_; simp [hb4, hx]
      refine WL.opG [] hD 1 57 true rfl rfl (by simp) (by simp [hb4, hx] <;> omega) rfl ?_; simp [hb4, hx]
      refine WL.opG [] hD 1 57 true rfl rfl (by simp) (by simp [hb4, hx] <;> omega) rfl ?_; simp [hb4, hx]
      refine WL.opG [] hD 1 57 true rfl rfl (by simp) (by simp [hb4, hx] <;> omega) rfl ?_; simp [hb4, hx]
      refine WL.opG [] hD 1 57 true rfl rfl (by simp) (by simp [hb4, hx] <;> omega) rfl ?_; simp [hb4, hx]
      refine WL.callG hD 1 57 true rfl rfl (by simp) [] _ _ _ rfl (by simp) (g := 173) (caps := []) (by simp) (by simp) (fn := Tryz.f173) ⟨Tryz.func173, rfl, rfl⟩ rfl (by simp [hb4, hx]) (by simp) (by simp [hb4, hx]) (hc x.fArgs[k0] (List.getElem_mem hb4) _) rfl ?_; simp [hb4, hx]
      iterate 2 (refine WL.op [] rfl (by simp [hb4, hx] <;> omega) rfl ?_; simp [hb4, hx])
      refine WL.nil (hK _ (Wz.to rfl rfl rfl ?_))
      simp [tFormk_step hb4, g57] <;> grind
    · simp [hb4, hx]
      refine WL.no2 hD 1 57 true rfl rfl (by simp) (by simp) rfl ?_; simp [hb4, hx]
      refine WL.no2 hD 1 57 true rfl rfl (by simp) (by simp) rfl ?_; simp [hb4, hx]
      refine WL.no2 hD 1 57 true rfl rfl (by simp) (by simp) rfl ?_; simp [hb4, hx]
      refine WL.no2 hD 1 57 true rfl rfl (by simp) (by simp) rfl ?_; simp [hb4, hx]
      refine WL.no2 hD 1 57 true rfl rfl (by simp) (by simp) rfl ?_; simp [hb4, hx]
      refine WL.no2 hD 1 57 true rfl rfl (by simp) (by simp) rfl ?_; simp [hb4, hx]
      iterate 2 (refine WL.op [] rfl (by simp [hb4, hx] <;> omega) rfl ?_; simp [hb4, hx])
      refine WL.nil (hK _ (Wz.to rfl rfl rfl ?_))
      simp [tFormk_step hb4, g57] <;> grind
    simp at hT; subst hT
    apply W.regS; intro _ K hK
    iterate 3 (refine WL.op [] rfl (by simp [hb4, hx] <;> omega) rfl ?_; simp [hb4, hx])
    exact WL.nil hK
    refine ⟨hb4, Wz.to rfl rfl rfl ?_⟩
    simp
  · have hkl : k0 = x.fArgs.length := by omega
    subst hkl
    have hres := tFormk_full x
    refine W.exit ?_
    refine W.seq ?_
    apply W.regS; intro _ K hK
    iterate 2 (refine WL.op [] rfl (by simp <;> omega) rfl ?_; simp)
    exact WL.nil hK
    refine W.ret ⟨.inr rfl, ⟨_, rfl⟩, ?_⟩
    simp [Tryz.f173, hres]
end Go.Proofs.YtkmiecgcibjkbaaGreat
namespace Go.Proofs.YtkmiecgcibjkbaaGreat
open Go.RowKit
set_option maxRecDepth 10000
set_option linter.unusedSimpArgs false
set_option maxHeartbeats 4000000
def idxP {α : Type} (l : List α) (p : α → Bool) : Int := match l.findIdx? p with
  | some i => (i : Int)
  | none => -1
theorem idxP_at {α : Type} {l : List α} {p : α → Bool} {k : Nat} (h : ∀ j, j < k → ∀ y, l[j]? = some y → p y = false) (hk : k < l.length) (e : p l[k] = true) : idxP l p = (k : Int) := by
  have : l.findIdx? p = some k := by
    rw [List.findIdx?_eq_some_iff_getElem]
    refine ⟨hk, e, fun j hj => ?_⟩
    rw [h j hj l[j] (List.getElem?_eq_getElem (by omega))]; simp
  unfold idxP; rw [this]
theorem idxP_no {α : Type} {l : List α} {p : α → Bool} (h : ∀ j, j < l.length → ∀ y, l[j]? = some y → p y = false) : idxP l p = -1 := by
  have : l.findIdx? p = none := by
    rw [List.findIdx?_eq_none_iff]
    intro x hx
    obtain ⟨j, hj⟩ := List.mem_iff_getElem?.1 hx
    exact h j (List.getElem?_eq_some_iff.1 hj).1 x hj
  unfold idxP; rw [this]
theorem idxP_any {α : Type} (l : List α) (p : α → Bool) : decide (0 ≤ idxP l p) = l.any p := by
  unfold idxP
  cases h : l.findIdx? p with
  | none =>
    rw [List.findIdx?_eq_none_iff] at h
    have : l.any p = false := by rw [List.any_eq_false]; intro x hx; simp [h x hx]
    rw [this]; rfl
  | some i =>
    rw [List.findIdx?_eq_some_iff_getElem] at h
    obtain ⟨h1, h2, -⟩ := h
    have : l.any p = true := List.any_eq_true.2 ⟨l[i], List.getElem_mem h1, h2⟩
    rw [this]; simp
theorem noP_step {α : Type} {l : List α} {p : α → Bool} {k : Nat} (h : ∀ j, j < k → ∀ y, l[j]? = some y → p y = false) (hk : k < l.length) (hn : p l[k] = false) : ∀ j, j < k + 1 → ∀ y, l[j]? = some y → p y = false := fun j hj y hy => by
  rcases Nat.lt_or_ge j k with q | q
  · exact h j q y hy
  · have : j = k := by omega
    subst this
    rw [List.getElem?_eq_getElem hk] at hy
    cases hy; exact hn
theorem IndexFuncType_d (l : List TType) (hm : l.length ≤ 1048576) (g : Nat) (fn : Func) (body : Code) (hg : FnOk cx.P g fn body) (p : TType → Bool) (hp : ∀ y ∈ l, ∀ h, CS cx.P g [.d (y.dd false)] h (.d (.lf (.bool (p y)))) h) (h : HP) : CS cx.P 245 [.d (.sl false sh88 (l.map (TType.dd false))), .fn g []] h (.d (.lf (.int .i64 (idxP l p)))) h := by
  refine CS.run (fn := Tryz.f245) ⟨Tryz.func245, rfl, rfl⟩ _ _ _ _ 19 rfl (by simp) ?_
  refine W.seq ?_
  apply W.regS; intro _ K hK
  refine WL.op [] rfl (by simp <;> omega) rfl ?_; simp
  exact WL.nil hK
  refine W.seq ?_
  refine W.seq ?_
  apply W.regS; intro _ K hK
  iterate 3 (refine WL.op [] rfl (by simp <;> omega) rfl ?_; simp)
  exact WL.nil hK
  refine W.block ?_
  refine W.loopI [0, 1, 7] [] (fun k0 => [(8, .d (.lf (.int .i64 (k0 : Int))))]) (fun _ => []) l.length (fun k0 => ∀ j, j < k0 → ∀ y, l[j]? = some y → p y = false) rfl (by simp) (by simp) fun k0 hk0 hi0 T hT => ?_
  simp at hT; subst hT
  refine W.seq ?_
  apply W.regS; intro _ K hK
  refine WL.op [] rfl (by simp <;> omega) rfl ?_; simp
  exact WL.nil hK
  refine W.seq ?_
  refine W.condS _ rfl trivial (fun hb0 => ?_) fun hb0 => ?_ <;> try simp at hb0
  · have hx := ixNext hb0 (by omega)
    refine W.skip ?_
    refine W.seq ?_
    refine W.block ?_
    refine W.seq ?_
    apply W.regS; intro _ K hK
    iterate 2 (refine WL.op [] rfl (by simp [hb0, hx] <;> omega) rfl ?_; simp [hb0, hx])
    exact WL.nil hK
    refine W.seq ?_
    apply W.regS; intro _ K hK
    iterate 5 (refine WL.op [] rfl (by simp [hb0, hx] <;> omega) rfl ?_; simp [hb0, hx])
    refine WL.call [] _ _ _ rfl rfl (by simp) (g := g) (caps := []) (by simp) (by simp) hg rfl (by simp [hb0, hx]) (by simp) (by simp [hb0, hx]) (hp l[k0] (List.getElem_mem hb0) _) rfl ?_; simp [hb0, hx]
    exact WL.nil hK
    refine W.condS _ rfl trivial (fun hb1 => ?_) fun hb1 => ?_ <;> try simp at hb1
    · have hres := idxP_at hi0 hb0 hb1
      refine W.seq ?_
      apply W.regS; intro _ K hK
      iterate 2 (refine WL.op [] rfl (by simp [hb0, hx] <;> omega) rfl ?_; simp [hb0, hx])
      exact WL.nil hK
      refine W.ret ⟨.inr rfl, ⟨_, rfl⟩, ?_⟩
      simp [Tryz.f245, hres]
    · refine W.skip ?_
      apply W.regS; intro _ K hK
      iterate 2 (refine WL.op [] rfl (by simp [hb0, hx] <;> omega) rfl ?_; simp [hb0, hx])
      exact WL.nil hK
      refine ⟨hb0, noP_step hi0 hb0 hb1, Wz.to rfl rfl rfl ?_⟩
      simp
  · have hkl : k0 = l.length := by omega
    subst hkl
    have hres := idxP_no hi0
    refine W.exit ?_
    refine W.seq ?_
    apply W.regS; intro _ K hK
    refine WL.op [] rfl (by simp <;> omega) rfl ?_; simp
    exact WL.nil hK
    refine W.ret ⟨.inr rfl, ⟨_, rfl⟩, ?_⟩
    simp [Tryz.f245, hres]
theorem ContainsFuncType_d (l : List TType) (hm : l.length ≤ 1048576) (g : Nat) (fn : Func) (body : Code) (hg : FnOk cx.P g fn body) (p : TType → Bool) (hp : ∀ y ∈ l, ∀ h, CS cx.P g [.d (y.dd false)] h (.d (.lf (.bool (p y)))) h) (h : HP) : CS cx.P 221 [.d (.sl false sh88 (l.map (TType.dd false))), .fn g []] h (.d (.lf (.bool (l.any p)))) h := by
  refine CS.run (fn := Tryz.f221) ⟨Tryz.func221, rfl, rfl⟩ _ _ _ _ 9 rfl (by simp) ?_
  refine W.seq ?_
  apply W.regS; intro _ K hK
  refine WL.op [] rfl (by simp <;> omega) rfl ?_; simp
  exact WL.nil hK
  refine W.seq ?_
  apply W.regS; intro _ K hK
  iterate 2 (refine WL.op [] rfl (by simp <;> omega) rfl ?_; simp)
  refine WL.call [] _ _ _ rfl rfl (by simp) (g := 245) (caps := []) (by simp) (by simp) (fn := Tryz.f245) ⟨Tryz.func245, rfl, rfl⟩ rfl (by simp) (by simp) (by simp) (IndexFuncType_d l hm g fn body hg p hp _) rfl ?_; simp
  iterate 2 (refine WL.op [] rfl (by simp <;> omega) rfl ?_; simp)
  exact WL.nil hK
  refine W.ret ⟨.inr rfl, ⟨_, rfl⟩, ?_⟩
  simp [Tryz.f221, ← idxP_any]
theorem IndexFuncSExpr_d (l : List TSExpr) (hm : l.length ≤ 1048576) (g : Nat) (fn : Func) (body : Code) (hg : FnOk cx.P g fn body) (p : TSExpr → Bool) (hp : ∀ y ∈ l, ∀ h, CS cx.P g [.d (y.dd false)] h (.d (.lf (.bool (p y)))) h) (h : HP) : CS cx.P 259 [.d (.sl false sh202 (l.map (TSExpr.dd false))), .fn g []] h (.d (.lf (.int .i64 (idxP l p)))) h := by
  refine CS.run (fn := Tryz.f259) ⟨Tryz.func259, rfl, rfl⟩ _ _ _ _ 19 rfl (by simp) ?_
  refine W.seq ?_
  apply W.regS; intro _ K hK
  refine WL.op [] rfl (by simp <;> omega) rfl ?_; simp
  exact WL.nil hK
  refine W.seq ?_
  refine W.seq ?_
  apply W.regS; intro _ K hK
  iterate 3 (refine WL.op [] rfl (by simp <;> omega) rfl ?_; simp)
  exact WL.nil hK
  refine W.block ?_
  refine W.loopI [0, 1, 7] [] (fun k0 => [(8, .d (.lf (.int .i64 (k0 : Int))))]) (fun _ => []) l.length (fun k0 => ∀ j, j < k0 → ∀ y, l[j]? = some y → p y = false) rfl (by simp) (by simp) fun k0 hk0 hi0 T hT => ?_
  simp at hT; subst hT
  refine W.seq ?_
  apply W.regS; intro _ K hK
  refine WL.op [] rfl (by simp <;> omega) rfl ?_; simp
  exact WL.nil hK
  refine W.seq ?_
  refine W.condS _ rfl trivial (fun hb0 => ?_) fun hb0 => ?_ <;> try simp at hb0
  · have hx := ixNext hb0 (by omega)
    refine W.skip ?_
    refine W.seq ?_
    refine W.block ?_
    refine W.seq ?_
    apply W.regS; intro _ K hK
    iterate 2 (refine WL.op [] rfl (by simp [hb0, hx] <;> omega) rfl ?_; simp [hb0, hx])
    exact WL.nil hK
    refine W.seq ?_
    apply W.regS; intro _ K hK
    iterate 5 (refine WL.op [] rfl (by simp [hb0, hx] <;> omega) rfl ?_; simp [hb0, hx])
    refine WL.call [] _ _ _ rfl rfl (by simp) (g := g) (caps := []) (by simp) (by simp) hg rfl (by simp [hb0, hx]) (by simp) (by simp [hb0, hx]) (hp l[k0] (List.getElem_mem hb0) _) rfl ?_; simp [hb0, hx]
    exact WL.nil hK
    refine W.condS _ rfl trivial (fun hb1 => ?_) fun hb1 => ?_ <;> try simp at hb1
    · have hres := idxP_at hi0 hb0 hb1
      refine W.seq ?_
      apply W.regS; intro _ K hK
      iterate 2 (refine WL.op [] rfl (by simp [hb0, hx] <;> omega) rfl ?_; simp [hb0, hx])
      exact WL.nil hK
      refine W.ret ⟨.inr rfl, ⟨_, rfl⟩, ?_⟩
      simp [Tryz.f259, hres]
    · refine W.skip ?_
      apply W.regS; intro _ K hK
      iterate 2 (refine WL.op [] rfl (by simp [hb0, hx] <;> omega) rfl ?_; simp [hb0, hx])
      exact WL.nil hK
      refine ⟨hb0, noP_step hi0 hb0 hb1, Wz.to rfl rfl rfl ?_⟩
      simp
  · have hkl : k0 = l.length := by omega
    subst hkl
    have hres := idxP_no hi0
    refine W.exit ?_
    refine W.seq ?_
    apply W.regS; intro _ K hK
    refine WL.op [] rfl (by simp <;> omega) rfl ?_; simp
    exact WL.nil hK
    refine W.ret ⟨.inr rfl, ⟨_, rfl⟩, ?_⟩
    simp [Tryz.f259, hres]
theorem ContainsFuncSExpr_d (l : List TSExpr) (hm : l.length ≤ 1048576) (g : Nat) (fn : Func) (body : Code) (hg : FnOk cx.P g fn body) (p : TSExpr → Bool) (hp : ∀ y ∈ l, ∀ h, CS cx.P g [.d (y.dd false)] h (.d (.lf (.bool (p y)))) h) (h : HP) : CS cx.P 247 [.d (.sl false sh202 (l.map (TSExpr.dd false))), .fn g []] h (.d (.lf (.bool (l.any p)))) h := by
  refine CS.run (fn := Tryz.f247) ⟨Tryz.func247, rfl, rfl⟩ _ _ _ _ 9 rfl (by simp) ?_
  refine W.seq ?_
  apply W.regS; intro _ K hK
  refine WL.op [] rfl (by simp <;> omega) rfl ?_; simp
  exact WL.nil hK
  refine W.seq ?_
  apply W.regS; intro _ K hK
  iterate 2 (refine WL.op [] rfl (by simp <;> omega) rfl ?_; simp)
  refine WL.call [] _ _ _ rfl rfl (by simp) (g := 259) (caps := []) (by simp) (by simp) (fn := Tryz.f259) ⟨Tryz.func259, rfl, rfl⟩ rfl (by simp) (by simp) (by simp) (IndexFuncSExpr_d l hm g fn body hg p hp _) rfl ?_; simp
  iterate 2 (refine WL.op [] rfl (by simp <;> omega) rfl ?_; simp)
  exact WL.nil hK
  refine W.ret ⟨.inr rfl, ⟨_, rfl⟩, ?_⟩
  simp [Tryz.f247, ← idxP_any]
end Go.Proofs.YtkmiecgcibjkbaaGreat
namespace Go.Proofs.YtkmiecgcibjkbaaGreat
open Go.RowKit
set_option maxRecDepth 10000
set_option linter.unusedSimpArgs false
set_option maxHeartbeats 4000000
theorem tForms_any : ∀ l : List TType, tForms l = !(l.any fun y => !tForm y)
  | [] => rfl
  | x :: l => by simp only [tForms, tForms_any l, List.any_cons, Bool.not_or, Bool.not_not]
theorem tForm_any (x : TType) : tForm x = (hdOk x.fKind x.fName x.fArgs.length && !(x.fArgs.any fun y => !tForm y)) := by
  cases x; simp only [tForm, tForms_any]
theorem formClo_d (y : TType) (hy : ∀ h, CS cx.P 180 [.d (y.dd false)] h (.d (.lf (.bool (tForm y)))) h) (h : HP) : CS cx.P 222 [.d (y.dd false)] h (.d (.lf (.bool (!tForm y)))) h := by
  refine CS.run (fn := Tryz.f222) ⟨Tryz.func222, rfl, rfl⟩ _ _ _ _ 6 rfl (by simp) ?_
  refine W.seq ?_
  apply W.regS; intro _ K hK
  iterate 2 (refine WL.op [] rfl (by simp <;> omega) rfl ?_; simp)
  exact WL.nil hK
  refine W.seq ?_
  apply W.regS; intro _ K hK
  refine WL.op [] rfl (by simp <;> omega) rfl ?_; simp
  refine WL.call [] _ _ _ rfl rfl (by simp) (g := 180) (caps := []) (by simp) (by simp) (fn := Tryz.f180) ⟨Tryz.func180, rfl, rfl⟩ rfl (by simp) (by simp) (by simp) (hy _) rfl ?_; simp
  iterate 2 (refine WL.op [] rfl (by simp <;> omega) rfl ?_; simp)
  exact WL.nil hK
  refine W.ret ⟨.inr rfl, ⟨_, rfl⟩, ?_⟩
  simp [Tryz.f222]
theorem iForm_a (x : TType) (hz : x.sz ≤ 1048576) (hc : ∀ y ∈ x.fArgs, ∀ h, CS cx.P 180 [.d (y.dd false)] h (.d (.lf (.bool (tForm y)))) h) (h : HP) : CS cx.P 180 [.d (x.dd false)] h (.d (.lf (.bool (tForm x)))) h := by
  have hz2 := x.sz_eq; unfold szs at hz2
  refine CS.run (fn := Tryz.f180) ⟨Tryz.func180, rfl, rfl⟩ _ _ _ _ 58 rfl (by simp) ?_
  refine W.seq ?_
  apply W.regS; intro _ K hK
  iterate 2 (refine WL.op [] rfl (by simp <;> omega) rfl ?_; simp)
  exact WL.nil hK
  refine W.seq ?_
  apply W.regS; intro _ K hK
  refine WL.op [] rfl (by simp <;> omega) rfl ?_; simp
  exact WL.nil hK
  refine W.seq ?_
  refine W.seq ?_
  apply W.regS; intro _ K hK
  iterate 2 (refine WL.op [] rfl (by simp <;> omega) rfl ?_; simp)
  exact WL.nil hK
  refine W.join [1] [1] [(3, .d (.lf (.bool (hdOk x.fKind x.fName x.fArgs.length))))] [] ?_ fun T hT => ?_
  · refine W.block ?_
    refine W.seq ?_
    refine W.seq ?_
    apply W.regS; intro _ K hK
    iterate 2 (refine WL.op [] rfl (by simp <;> omega) rfl ?_; simp)
    exact WL.nil hK
    refine W.condS _ rfl trivial (fun hb0 => ?_) fun hb0 => ?_ <;> try simp at hb0
    · refine W.skip ?_
      refine W.condT (by simp [hb0]) trivial ?_
      refine W.regJ0 (D := [some 9, some 10, some 11, some 12, some 13, some 14, some 15, some 16, some 17, some 3]) rfl fun _ K hD hK => ?_
      iterate 2 (refine WL.op [] rfl (by simp <;> omega) rfl ?_; simp)
      refine WL.call [] _ _ _ rfl rfl (by simp) (g := 188) (caps := []) (by simp) (by simp) (fn := Tryz.f188) ⟨Tryz.func188, rfl, rfl⟩ rfl (by simp) (by simp) (by simp) (iName_d x.fName (by omega) _) rfl ?_; simp
      refine WL.op [] rfl (by simp <;> omega) rfl ?_; simp
      refine WL.split 12 _ rfl (fun g12 => ?_) fun g12 => ?_ <;> try simp at g12
      · simp
        refine WL.opG [] hD 3 12 true rfl rfl (by simp) (by simp <;> omega) rfl ?_; simp
        refine WL.opG [] hD 3 12 true rfl rfl (by simp) (by simp <;> omega) rfl ?_; simp
        refine WL.opG [] hD 3 12 true rfl rfl (by simp) (by simp <;> omega) rfl ?_; simp
        refine WL.opG [] hD 3 12 true rfl rfl (by simp) (by simp <;> omega) rfl ?_; simp
        iterate 2 (refine WL.op [] rfl (by simp <;> omega) rfl ?_; simp)
        refine WL.nil (hK _ ?_)
        refine Wz.to rfl rfl rfl ?_
        simp [hdOk, hb0, g12] <;> first | omega | grind
      · simp
        refine WL.no2 hD 3 12 true rfl rfl (by simp) (by simp) rfl ?_; simp
        refine WL.no2 hD 3 12 true rfl rfl (by simp) (by simp) rfl ?_; simp
        refine WL.no2 hD 3 12 true rfl rfl (by simp) (by simp) rfl ?_; simp
        refine WL.no2 hD 3 12 true rfl rfl (by simp) (by simp) rfl ?_; simp
        iterate 2 (refine WL.op [] rfl (by simp <;> omega) rfl ?_; simp)
        refine WL.nil (hK _ ?_)
        refine Wz.to rfl rfl rfl ?_
        simp [hdOk, hb0, g12] <;> first | omega | grind
    · apply W.regS; intro _ K hK
      iterate 2 (refine WL.op [] rfl (by simp <;> omega) rfl ?_; simp)
      exact WL.nil hK
      refine W.condS _ rfl trivial (fun hb1 => ?_) fun hb1 => ?_ <;> try simp at hb1
      · refine W.regJ0 (D := [some 9, some 10, some 11, some 12, some 13, some 14, some 15, some 16, some 17, some 3]) rfl fun _ K hD hK => ?_
        iterate 2 (refine WL.op [] rfl (by simp <;> omega) rfl ?_; simp)
        refine WL.call [] _ _ _ rfl rfl (by simp) (g := 188) (caps := []) (by simp) (by simp) (fn := Tryz.f188) ⟨Tryz.func188, rfl, rfl⟩ rfl (by simp) (by simp) (by simp) (iName_d x.fName (by omega) _) rfl ?_; simp
        refine WL.op [] rfl (by simp <;> omega) rfl ?_; simp
        refine WL.split 12 _ rfl (fun g12 => ?_) fun g12 => ?_ <;> try simp at g12
        · simp
          refine WL.opG [] hD 3 12 true rfl rfl (by simp) (by simp <;> omega) rfl ?_; simp
          refine WL.opG [] hD 3 12 true rfl rfl (by simp) (by simp <;> omega) rfl ?_; simp
          refine WL.opG [] hD 3 12 true rfl rfl (by simp) (by simp <;> omega) rfl ?_; simp
          refine WL.opG [] hD 3 12 true rfl rfl (by simp) (by simp <;> omega) rfl ?_; simp
          iterate 2 (refine WL.op [] rfl (by simp <;> omega) rfl ?_; simp)
          refine WL.nil (hK _ ?_)
          refine Wz.to rfl rfl rfl ?_
          simp [hdOk, hb0, hb1, g12] <;> first | omega | grind
        · simp
          refine WL.no2 hD 3 12 true rfl rfl (by simp) (by simp) rfl ?_; simp
          refine WL.no2 hD 3 12 true rfl rfl (by simp) (by simp) rfl ?_; simp
          refine WL.no2 hD 3 12 true rfl rfl (by simp) (by simp) rfl ?_; simp
          refine WL.no2 hD 3 12 true rfl rfl (by simp) (by simp) rfl ?_; simp
          iterate 2 (refine WL.op [] rfl (by simp <;> omega) rfl ?_; simp)
          refine WL.nil (hK _ ?_)
          refine Wz.to rfl rfl rfl ?_
          simp [hdOk, hb0, hb1, g12] <;> first | omega | grind
      · refine W.seq ?_
        apply W.regS; intro _ K hK
        iterate 2 (refine WL.op [] rfl (by simp <;> omega) rfl ?_; simp)
        exact WL.nil hK
        refine W.condS _ rfl trivial (fun hb2 => ?_) fun hb2 => ?_ <;> try simp at hb2
        · refine W.regJ0 (D := [some 20, some 21, some 22, some 23, some 24, some 25, some 26, some 27, some 28, some 3]) rfl fun _ K hD hK => ?_
          iterate 2 (refine WL.op [] rfl (by simp <;> omega) rfl ?_; simp)
          refine WL.call [] _ _ _ rfl rfl (by simp) (g := 188) (caps := []) (by simp) (by simp) (fn := Tryz.f188) ⟨Tryz.func188, rfl, rfl⟩ rfl (by simp) (by simp) (by simp) (iName_d x.fName (by omega) _) rfl ?_; simp
          refine WL.op [] rfl (by simp <;> omega) rfl ?_; simp
          refine WL.split 23 _ rfl (fun g23 => ?_) fun g23 => ?_ <;> try simp at g23
          · simp
            refine WL.opG [] hD 3 23 true rfl rfl (by simp) (by simp <;> omega) rfl ?_; simp
            refine WL.opG [] hD 3 23 true rfl rfl (by simp) (by simp <;> omega) rfl ?_; simp
            refine WL.opG [] hD 3 23 true rfl rfl (by simp) (by simp <;> omega) rfl ?_; simp
            refine WL.opG [] hD 3 23 true rfl rfl (by simp) (by simp <;> omega) rfl ?_; simp
            iterate 2 (refine WL.op [] rfl (by simp <;> omega) rfl ?_; simp)
            refine WL.nil (hK _ ?_)
            refine Wz.to rfl rfl rfl ?_
            simp [hdOk, hb0, hb1, hb2, g23] <;> first | omega | grind
          · simp
            refine WL.no2 hD 3 23 true rfl rfl (by simp) (by simp) rfl ?_; simp
            refine WL.no2 hD 3 23 true rfl rfl (by simp) (by simp) rfl ?_; simp
            refine WL.no2 hD 3 23 true rfl rfl (by simp) (by simp) rfl ?_; simp
            refine WL.no2 hD 3 23 true rfl rfl (by simp) (by simp) rfl ?_; simp
            iterate 2 (refine WL.op [] rfl (by simp <;> omega) rfl ?_; simp)
            refine WL.nil (hK _ ?_)
            refine Wz.to rfl rfl rfl ?_
            simp [hdOk, hb0, hb1, hb2, g23] <;> first | omega | grind
        · refine W.seq ?_
          apply W.regS; intro _ K hK
          iterate 2 (refine WL.op [] rfl (by simp <;> omega) rfl ?_; simp)
          exact WL.nil hK
          refine W.condS _ rfl trivial (fun hb3 => ?_) fun hb3 => ?_ <;> try simp at hb3
          · refine W.regJ0 (D := [some 31, some 32, some 33, some 34, some 35, some 36, some 37, some 38, some 39, some 40, some 41, some 42, some 43, some 44, some 45, some 46, some 47, some 48, some 49, some 50, some 3]) rfl fun _ K hD hK => ?_
            iterate 2 (refine WL.op [] rfl (by simp <;> omega) rfl ?_; simp)
            refine WL.call [] _ _ _ rfl rfl (by simp) (g := 188) (caps := []) (by simp) (by simp) (fn := Tryz.f188) ⟨Tryz.func188, rfl, rfl⟩ rfl (by simp) (by simp) (by simp) (iName_d x.fName (by omega) _) rfl ?_; simp
            refine WL.op [] rfl (by simp <;> omega) rfl ?_; simp
            refine WL.split 34 _ rfl (fun g34 => ?_) fun g34 => ?_ <;> try simp at g34
            · simp
              refine WL.opG [] hD 3 34 true rfl rfl (by simp) (by simp <;> omega) rfl ?_; simp
              refine WL.opG [] hD 3 34 true rfl rfl (by simp) (by simp <;> omega) rfl ?_; simp
              refine WL.opG [] hD 3 34 true rfl rfl (by simp) (by simp <;> omega) rfl ?_; simp
              refine WL.opG [] hD 3 34 true rfl rfl (by simp) (by simp <;> omega) rfl ?_; simp
              iterate 2 (refine WL.op [] rfl (by simp <;> omega) rfl ?_; simp)
              refine WL.split 40 _ rfl (fun g40 => ?_) fun g40 => ?_ <;> try simp at g40
              · simp
                refine WL.no2 hD 9 40 false rfl rfl (by simp) (by simp) rfl ?_; simp
                refine WL.no2 hD 9 40 false rfl rfl (by simp) (by simp) rfl ?_; simp
                refine WL.no2 hD 9 40 false rfl rfl (by simp) (by simp) rfl ?_; simp
                refine WL.no2 hD 9 40 false rfl rfl (by simp) (by simp) rfl ?_; simp
                refine WL.no2 hD 13 44 true rfl rfl (by simp) (by simp) rfl ?_; simp
                refine WL.no2 hD 13 44 true rfl rfl (by simp) (by simp) rfl ?_; simp
                refine WL.no2 hD 13 44 true rfl rfl (by simp) (by simp) rfl ?_; simp
                refine WL.no2 hD 13 44 true rfl rfl (by simp) (by simp) rfl ?_; simp
                refine WL.no2 hD 9 40 false rfl rfl (by simp) (by simp) rfl ?_; simp
                iterate 2 (refine WL.op [] rfl (by simp <;> omega) rfl ?_; simp)
                refine WL.nil (hK _ ?_)
                refine Wz.to rfl rfl rfl ?_
                simp [hdOk, hb0, hb1, hb2, hb3, g34, g40] <;> first | omega | grind
              · simp
                refine WL.opG [] hD 9 40 false rfl rfl (by simp) (by simp <;> omega) rfl ?_; simp
                refine WL.opG [] hD 9 40 false rfl rfl (by simp) (by simp <;> omega) rfl ?_; simp
                refine WL.callG hD 9 40 false rfl rfl (by simp) [] _ _ _ rfl (by simp) (g := 220) (caps := []) (by simp) (by simp) (fn := Tryz.f220) ⟨Tryz.func220, rfl, rfl⟩ rfl (by simp) (by simp) (by simp) (isBuiltIn_d x.fName _) rfl ?_; simp
                refine WL.opG [] hD 9 40 false rfl rfl (by simp) (by simp <;> omega) rfl ?_; simp
                refine WL.split 44 _ rfl (fun g44 => ?_) fun g44 => ?_ <;> try simp at g44
                · simp
                  refine WL.opG [] hD 13 44 true rfl rfl (by simp) (by simp <;> omega) rfl ?_; simp
                  refine WL.opG [] hD 13 44 true rfl rfl (by simp) (by simp <;> omega) rfl ?_; simp
                  refine WL.opG [] hD 13 44 true rfl rfl (by simp) (by simp <;> omega) rfl ?_; simp
                  refine WL.opG [] hD 13 44 true rfl rfl (by simp) (by simp <;> omega) rfl ?_; simp
                  refine WL.opG [] hD 9 40 false rfl rfl (by simp) (by simp <;> omega) rfl ?_; simp
                  iterate 2 (refine WL.op [] rfl (by simp <;> omega) rfl ?_; simp)
                  refine WL.nil (hK _ ?_)
                  refine Wz.to rfl rfl rfl ?_
                  simp [hdOk, hb0, hb1, hb2, hb3, g34, g40, g44] <;> first | omega | grind
                · simp
                  refine WL.no2 hD 13 44 true rfl rfl (by simp) (by simp) rfl ?_; simp
                  refine WL.no2 hD 13 44 true rfl rfl (by simp) (by simp) rfl ?_; simp
                  refine WL.no2 hD 13 44 true rfl rfl (by simp) (by simp) rfl ?_; simp
                  refine WL.no2 hD 13 44 true rfl rfl (by simp) (by simp) rfl ?_; simp
                  refine WL.opG [] hD 9 40 false rfl rfl (by simp) (by simp <;> omega) rfl ?_; simp
                  iterate 2 (refine WL.op [] rfl (by simp <;> omega) rfl ?_; simp)
                  refine WL.nil (hK _ ?_)
                  refine Wz.to rfl rfl rfl ?_
                  simp [hdOk, hb0, hb1, hb2, hb3, g34, g40, g44] <;> first | omega | grind
            · simp
              refine WL.no2 hD 3 34 true rfl rfl (by simp) (by simp) rfl ?_; simp
              refine WL.no2 hD 3 34 true rfl rfl (by simp) (by simp) rfl ?_; simp
              refine WL.no2 hD 3 34 true rfl rfl (by simp) (by simp) rfl ?_; simp
              refine WL.no2 hD 3 34 true rfl rfl (by simp) (by simp) rfl ?_; simp
              iterate 2 (refine WL.op [] rfl (by simp <;> omega) rfl ?_; simp)
              refine WL.opG [] hD 9 40 false rfl rfl (by simp) (by simp <;> omega) rfl ?_; simp
              refine WL.opG [] hD 9 40 false rfl rfl (by simp) (by simp <;> omega) rfl ?_; simp
              refine WL.callG hD 9 40 false rfl rfl (by simp) [] _ _ _ rfl (by simp) (g := 220) (caps := []) (by simp) (by simp) (fn := Tryz.f220) ⟨Tryz.func220, rfl, rfl⟩ rfl (by simp) (by simp) (by simp) (isBuiltIn_d x.fName _) rfl ?_; simp
              refine WL.opG [] hD 9 40 false rfl rfl (by simp) (by simp <;> omega) rfl ?_; simp
              refine WL.split 44 _ rfl (fun g44 => ?_) fun g44 => ?_ <;> try simp at g44
              · simp
                refine WL.opG [] hD 13 44 true rfl rfl (by simp) (by simp <;> omega) rfl ?_; simp
                refine WL.opG [] hD 13 44 true rfl rfl (by simp) (by simp <;> omega) rfl ?_; simp
                refine WL.opG [] hD 13 44 true rfl rfl (by simp) (by simp <;> omega) rfl ?_; simp
                refine WL.opG [] hD 13 44 true rfl rfl (by simp) (by simp <;> omega) rfl ?_; simp
                refine WL.opG [] hD 9 40 false rfl rfl (by simp) (by simp <;> omega) rfl ?_; simp
                iterate 2 (refine WL.op [] rfl (by simp <;> omega) rfl ?_; simp)
                refine WL.nil (hK _ ?_)
                refine Wz.to rfl rfl rfl ?_
                simp [hdOk, hb0, hb1, hb2, hb3, g34, g44] <;> first | omega | grind
              · simp
                refine WL.no2 hD 13 44 true rfl rfl (by simp) (by simp) rfl ?_; simp
                refine WL.no2 hD 13 44 true rfl rfl (by simp) (by simp) rfl ?_; simp
                refine WL.no2 hD 13 44 true rfl rfl (by simp) (by simp) rfl ?_; simp
                refine WL.no2 hD 13 44 true rfl rfl (by simp) (by simp) rfl ?_; simp
                refine WL.opG [] hD 9 40 false rfl rfl (by simp) (by simp <;> omega) rfl ?_; simp
                iterate 2 (refine WL.op [] rfl (by simp <;> omega) rfl ?_; simp)
                refine WL.nil (hK _ ?_)
                refine Wz.to rfl rfl rfl ?_
                simp [hdOk, hb0, hb1, hb2, hb3, g34, g44] <;> first | omega | grind
          · refine W.skip ?_
            refine Wz.to rfl rfl rfl ?_
            simp [hdOk, hb0, hb1, hb2, hb3] <;> first | omega | grind
  simp at hT; subst hT
  refine W.seq ?_
  refine W.regJ0 (D := [some 51, some 52, some 53, some 54, some 55, some 56, some 57, some 2]) rfl fun _ K hD hK => ?_
  iterate 2 (refine WL.op [] rfl (by simp <;> omega) rfl ?_; simp)
  refine WL.split 52 _ rfl (fun g52 => ?_) fun g52 => ?_ <;> try simp at g52
  · simp
    refine WL.opG [] hD 1 52 true rfl rfl (by simp) (by simp <;> omega) rfl ?_; simp
    refine WL.opG [] hD 1 52 true rfl rfl (by simp) (by simp <;> omega) rfl ?_; simp
    refine WL.callG hD 1 52 true rfl rfl (by simp) [] _ _ _ rfl (by simp) (g := 221) (caps := []) (by simp) (by simp) (fn := Tryz.f221) ⟨Tryz.func221, rfl, rfl⟩ rfl (by simp) (by simp) (by simp) (ContainsFuncType_d x.fArgs (by omega) 222 Tryz.f222 _ ⟨Tryz.func222, rfl, rfl⟩ (fun y => !tForm y) (fun y hy h => formClo_d y (hc y hy) h) _) rfl ?_; simp
    refine WL.opG [] hD 1 52 true rfl rfl (by simp) (by simp <;> omega) rfl ?_; simp
    iterate 2 (refine WL.op [] rfl (by simp <;> omega) rfl ?_; simp)
    refine WL.nil (hK _ ?_)
    refine W.ret ⟨.inr rfl, ⟨_, rfl⟩, ?_⟩
    have hres := tForm_any x
    simp [Tryz.f180, hres, g52]
  · simp
    refine WL.no2 hD 1 52 true rfl rfl (by simp) (by simp) rfl ?_; simp
    refine WL.no2 hD 1 52 true rfl rfl (by simp) (by simp) rfl ?_; simp
    refine WL.no2 hD 1 52 true rfl rfl (by simp) (by simp) rfl ?_; simp
    refine WL.no2 hD 1 52 true rfl rfl (by simp) (by simp) rfl ?_; simp
    iterate 2 (refine WL.op [] rfl (by simp <;> omega) rfl ?_; simp)
    refine WL.nil (hK _ ?_)
    refine W.ret ⟨.inr rfl, ⟨_, rfl⟩, ?_⟩
    have hres := tForm_any x
    simp [Tryz.f180, hres, g52]
end Go.Proofs.YtkmiecgcibjkbaaGreat
namespace Go.Proofs.YtkmiecgcibjkbaaGreat
open Go.RowKit
set_option maxRecDepth 10000
set_option linter.unusedSimpArgs false
set_option maxHeartbeats 4000000
def lft (n : Nat) (left : Int) : Int := if (n : Int) ≤ left then left - n else -1
theorem lft_lft {a b : Nat} {x : Int} (h : 0 ≤ lft a x) : lft b (lft a x) = lft (a + b) x := by
  unfold lft at h ⊢
  split at h
  · rename_i h1; rw [if_pos h1]; split <;> split <;> omega
  · omega
theorem lft_neg {a b : Nat} {x : Int} (h : ¬ 0 ≤ lft a x) (hb : a ≤ b) : lft b x = lft a x := by
  unfold lft at h ⊢
  split at h
  · omega
  · rename_i h1; rw [if_neg h1, if_neg (by omega)]
theorem tSzk_nx {l : List TType} {k : Nat} (h : k < l.length) : tSzk l (k + 1) = tSzk l k + tSize l[k] := by
  unfold tSzk
  rw [List.take_succ_eq_append_getElem h, tSizes_app]; simp [tSizes]; omega
theorem tSzk_le (x : TType) (k : Nat) : tSzk x.fArgs k ≤ tSize x := by
  rw [← tSzk_full]
  unfold tSzk
  have := tSizes_app (x.fArgs.take k) (x.fArgs.drop k)
  rw [List.take_append_drop] at this
  simp; omega
theorem lft_neg2 {x : TType} {k : Nat} {left : Int} (hk : k ≤ x.fArgs.length) (h : k < x.fArgs.length → lft (tSzk x.fArgs k) left < 0) : lft (tSize x) left = lft (tSzk x.fArgs k) left := by
  rcases Nat.lt_or_ge k x.fArgs.length with q | q
  · exact lft_neg (by have := h q; omega) (tSzk_le x k)
  · have : k = x.fArgs.length := by omega
    subst this; rw [tSzk_full]
theorem sLeft_a (x : TType) (left : Int) (h0 : 0 ≤ left) (h1 : left ≤ 1048576) (hz : x.sz ≤ 1048576) (hc : ∀ y ∈ x.fArgs, ∀ left, 0 ≤ left → left ≤ 1048576 → ∀ h, CS cx.P 171 [.d (y.dd false), .d (.lf (.int .i64 (left)))] h (.d (.lf (.int .i64 (lft (tSize y) left)))) h) (h : HP) : CS cx.P 171 [.d (x.dd false), .d (.lf (.int .i64 (left)))] h (.d (.lf (.int .i64 (lft (tSize x) left)))) h := by
  have hz2 := x.sz_eq; unfold szs at hz2
  have hw0 := i64w (n := left - 1) (by omega) (by omega)
  have hl0 : lft 1 left = left - 1 := by unfold lft; split <;> omega
  refine CS.run (fn := Tryz.f171) ⟨Tryz.func171, rfl, rfl⟩ _ _ _ _ 27 rfl (by simp) ?_
  refine W.seq ?_
  apply W.regS; intro _ K hK
  iterate 2 (refine WL.op [] rfl (by simp [hw0] <;> omega) rfl ?_; simp [hw0])
  exact WL.nil hK
  refine W.seq ?_
  apply W.regS; intro _ K hK
  iterate 3 (refine WL.op [] rfl (by simp [hw0] <;> omega) rfl ?_; simp [hw0])
  exact WL.nil hK
  refine W.seq ?_
  refine W.seq ?_
  apply W.regS; intro _ K hK
  refine WL.op [] rfl (by simp [hw0] <;> omega) rfl ?_; simp [hw0]
  exact WL.nil hK
  refine W.block ?_
  refine W.loopk [2] [2] (fun k0 => [(5, .d (.lf (.int .i64 (k0 : Int)))), (1, .d (.lf (.int .i64 ((lft (tSzk x.fArgs k0) left)))))]) (fun _ => []) x.fArgs.length rfl (by simp [tSzk_zero, hl0]) fun k0 hk0 T hT => ?_
  simp at hT; subst hT
  refine W.seq ?_
  refine W.seq ?_
  refine W.regJ (D := [some 8, some 9, some 10, some 11, some 12, some 13, some 14, some 15, some 16]) [1, 2, 5] [2] [(16, .d (.lf (.bool (decide (k0 < x.fArgs.length) && decide (0 ≤ (lft (tSzk x.fArgs k0) left))))))] [] rfl (fun _ K hD hK => ?_) fun T hT => ?_
  iterate 6 (refine WL.op [] rfl (by simp [hw0] <;> omega) rfl ?_; simp [hw0])
  refine WL.split 13 _ rfl (fun g13 => ?_) fun g13 => ?_ <;> try simp at g13
  · simp [hw0]
    refine WL.opG [] hD 5 13 true rfl rfl (by simp) (by simp [hw0] <;> omega) rfl ?_; simp [hw0]
    refine WL.opG [] hD 5 13 true rfl rfl (by simp) (by simp [hw0] <;> omega) rfl ?_; simp [hw0]
    refine WL.op [] rfl (by simp [hw0] <;> omega) rfl ?_; simp [hw0]
    refine WL.nil (hK _ (Wz.to rfl rfl rfl ?_))
    simp [g13] <;> first | omega | grind
  · simp [hw0]
    refine WL.no2 hD 5 13 true rfl rfl (by simp) (by simp) rfl ?_; simp [hw0]
    refine WL.no2 hD 5 13 true rfl rfl (by simp) (by simp) rfl ?_; simp [hw0]
    refine WL.op [] rfl (by simp [hw0] <;> omega) rfl ?_; simp [hw0]
    refine WL.nil (hK _ (Wz.to rfl rfl rfl ?_))
    simp [g13] <;> first | omega | grind
  simp at hT; subst hT
  refine W.condS _ rfl trivial (fun hb0 => ?_) fun hb0 => ?_ <;> try simp at hb0
  · have hk1 := hb0.1
    have hx := ixNext hk1 (by omega)
    refine W.skip ?_
    refine W.seq ?_
    refine W.block ?_
    apply W.regS; intro _ K hK
    iterate 6 (refine WL.op [] rfl (by simp [hw0, hk1, hx] <;> omega) rfl ?_; simp [hw0, hk1, hx])
    refine WL.call [] _ _ _ rfl rfl (by simp) (g := 171) (caps := []) (by simp) (by simp) (fn := Tryz.f171) ⟨Tryz.func171, rfl, rfl⟩ rfl (by simp [hw0, hk1, hx]) (by simp) (by simp [hw0, hk1, hx]) (hc x.fArgs[k0] (List.getElem_mem hk1) (lft (tSzk x.fArgs k0) left) hb0.2 (by unfold lft; split <;> omega) _) rfl ?_; simp [hw0, hk1, hx]
    refine WL.op [] rfl (by simp [hw0, hk1, hx] <;> omega) rfl ?_; simp [hw0, hk1, hx]
    exact WL.nil hK
    apply W.regS; intro _ K hK
    iterate 3 (refine WL.op [] rfl (by simp [hw0, hk1, hx] <;> omega) rfl ?_; simp [hw0, hk1, hx])
    exact WL.nil hK
    refine ⟨hk1, Wz.to rfl rfl rfl ?_⟩
    have hs := lft_lft (b := tSize x.fArgs[k0]) hb0.2
    rw [← tSzk_nx hk1] at hs
    simp [hs]
  · have hres : lft (tSize x) left = (lft (tSzk x.fArgs k0) left) := lft_neg2 hk0 hb0
    refine W.exit ?_
    refine W.seq ?_
    apply W.regS; intro _ K hK
    iterate 2 (refine WL.op [] rfl (by simp [hw0] <;> omega) rfl ?_; simp [hw0])
    exact WL.nil hK
    refine W.ret ⟨.inr rfl, ⟨_, rfl⟩, ?_⟩
    simp [Tryz.f171, hres]
end Go.Proofs.YtkmiecgcibjkbaaGreat
namespace Go.Proofs.YtkmiecgcibjkbaaGreat
open Go.RowKit
set_option maxRecDepth 10000
set_option linter.unusedSimpArgs false
set_option maxHeartbeats 4000000
theorem TypeSize_d (x : TType) (hz : x.sz ≤ 1048576) (h : HP) : CS cx.P 182 [.d (x.dd false)] h (.d (.lf (.int .i64 ((tSize x : Nat) : Int)))) h := TypeSize_a x hz (fun y hy h => TypeSize_d y (by have h1 := szL_le TType.sz hy; have h2 := x.sz_eq; unfold szs at h2; omega) h) h
termination_by SizeOf.sizeOf x
decreasing_by have := List.sizeOf_lt_of_mem hy; have := x.lt_fArgs; omega
theorem iDepth_d (x : TType) (hz : x.sz ≤ 1048576) (h : HP) : CS cx.P 181 [.d (x.dd false)] h (.d (.lf (.int .i64 ((tDepth x : Nat) : Int)))) h := iDepth_a x hz (fun y hy h => iDepth_d y (by have h1 := szL_le TType.sz hy; have h2 := x.sz_eq; unfold szs at h2; omega) h) h
termination_by SizeOf.sizeOf x
decreasing_by have := List.sizeOf_lt_of_mem hy; have := x.lt_fArgs; omega
theorem sDepth_d (x : TType) (hz : x.sz ≤ 1048576) (h : HP) : CS cx.P 172 [.d (x.dd false)] h (.d (.lf (.int .i64 ((tDepth x : Nat) : Int)))) h := sDepth_a x hz (fun y hy h => sDepth_d y (by have h1 := szL_le TType.sz hy; have h2 := x.sz_eq; unfold szs at h2; omega) h) h
termination_by SizeOf.sizeOf x
decreasing_by have := List.sizeOf_lt_of_mem hy; have := x.lt_fArgs; omega
theorem sForm_d (x : TType) (hz : x.sz ≤ 1048576) (h : HP) : CS cx.P 173 [.d (x.dd false)] h (.d (.lf (.bool (tForm x)))) h := sForm_a x hz (fun y hy h => sForm_d y (by have h1 := szL_le TType.sz hy; have h2 := x.sz_eq; unfold szs at h2; omega) h) h
termination_by SizeOf.sizeOf x
decreasing_by have := List.sizeOf_lt_of_mem hy; have := x.lt_fArgs; omega
theorem iForm_d (x : TType) (hz : x.sz ≤ 1048576) (h : HP) : CS cx.P 180 [.d (x.dd false)] h (.d (.lf (.bool (tForm x)))) h := iForm_a x hz (fun y hy h => iForm_d y (by have h1 := szL_le TType.sz hy; have h2 := x.sz_eq; unfold szs at h2; omega) h) h
termination_by SizeOf.sizeOf x
decreasing_by have := List.sizeOf_lt_of_mem hy; have := x.lt_fArgs; omega
theorem sLeft_d (x : TType) (left : Int) (h0 : 0 ≤ left) (h1 : left ≤ 1048576) (hz : x.sz ≤ 1048576) (h : HP) : CS cx.P 171 [.d (x.dd false), .d (.lf (.int .i64 (left)))] h (.d (.lf (.int .i64 (lft (tSize x) left)))) h := sLeft_a x left h0 h1 hz (fun y hy left h0 h1 h => sLeft_d y left h0 h1 (by have h1 := szL_le TType.sz hy; have h2 := x.sz_eq; unfold szs at h2; omega) h) h
termination_by SizeOf.sizeOf x
decreasing_by have := List.sizeOf_lt_of_mem hy; have := x.lt_fArgs; omega
def tValid (x : TType) : Bool := tForm x && decide (tDepth x ≤ 6) && decide (tSize x ≤ 60)
theorem lft_ok (n : Nat) (x : Int) (h : 0 ≤ x) : decide (0 ≤ lft n x) = decide ((n : Int) ≤ x) := by
  unfold lft; by_cases q : (n : Int) ≤ x
  · rw [if_pos q]; simp <;> omega
  · rw [if_neg q]; simp <;> omega
theorem iValidT_d (x : TType) (hz : x.sz ≤ 1048576) (h : HP) : CS cx.P 121 [.d (x.dd false)] h (.d (.lf (.bool (tValid x)))) h := by
  refine CS.run (fn := Tryz.f121) ⟨Tryz.func121, rfl, rfl⟩ _ _ _ _ 15 rfl (by simp) ?_
  refine W.seq ?_
  apply W.regS; intro _ K hK
  iterate 2 (refine WL.op [] rfl (by simp <;> omega) rfl ?_; simp)
  exact WL.nil hK
  refine W.seq ?_
  refine W.regJ0 (D := [some 3, some 4, some 5, some 6, some 7, some 8, some 9, some 10, some 11, some 12, some 13, some 14, some 2]) rfl fun _ K hD hK => ?_
  refine WL.op [] rfl (by simp <;> omega) rfl ?_; simp
  refine WL.call [] _ _ _ rfl rfl (by simp) (g := 180) (caps := []) (by simp) (by simp) (fn := Tryz.f180) ⟨Tryz.func180, rfl, rfl⟩ rfl (by simp) (by simp) (by simp) (iForm_d x hz _) rfl ?_; simp
  refine WL.op [] rfl (by simp <;> omega) rfl ?_; simp
  refine WL.split 5 _ rfl (fun g5 => ?_) fun g5 => ?_ <;> try simp at g5
  · simp
    refine WL.opG [] hD 2 5 true rfl rfl (by simp) (by simp <;> omega) rfl ?_; simp
    refine WL.callG hD 2 5 true rfl rfl (by simp) [] _ _ _ rfl (by simp) (g := 181) (caps := []) (by simp) (by simp) (fn := Tryz.f181) ⟨Tryz.func181, rfl, rfl⟩ rfl (by simp) (by simp) (by simp) (iDepth_d x hz _) rfl ?_; simp
    refine WL.opG [] hD 2 5 true rfl rfl (by simp) (by simp <;> omega) rfl ?_; simp
    iterate 2 (refine WL.op [] rfl (by simp <;> omega) rfl ?_; simp)
    refine WL.split 10 _ rfl (fun g10 => ?_) fun g10 => ?_ <;> try simp at g10
    · simp
      refine WL.opG [] hD 7 10 true rfl rfl (by simp) (by simp <;> omega) rfl ?_; simp
      refine WL.callG hD 7 10 true rfl rfl (by simp) [] _ _ _ rfl (by simp) (g := 182) (caps := []) (by simp) (by simp) (fn := Tryz.f182) ⟨Tryz.func182, rfl, rfl⟩ rfl (by simp) (by simp) (by simp) (TypeSize_d x hz _) rfl ?_; simp
      refine WL.opG [] hD 7 10 true rfl rfl (by simp) (by simp <;> omega) rfl ?_; simp
      iterate 2 (refine WL.op [] rfl (by simp <;> omega) rfl ?_; simp)
      refine WL.nil (hK _ ?_)
      refine W.ret ⟨.inr rfl, ⟨_, rfl⟩, ?_⟩
      simp [Tryz.f121, tValid, g5, g10] <;> first | omega | grind
    · simp
      refine WL.no2 hD 7 10 true rfl rfl (by simp) (by simp) rfl ?_; simp
      refine WL.no2 hD 7 10 true rfl rfl (by simp) (by simp) rfl ?_; simp
      refine WL.no2 hD 7 10 true rfl rfl (by simp) (by simp) rfl ?_; simp
      iterate 2 (refine WL.op [] rfl (by simp <;> omega) rfl ?_; simp)
      refine WL.nil (hK _ ?_)
      refine W.ret ⟨.inr rfl, ⟨_, rfl⟩, ?_⟩
      simp [Tryz.f121, tValid, g5, g10] <;> first | omega | grind
  · simp
    refine WL.no2 hD 2 5 true rfl rfl (by simp) (by simp) rfl ?_; simp
    refine WL.no2 hD 2 5 true rfl rfl (by simp) (by simp) rfl ?_; simp
    refine WL.no2 hD 2 5 true rfl rfl (by simp) (by simp) rfl ?_; simp
    iterate 2 (refine WL.op [] rfl (by simp <;> omega) rfl ?_; simp)
    refine WL.no2 hD 7 10 true rfl rfl (by simp) (by simp) rfl ?_; simp
    refine WL.no2 hD 7 10 true rfl rfl (by simp) (by simp) rfl ?_; simp
    refine WL.no2 hD 7 10 true rfl rfl (by simp) (by simp) rfl ?_; simp
    iterate 2 (refine WL.op [] rfl (by simp <;> omega) rfl ?_; simp)
    refine WL.nil (hK _ ?_)
    refine W.ret ⟨.inr rfl, ⟨_, rfl⟩, ?_⟩
    simp [Tryz.f121, tValid, g5] <;> first | omega | grind
theorem sValidT_d (x : TType) (hz : x.sz ≤ 1048576) (h : HP) : CS cx.P 112 [.d (x.dd false)] h (.d (.lf (.bool (tValid x)))) h := by
  have hk := lft_ok (tSize x) 60 (by omega)
  refine CS.run (fn := Tryz.f112) ⟨Tryz.func112, rfl, rfl⟩ _ _ _ _ 15 rfl (by simp) ?_
  refine W.seq ?_
  apply W.regS; intro _ K hK
  iterate 2 (refine WL.op [] rfl (by simp <;> omega) rfl ?_; simp)
  exact WL.nil hK
  refine W.seq ?_
  refine W.regJ0 (D := [some 3, some 4, some 5, some 6, some 7, some 8, some 9, some 10, some 11, some 12, some 13, some 14, some 2]) rfl fun _ K hD hK => ?_
  refine WL.op [] rfl (by simp <;> omega) rfl ?_; simp
  refine WL.call [] _ _ _ rfl rfl (by simp) (g := 171) (caps := []) (by simp) (by simp) (fn := Tryz.f171) ⟨Tryz.func171, rfl, rfl⟩ rfl (by simp) (by simp) (by simp) (sLeft_d x 60 (by omega) (by omega) hz _) rfl ?_; simp
  iterate 2 (refine WL.op [] rfl (by simp <;> omega) rfl ?_; simp)
  refine WL.split 6 _ rfl (fun g6 => ?_) fun g6 => ?_ <;> try simp at g6
  · simp
    refine WL.opG [] hD 3 6 true rfl rfl (by simp) (by simp <;> omega) rfl ?_; simp
    refine WL.callG hD 3 6 true rfl rfl (by simp) [] _ _ _ rfl (by simp) (g := 172) (caps := []) (by simp) (by simp) (fn := Tryz.f172) ⟨Tryz.func172, rfl, rfl⟩ rfl (by simp) (by simp) (by simp) (sDepth_d x hz _) rfl ?_; simp
    refine WL.opG [] hD 3 6 true rfl rfl (by simp) (by simp <;> omega) rfl ?_; simp
    iterate 2 (refine WL.op [] rfl (by simp <;> omega) rfl ?_; simp)
    refine WL.split 11 _ rfl (fun g11 => ?_) fun g11 => ?_ <;> try simp at g11
    · simp
      refine WL.opG [] hD 8 11 true rfl rfl (by simp) (by simp <;> omega) rfl ?_; simp
      refine WL.callG hD 8 11 true rfl rfl (by simp) [] _ _ _ rfl (by simp) (g := 173) (caps := []) (by simp) (by simp) (fn := Tryz.f173) ⟨Tryz.func173, rfl, rfl⟩ rfl (by simp) (by simp) (by simp) (sForm_d x hz _) rfl ?_; simp
      iterate 2 (refine WL.op [] rfl (by simp <;> omega) rfl ?_; simp)
      refine WL.nil (hK _ ?_)
      refine W.ret ⟨.inr rfl, ⟨_, rfl⟩, ?_⟩
      simp [Tryz.f112, tValid, g6, g11] <;> simp at hk <;> first | omega | grind
    · simp
      refine WL.no2 hD 8 11 true rfl rfl (by simp) (by simp) rfl ?_; simp
      refine WL.no2 hD 8 11 true rfl rfl (by simp) (by simp) rfl ?_; simp
      iterate 2 (refine WL.op [] rfl (by simp <;> omega) rfl ?_; simp)
      refine WL.nil (hK _ ?_)
      refine W.ret ⟨.inr rfl, ⟨_, rfl⟩, ?_⟩
      simp [Tryz.f112, tValid, g6, g11] <;> simp at hk <;> first | omega | grind
  · simp
    refine WL.no2 hD 3 6 true rfl rfl (by simp) (by simp) rfl ?_; simp
    refine WL.no2 hD 3 6 true rfl rfl (by simp) (by simp) rfl ?_; simp
    refine WL.no2 hD 3 6 true rfl rfl (by simp) (by simp) rfl ?_; simp
    iterate 2 (refine WL.op [] rfl (by simp <;> omega) rfl ?_; simp)
    refine WL.no2 hD 8 11 true rfl rfl (by simp) (by simp) rfl ?_; simp
    refine WL.no2 hD 8 11 true rfl rfl (by simp) (by simp) rfl ?_; simp
    iterate 2 (refine WL.op [] rfl (by simp <;> omega) rfl ?_; simp)
    refine WL.nil (hK _ ?_)
    refine W.ret ⟨.inr rfl, ⟨_, rfl⟩, ?_⟩
    simp [Tryz.f112, tValid, g6] <;> simp at hk <;> first | omega | grind
end Go.Proofs.YtkmiecgcibjkbaaGreat
namespace Go.Proofs.YtkmiecgcibjkbaaGreat
open Go.RowKit
set_option maxRecDepth 10000
set_option linter.unusedSimpArgs false
set_option maxHeartbeats 4000000
theorem iValidB_d (x : TBound) (hz : x.sz ≤ 1048576) (h : HP) : CS cx.P 125 [.d (x.dd false)] h (.d (.lf (.bool (isNm x.fTrait && tValid x.fType)))) h := by
  have hz2 := x.sz_eq
  refine CS.run (fn := Tryz.f125) ⟨Tryz.func125, rfl, rfl⟩ _ _ _ _ 11 rfl (by simp) ?_
  refine W.seq ?_
  apply W.regS; intro _ K hK
  iterate 2 (refine WL.op [] rfl (by simp <;> omega) rfl ?_; simp)
  exact WL.nil hK
  refine W.seq ?_
  refine W.regJ0 (D := [some 3, some 4, some 5, some 6, some 7, some 8, some 9, some 10, some 2]) rfl fun _ K hD hK => ?_
  iterate 2 (refine WL.op [] rfl (by simp <;> omega) rfl ?_; simp)
  refine WL.call [] _ _ _ rfl rfl (by simp) (g := 188) (caps := []) (by simp) (by simp) (fn := Tryz.f188) ⟨Tryz.func188, rfl, rfl⟩ rfl (by simp) (by simp) (by simp) (iName_d x.fTrait (by omega) _) rfl ?_; simp
  refine WL.op [] rfl (by simp <;> omega) rfl ?_; simp
  refine WL.split 6 _ rfl (fun g6 => ?_) fun g6 => ?_ <;> try simp at g6
  · simp
    refine WL.opG [] hD 3 6 true rfl rfl (by simp) (by simp <;> omega) rfl ?_; simp
    refine WL.opG [] hD 3 6 true rfl rfl (by simp) (by simp <;> omega) rfl ?_; simp
    refine WL.callG hD 3 6 true rfl rfl (by simp) [] _ _ _ rfl (by simp) (g := 121) (caps := []) (by simp) (by simp) (fn := Tryz.f121) ⟨Tryz.func121, rfl, rfl⟩ rfl (by simp) (by simp) (by simp) (iValidT_d x.fType (by omega) _) rfl ?_; simp
    iterate 2 (refine WL.op [] rfl (by simp <;> omega) rfl ?_; simp)
    refine WL.nil (hK _ ?_)
    refine W.ret ⟨.inr rfl, ⟨_, rfl⟩, ?_⟩
    simp [Tryz.f125, g6]
  · simp
    refine WL.no2 hD 3 6 true rfl rfl (by simp) (by simp) rfl ?_; simp
    refine WL.no2 hD 3 6 true rfl rfl (by simp) (by simp) rfl ?_; simp
    refine WL.no2 hD 3 6 true rfl rfl (by simp) (by simp) rfl ?_; simp
    iterate 2 (refine WL.op [] rfl (by simp <;> omega) rfl ?_; simp)
    refine WL.nil (hK _ ?_)
    refine W.ret ⟨.inr rfl, ⟨_, rfl⟩, ?_⟩
    simp [Tryz.f125, g6]
theorem sValidB_d (x : TBound) (hz : x.sz ≤ 1048576) (h : HP) : CS cx.P 117 [.d (x.dd false)] h (.d (.lf (.bool (isNm x.fTrait && tValid x.fType)))) h := by
  have hz2 := x.sz_eq
  refine CS.run (fn := Tryz.f117) ⟨Tryz.func117, rfl, rfl⟩ _ _ _ _ 11 rfl (by simp) ?_
  refine W.seq ?_
  apply W.regS; intro _ K hK
  iterate 2 (refine WL.op [] rfl (by simp <;> omega) rfl ?_; simp)
  exact WL.nil hK
  refine W.seq ?_
  refine W.regJ0 (D := [some 3, some 4, some 5, some 6, some 7, some 8, some 9, some 10, some 2]) rfl fun _ K hD hK => ?_
  iterate 2 (refine WL.op [] rfl (by simp <;> omega) rfl ?_; simp)
  refine WL.call [] _ _ _ rfl rfl (by simp) (g := 178) (caps := []) (by simp) (by simp) (fn := Tryz.f178) ⟨Tryz.func178, rfl, rfl⟩ rfl (by simp) (by simp) (by simp) (sName_d x.fTrait (by omega) _) rfl ?_; simp
  refine WL.op [] rfl (by simp <;> omega) rfl ?_; simp
  refine WL.split 6 _ rfl (fun g6 => ?_) fun g6 => ?_ <;> try simp at g6
  · simp
    refine WL.opG [] hD 3 6 true rfl rfl (by simp) (by simp <;> omega) rfl ?_; simp
    refine WL.opG [] hD 3 6 true rfl rfl (by simp) (by simp <;> omega) rfl ?_; simp
    refine WL.callG hD 3 6 true rfl rfl (by simp) [] _ _ _ rfl (by simp) (g := 112) (caps := []) (by simp) (by simp) (fn := Tryz.f112) ⟨Tryz.func112, rfl, rfl⟩ rfl (by simp) (by simp) (by simp) (sValidT_d x.fType (by omega) _) rfl ?_; simp
    iterate 2 (refine WL.op [] rfl (by simp <;> omega) rfl ?_; simp)
    refine WL.nil (hK _ ?_)
    refine W.ret ⟨.inr rfl, ⟨_, rfl⟩, ?_⟩
    simp [Tryz.f117, g6]
  · simp
    refine WL.no2 hD 3 6 true rfl rfl (by simp) (by simp) rfl ?_; simp
    refine WL.no2 hD 3 6 true rfl rfl (by simp) (by simp) rfl ?_; simp
    refine WL.no2 hD 3 6 true rfl rfl (by simp) (by simp) rfl ?_; simp
    iterate 2 (refine WL.op [] rfl (by simp <;> omega) rfl ?_; simp)
    refine WL.nil (hK _ ?_)
    refine W.ret ⟨.inr rfl, ⟨_, rfl⟩, ?_⟩
    simp [Tryz.f117, g6]
end Go.Proofs.YtkmiecgcibjkbaaGreat
