/- 'laws.FnExactBuildKey', whatever its input: it answers true, and its arguments read behind the call as they read before; the tables of the library's that it reads are tied to the program's text. -/
import Derived.Test.YtkadbimpaplnmaaGreatDoorM03
import Derived.ChangeMaps5
import Derived.LaidLaws
import Derived.Stop.LaidErr
import Derived.Lib.LaidIn
import Derived.Lib.LaidTab
import Derived.SevenTiedAt
import Derived.Test.YtkadbimpaplnmaaGreatDoorLawBuildKey
import Derived.Test.YtkadbimpaplnmaaGreatDoorCards
import Derived.Test.YtkadbimpaplnmaaGreatDoorTie
import Derived.Test.YtkadbimpaplnmaaGreatDoorClBuildKey
namespace Go.Proofs.YtkadbimpaplnmaaGreatDoor.fnExactBuildKey
open Go.ChangeShapes Go.WideShapes Go.ChangeAt Go.RowKit
theorem own : ownKnob Tryz.prog.godebug = none := by kernel_rfl
theorem laidOut : laidOutB Tryz.prog = true := by kernel_rfl
theorem readable0 : Tryz.prog.readableRec 24 = true := by kernel_rfl
theorem rowed0 : 24 < Tryz.prog.types.size := of_decide_eq_true (by kernel_rfl)
theorem readable1 : Tryz.prog.readableRec 3 = true := by kernel_rfl
theorem rowed1 : 3 < Tryz.prog.types.size := of_decide_eq_true (by kernel_rfl)
theorem gT : Tryz.prog.globalNamed "internal/strconv.uint64pow10" = some 0 := by kernel_rfl
theorem gTType : (Tryz.prog.globals[0]?).map (·.type) = some 270 := by kernel_rfl
/-- the cells of a table -/
def litCells (d : DataW Unit) : Array Value := match d with
  | .agg ps => (ps.map fun p => match p with
    | .lit (.int k n) => Value.int k n
    | _ => Value.bool false).toArray
  | _ => #[]
def lay (cs : Array Value) (o : Obj) : Obj := match o with
  | .cells _ t frozen => .cells cs t frozen
  | o => o
/-- a world in which the three tables hold what their initialisers lay -/
noncomputable def laidWorld (os : Os) : World :=
  { World.holding Tryz.prog os ⟨#[], #[], []⟩ with heap := (((World.holding Tryz.prog os ⟨#[], #[], []⟩).heap.modify 0 (lay (litCells Rows.laid_internal_strconv_uint64pow10))).modify 1 (lay (litCells Rows.laid_math_bits_deBruijn32tab))).modify 2 (lay (litCells Rows.laid_math_bits_deBruijn64tab)) }
theorem laid_met (os : Os) (args : Array Value) : laidMet Tryz.prog Rows.fnExactBuildKeyRow.laid ((laidWorld os).forCall (fun _ _ => 0) ⟨#[], args, []⟩).memory :=
  (LaidIn.of_run [0, 1, 2] 8 (by kernel_rfl) (by kernel_rfl) (by kernel_rfl) (by kernel_rfl)).met
set_option maxRecDepth 100000 in
theorem lifted (os : Os) (started : os.Started) (H : Type) (enc : TypeId × Value → H) :
    ReturnsInHanded {} Tryz.checked os 3 .any (fun w args => (Rows.fnExactBuildKeySpec.pre enc Tryz.prog Tryz.f3 Rows.fnExactBuildKeyRow.domain false w args ∧ laidMet Tryz.prog Rows.fnExactBuildKeyRow.laid w) ∧ sizedMet enc Tryz.prog Tryz.f3 (OpenSpec.ofChange Rows.fnExactBuildKeySpec) false w args)
      (Rows.fnExactBuildKeySpec.post enc Tryz.prog Tryz.f3 false true false false) := by
  refine returnsInHanded_of_change_and (C := Tryz.checked) (X := fun w _ => laidMet Tryz.prog Rows.fnExactBuildKeyRow.laid w) (fun _ _ _ hh h => h.of_heap hh) own started (by kernel_rfl) Tryz.func3
    (ChangeSpec.witness_at (enc := enc) (C := Tryz.checked) (os := os) (X := fun w _ => laidMet Tryz.prog Rows.fnExactBuildKeyRow.laid w) false (laidWorld os) #[.agg #[.slice none 0 0], .int .i64 0] 8 rfl (by kernel_rfl) (by kernel_rfl) (by kernel_rfl) (by kernel_rfl) (by kernel_rfl) (laid_met os _)) ?_
  intro W base args ds gs before hval0 hW hcnd0 _ hL _
  have hval : ∀ (j : Nat) t v, Tryz.f3.params[j]? = some t → args[j]? = some v → Value.okWide Tryz.prog W .any base t v := hval0
  have hW' := hW
  have hlt := hW.lt
  obtain ⟨p, q, hA0, hV, rfl, hfz, hnd⟩ := hW
  have hA : DataW.TrodAll enc Tryz.prog W 0 (fun _ => true) true Tryz.f3.params.toList args.toList ds p := hA0
  rw [Tryz.params3] at hA hval
  obtain ⟨v0, v1, d0, d1, p0, p1, rfl, rfl, rfl, h0, h1⟩ := trodAll_two hA
  obtain ⟨rfl, rfl⟩ := trodVars_none hV
  have t0 := h0
  obtain ⟨c0, rfl⟩ := okAgg Tryz.underlying24 (hval 0 24 v0 rfl rfl)
  obtain ⟨f0, u0⟩ := h0
  obtain ⟨x0, R0⟩ := openProgram_c (cs := c0) u0
  have t1 := h1
  obtain ⟨n1, rfl, rfl, rfl, wn1⟩ := open_int Tryz.underlying3 (hval 1 3 v1 rfl rfl) h1
  have htab : Lib.TabIs Tryz.prog W "internal/strconv.uint64pow10" .u64 Lib.pow10Tab := Lib.tabIs_of_head gT gTType Tryz.underlying270 Tryz.underlying216 (by kernel_rfl) (by kernel_rfl) (show laidMet Tryz.prog (("internal/strconv.uint64pow10", Lib.tabData .u64 Lib.pow10Tab) :: []) W from hL.tail.tail)
  refine (law_c x0 n1 W htab c0 R0 (inR_of wn1)).mono fun e W' ⟨he, hB⟩ => ?_
  subst he
  exact ⟨_, rfl, post_of_below (pa := p0 ++ ([] ++ ([]))) (pv := []) hW' (fun _ _ _ => trodAll_cons_mk (shut_bool Tryz.underlying4 _) trodAll_mk0)
    (fun sp hsp => (trodAll_cons_mk (stays t0 rowed0 readable0 laidOut hB (fun x hx => hlt x (by simp [hx])) (fun x hx => hsp x (by simp [hx]))) (trodAll_cons_mk (stays t1 rowed1 readable1 laidOut hB (fun x hx => by cases hx) (fun x hx => by cases hx)) trodAll_mk0))) (fun _ _ => rfl) (by simp) hB (ok_one (by kernel_rfl) rfl (okWide_bool_mk Tryz.underlying4 _))⟩
theorem said : Rows.FnExactBuildKeySaid :=
  OpenClaim.holds_of_wide 3 Tryz.f3 rfl rfl rfl rfl rfl rfl rfl ⟨rfl, rfl, rfl, rfl, rfl⟩ rfl rfl rfl rfl rfl (by kernel_rfl) Tryz.func3 closed
    (of_decide_eq_true (by kernel_rfl)) (by unfold Func.isWrapper; first | (rw [if_pos (by decide +kernel)]; kernel_rfl) | (rw [if_neg (by decide +kernel)]; exact ⟨rfl, rfl⟩))
    (fun os started H enc _ => lifted os started H enc)
theorem proved : Rows.FnExactBuildKeyCardSaid :=
  Claim7.holds_tied_plain_at .later [] [.data, .data, .data] true (true, "9464560c85b002749bb822e6e2cb60a6fede94e2e682a29398279f498a481501") false
    said (fun _ h => by cases h) (by kernel_rfl) (fun _ h => by cases h) fnExactBuildKey_row_tie rfl ⟨rfl, rfl⟩ (by kernel_rfl) rfl
    (fun f fn hf hfn => by
      obtain rfl : f = 3 := Option.some.inj ((show Tryz.prog.funcNamed "loop.example/g00508/laws.FnExactBuildKey" = some 3 by kernel_rfl).symm.trans hf) |>.symm
      obtain rfl : fn = Tryz.f3 := (Option.some.inj (Tryz.func3.symm.trans hfn)).symm
      exact ⟨by kernel_rfl, fun j t ht => by
        rw [Tryz.params3] at ht
        rcases j with _ | j
        · have h3 : t = 24 := by simpa using ht.symm
          subst h3
          exact (show Tryz.prog.wantsStandIn 24 = false by kernel_rfl)
        · rcases j with _ | j
          · have h3 : t = 3 := by simpa using ht.symm
            subst h3
            exact (show Tryz.prog.wantsStandIn 3 = false by kernel_rfl)
          · simp at ht⟩)
    (by kernel_rfl)
end Go.Proofs.YtkadbimpaplnmaaGreatDoor.fnExactBuildKey
