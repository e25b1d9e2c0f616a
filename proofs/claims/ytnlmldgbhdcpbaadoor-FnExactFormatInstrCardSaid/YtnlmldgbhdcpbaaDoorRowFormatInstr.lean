/- 'laws.FnExactFormatInstr', whatever its input: it answers true, and its argument reads behind the call as it read before; the tables of the library's that it reads are tied to the program's text. -/
import Derived.Test.YtnlmldgbhdcpbaaDoorOpens
import Derived.ChangeMaps5
import Derived.LaidLaws
import Derived.Stop.LaidErr
import Derived.Lib.LaidIn
import Derived.Lib.LaidTab
import Derived.SevenTiedAt
import Derived.Test.YtnlmldgbhdcpbaaDoorLawFormatInstr
import Derived.Test.YtnlmldgbhdcpbaaDoorCards
import Derived.Test.YtnlmldgbhdcpbaaDoorTie
namespace Go.Proofs.YtnlmldgbhdcpbaaDoor.fnExactFormatInstr
open Go.ChangeShapes Go.WideShapes Go.ChangeAt Go.RowKit
theorem own : ownKnob Tryd.prog.godebug = none := by kernel_rfl
theorem laidOut : laidOutB Tryd.prog = true := by kernel_rfl
theorem readable : Tryd.prog.readableRec 23 = true := by kernel_rfl
theorem rowed : 23 < Tryd.prog.types.size := of_decide_eq_true (by kernel_rfl)
theorem gT : Tryd.prog.globalNamed "internal/strconv.uint64pow10" = some 0 := by kernel_rfl
theorem gTType : (Tryd.prog.globals[0]?).map (·.type) = some 56 := by kernel_rfl
/-- the cells of a table -/
def litCells (d : DataW Unit) : Array Value := match d with
  | .agg ps => (ps.map fun p => match p with
    | .lit (.int k n) => Value.int k n
    | _ => Value.bool false).toArray
  | _ => #[]
def lay (cs : Array Value) (o : Obj) : Obj := match o with
  | .cells _ t frozen => .cells cs t frozen
  | o => o
/-- a world in which the three tables hold what their initialisers lay -/
noncomputable def laidWorld (os : Os) : World :=
  { World.holding Tryd.prog os ⟨#[], #[], []⟩ with heap := (((World.holding Tryd.prog os ⟨#[], #[], []⟩).heap.modify 0 (lay (litCells Rows.laid_internal_strconv_uint64pow10))).modify 2 (lay (litCells Rows.laid_math_bits_deBruijn32tab))).modify 3 (lay (litCells Rows.laid_math_bits_deBruijn64tab)) }
theorem laid_met (os : Os) (args : Array Value) : laidMet Tryd.prog Rows.fnExactFormatInstrRow.laid ((laidWorld os).forCall (fun _ _ => 0) ⟨#[], args, []⟩).memory :=
  (LaidIn.of_run [0, 2, 3] 8 (by kernel_rfl) (by kernel_rfl) (by kernel_rfl) (by kernel_rfl)).met
set_option maxRecDepth 100000 in
theorem lifted (os : Os) (started : os.Started) (H : Type) (enc : TypeId × Value → H) :
    ReturnsInHanded {} Tryd.checked os 3 .any (fun w args => (Rows.fnExactFormatInstrSpec.pre enc Tryd.prog Tryd.f3 Rows.fnExactFormatInstrRow.domain false w args ∧ laidMet Tryd.prog Rows.fnExactFormatInstrRow.laid w) ∧ sizedMet enc Tryd.prog Tryd.f3 (OpenSpec.ofChange Rows.fnExactFormatInstrSpec) false w args)
      (Rows.fnExactFormatInstrSpec.post enc Tryd.prog Tryd.f3 false true false false) := by
  refine returnsInHanded_of_change_and (C := Tryd.checked) (X := fun w _ => laidMet Tryd.prog Rows.fnExactFormatInstrRow.laid w) (fun _ _ _ hh h => h.of_heap hh) own started (by kernel_rfl) Tryd.func3
    (ChangeSpec.witness_at (enc := enc) (C := Tryd.checked) (os := os) (X := fun w _ => laidMet Tryd.prog Rows.fnExactFormatInstrRow.laid w) false (laidWorld os) #[.agg #[.int .i64 0, .int .i64 0, .int .i64 0, .string ⟨#[]⟩, .string ⟨#[]⟩]] 8 rfl (by kernel_rfl) (by kernel_rfl) (by kernel_rfl) (by kernel_rfl) (by kernel_rfl) (laid_met os _)) ?_
  intro W base args ds gs before hval0 hW hcnd0 _ hL _
  have hval : ∀ (j : Nat) t v, Tryd.f3.params[j]? = some t → args[j]? = some v → Value.okWide Tryd.prog W .any base t v := hval0
  have hW' := hW
  have hlt := hW.lt
  obtain ⟨p, q, hA0, hV, rfl, hfz, hnd⟩ := hW
  have hA : DataW.TrodAll enc Tryd.prog W 0 (fun _ => true) true Tryd.f3.params.toList args.toList ds p := hA0
  rw [Tryd.params3] at hA hval
  obtain ⟨v0, d0, rfl, rfl, h0⟩ := trodAll_one hA
  obtain ⟨p0, rfl⟩ : ∃ p0, p0 = p := ⟨_, rfl⟩
  obtain ⟨rfl, rfl⟩ := trodVars_none hV
  have t0 := h0
  obtain ⟨c0, rfl⟩ := okAgg Tryd.underlying23 (hval 0 23 v0 rfl rfl)
  obtain ⟨f0, u0⟩ := h0
  obtain ⟨x0, R0⟩ := openInstr_c (cs := c0) u0
  have htab : Tab W := Lib.tabIs_of_head gT gTType Tryd.underlying56 Tryd.underlying46 (by kernel_rfl) (by kernel_rfl) (show laidMet Tryd.prog (("internal/strconv.uint64pow10", Lib.tabData .u64 Lib.pow10Tab) :: []) W from hL.tail.tail)
  refine (law_c x0 W htab c0 R0).mono fun e W' ⟨he, hB⟩ => ?_
  subst he
  exact ⟨_, rfl, post_of_below (pa := p0 ++ ([])) (pv := []) hW' (fun _ _ _ => trodAll_cons_mk (shut_bool Tryd.underlying4 _) trodAll_mk0)
    (fun sp hsp => (trodAll_cons_mk (stays t0 rowed readable laidOut hB (fun x hx => hlt x (by simp [hx])) (fun x hx => hsp x (by simp [hx]))) trodAll_mk0)) (fun _ _ => rfl) (by simp) hB (ok_one (by kernel_rfl) rfl (okWide_bool_mk Tryd.underlying4 _))⟩
theorem said : Rows.FnExactFormatInstrSaid :=
  OpenClaim.holds_of_wide 3 Tryd.f3 rfl rfl rfl rfl rfl rfl rfl ⟨rfl, rfl, rfl, rfl, rfl⟩ rfl rfl rfl rfl rfl (by kernel_rfl) Tryd.func3 (by kernel_rfl)
    (of_decide_eq_true (by kernel_rfl)) (by unfold Func.isWrapper; first | (rw [if_pos (by decide +kernel)]; kernel_rfl) | (rw [if_neg (by decide +kernel)]; exact ⟨rfl, rfl⟩))
    (fun os started H enc _ => lifted os started H enc)
theorem proved : Rows.FnExactFormatInstrCardSaid :=
  Claim7.holds_tied_plain_at .later [] [.data, .data, .data] true (true, "31926206c8442c94557adfa6c9046f973fee189fe3db4126d43be57b5a32302a") false
    said (fun _ h => by cases h) (by kernel_rfl) (fun _ h => by cases h) fnExactFormatInstr_row_tie rfl ⟨rfl, rfl⟩ (by kernel_rfl) rfl
    (fun f fn hf hfn => by
      obtain rfl : f = 3 := Option.some.inj ((show Tryd.prog.funcNamed "loop.example/g00508/laws.FnExactFormatInstr" = some 3 by kernel_rfl).symm.trans hf) |>.symm
      obtain rfl : fn = Tryd.f3 := (Option.some.inj (Tryd.func3.symm.trans hfn)).symm
      exact ⟨by kernel_rfl, fun j t ht => by
        rw [Tryd.params3] at ht
        have h3 : t = 23 := by
          rcases j with _ | j
          · simpa using ht.symm
          · simp at ht
        subst h3
        exact (show Tryd.prog.wantsStandIn 23 = false by kernel_rfl)⟩)
    (by kernel_rfl)
end Go.Proofs.YtnlmldgbhdcpbaaDoor.fnExactFormatInstr
