/- The closed facts of the card of FirstError, one at a time. No condition. -/
import Derived.Test.YtgihkamifpmfdaaGreatDoorTie
import Derived.Test.YtgihkamifpmfdaaGreatDoorCards
import Derived.JoinedTies
namespace Go.Proofs.YtgihkamifpmfdaaGreatDoor.fnExactFirstError
open Go.ChangeShapes Go.WideShapes
theorem cm0:Rows.fnExactFirstErrorRow.wfByText (OpenSpec.ofChange Rows.fnExactFirstErrorSpec)=true:=by kernel_rfl
theorem cm1:Tryz.pinned.checked.prog.mainIs=some ((true, "dd85029507e923d83e097564bb5d92d07ad07afa20381418f89a9790dc4064a0").1, (true, "dd85029507e923d83e097564bb5d92d07ad07afa20381418f89a9790dc4064a0").2.toList):=by kernel_rfl
theorem cm2:Tryz.prog.funcNamed "loop.example/g00508/laws.FnExactFirstError" =some 3:=by kernel_rfl
theorem cm3:false=Tryz.pinned.checked.prog.looks []:=by kernel_rfl
theorem cm4:Tryz.prog.wantsStandIn 24=false:=by kernel_rfl
theorem goes_none {P:Program} {f:FuncId} (h:P.funcs.any Func.goes=false):P.goes f=false:=by
 have key:∀g:Nat,((P.funcs[g]?).any Func.goes)=false:=fun g=>by
  cases hq:P.funcs[g]? with
  | none=>rfl
  | some fn=>
   rw[Option.any_some]
   cases hg:fn.goes with
   | false=>rfl
   | true=>
    have:P.funcs.any Func.goes=true:=Array.any_eq_true.2 ⟨g,(Array.getElem?_eq_some_iff.1 hq).1,by rw[(Array.getElem?_eq_some_iff.1 hq).2];exact hg⟩
    rw[h] at this;cases this
 unfold Program.goes
 rw[h,Bool.and_false,Bool.or_false,List.any_eq_false]
 intro g _
 rw[key g];simp
theorem cm6:Tryz.prog.funcs.any Func.goes=false:=by kernel_rfl
theorem cm5:false=Rows.fnExactFirstErrorRow.goesBy Tryz.pinned.checked.prog:=by
 show false=(((Tryz.prog.funcNamed "loop.example/g00508/laws.FnExactFirstError").any Tryz.prog.goes)||false)
 rw[cm2,Option.any_some,goes_none cm6];rfl
end Go.Proofs.YtgihkamifpmfdaaGreatDoor.fnExactFirstError
