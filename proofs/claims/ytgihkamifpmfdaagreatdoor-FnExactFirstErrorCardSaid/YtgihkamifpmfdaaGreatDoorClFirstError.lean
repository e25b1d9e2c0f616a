/- The closed facts of the row of FirstError, one at a time. No condition. -/
import Derived.Test.YtgihkamifpmfdaaGreatDoorTie
import Derived.Test.YtgihkamifpmfdaaGreatDoorCards
import Derived.JoinedOf
namespace Go.Proofs.YtgihkamifpmfdaaGreatDoor.fnExactFirstError
open Go.ChangeShapes Go.WideShapes
set_option linter.unusedVariables false
theorem cl0:(Rows.fnExactFirstErrorRow.wf (OpenSpec.ofChange Rows.fnExactFirstErrorSpec))=true:=by kernel_rfl
theorem cl1:(laidOutB Tryz.pinned.checked.prog)=true:=by kernel_rfl
theorem cl2:(mapsRowed Tryz.pinned.checked.prog)=true:=by kernel_rfl
theorem cl3:(Tryz.f3.params.all (Tryz.pinned.checked.prog.readableRec ·))=true:=by kernel_rfl
theorem cl4:(namedTie Tryz.pinned.checked.prog Rows.fnExactFirstErrorRow.named Rows.fnExactFirstErrorSpec.vars)=true:=by kernel_rfl
theorem cl5:((Rows.fnExactFirstErrorRow.stops==[]))=true:=by kernel_rfl
theorem cl6:((Tryz.pinned.checked.prog.stops==[]))=true:=by kernel_rfl
theorem cl7:((Rows.fnExactFirstErrorRow.knobs==[]))=true:=by kernel_rfl
theorem cl8:((Tryz.pinned.checked.prog.stopKnobs==[]))=true:=by kernel_rfl
theorem cl9:((Rows.fnExactFirstErrorRow.inPlace==Tryz.pinned.checked.prog.inPlace 3))=true:=by kernel_rfl
theorem cl10:((Rows.fnExactFirstErrorRow.unfollowed==Tryz.pinned.checked.prog.unfollowed 3))=true:=by kernel_rfl
theorem cl11:((Rows.fnExactFirstErrorRow.recurses==Tryz.pinned.checked.prog.recurses 3))=true:=by kernel_rfl
theorem cl12:((Rows.fnExactFirstErrorRow.named==Tryz.pinned.checked.prog.varsNamed 3))=true:=by kernel_rfl
theorem cl13:((Rows.fnExactFirstErrorRow.maps==(Tryz.f3.params.toList++Rows.fnExactFirstErrorSpec.plain.varTypes Tryz.pinned.checked.prog).any (Tryz.pinned.checked.prog.mapsRec ·)))=true:=by kernel_rfl
theorem cl14:((Rows.fnExactFirstErrorRow.ifaces==(Tryz.f3.params.toList++Rows.fnExactFirstErrorSpec.plain.varTypes Tryz.pinned.checked.prog).any (Tryz.pinned.checked.prog.ifacesRec ·)))=true:=by kernel_rfl
theorem cl15:((Rows.fnExactFirstErrorRow.mapsOut==Tryz.pinned.checked.prog.mapsAmong Tryz.f3.resultTypes.toList))=true:=by kernel_rfl
theorem cl16:((Rows.fnExactFirstErrorRow.loops==(Tryz.f3.params.toList++Rows.fnExactFirstErrorSpec.plain.varTypes Tryz.pinned.checked.prog).any (Tryz.pinned.checked.prog.loopsFrom ·)))=true:=by kernel_rfl
theorem cl17:((Rows.fnExactFirstErrorRow.wideKeys==(Tryz.f3.params.toList++Rows.fnExactFirstErrorSpec.plain.varTypes Tryz.pinned.checked.prog++Tryz.f3.resultTypes.toList).any (Tryz.pinned.checked.prog.wideKeysFrom ·)))=true:=by kernel_rfl
theorem cl18:(Rows.fnExactFirstErrorSpec.vars.all (Tryz.pinned.checked.prog.varReadable ·))=true:=by kernel_rfl
theorem cl19:(Tryz.f3.resultTypes.all (fun t=>Tryz.pinned.checked.prog.readableRec t && decide (t<Tryz.pinned.checked.prog.types.size)))=true:=by kernel_rfl
theorem cl20:((Rows.fnExactFirstErrorRow.ifacesOut==Tryz.f3.resultTypes.toList.any (Tryz.pinned.checked.prog.ifacesRec ·)))=true:=by kernel_rfl
theorem cl21:((Rows.fnExactFirstErrorRow.loopsOut==Tryz.f3.resultTypes.toList.any (Tryz.pinned.checked.prog.loopsFrom ·)))=true:=by kernel_rfl
theorem cl22:((Rows.fnExactFirstErrorRow.plainKeys==Tryz.pinned.checked.prog.plainKeys))=true:=by kernel_rfl
theorem cl23:(Rows.fnExactFirstErrorRow.shortTexts.isNone)=true:=by kernel_rfl
theorem cl24:(Tryz.pinned.checked.prog.stopsHeard)=true:=by kernel_rfl
theorem cl25:(Tryz.pinned.checked.prog.mayEnter)=true:=by kernel_rfl
theorem cl26:((Rows.fnExactFirstErrorRow.lifted==Tryz.pinned.checked.prog.liftsFinal))=true:=by kernel_rfl
theorem cl27:((Tryz.pinned.checked.prog.make==some Rows.fnExactFirstErrorRow.make))=true:=by kernel_rfl
theorem cl28:((Rows.fnExactFirstErrorRow.kinds==(if Rows.fnExactFirstErrorRow.domain.isEmpty then [] else Tryz.f3.params.toList.map fun t=>match Tryz.pinned.checked.prog.underlying t with|some (.int k)=>some k|_=>none)))=true:=by kernel_rfl
theorem cl29:((Rows.fnExactFirstErrorRow.pinned==Rows.fnExactFirstErrorRow.pinnedBy))=true:=by kernel_rfl
theorem cl30:((Rows.fnExactFirstErrorRow.veiled==(Tryz.f3.params.toList++Rows.fnExactFirstErrorSpec.plain.varTypes Tryz.pinned.checked.prog++Tryz.f3.resultTypes.toList).any (Tryz.pinned.checked.prog.veiledRec ·)))=true:=by kernel_rfl
theorem cl31:(Rows.fnExactFirstErrorRow.veiledFits Tryz.pinned.checked.prog Tryz.f3.params.toList (Tryz.f3.params.toList++Rows.fnExactFirstErrorSpec.plain.varTypes Tryz.pinned.checked.prog++Tryz.f3.resultTypes.toList))=true:=by kernel_rfl
theorem a2 {x y:Bool} (hx:x=true) (hy:y=true):(x && y)=true:=by rw[hx,hy];rfl
theorem T5 {P:Program} {f:FuncId} {fn:Func} {s:ChangeSpec} {c:OpenClaim} (h0:(c.wf (OpenSpec.ofChange s))=true) (h1:(laidOutB P)=true) (h2:(mapsRowed P)=true) (h3:(fn.params.all (P.readableRec ·))=true) (h4:(namedTie P c.named s.vars)=true) (h5:((c.stops==[]))=true) (h6:((P.stops==[]))=true) (h7:((c.knobs==[]))=true) (h8:((P.stopKnobs==[]))=true) (h9:((c.inPlace==P.inPlace f))=true) (h10:((c.unfollowed==P.unfollowed f))=true) (h11:((c.recurses==P.recurses f))=true) (h12:((c.named==P.varsNamed f))=true) (h13:((c.maps==(fn.params.toList++s.plain.varTypes P).any (P.mapsRec ·)))=true) (h14:((c.ifaces==(fn.params.toList++s.plain.varTypes P).any (P.ifacesRec ·)))=true) (h15:((c.mapsOut==P.mapsAmong fn.resultTypes.toList))=true) (h16:((c.loops==(fn.params.toList++s.plain.varTypes P).any (P.loopsFrom ·)))=true) (h17:((c.wideKeys==(fn.params.toList++s.plain.varTypes P++fn.resultTypes.toList).any (P.wideKeysFrom ·)))=true) (h18:(s.vars.all (P.varReadable ·))=true) (h19:(fn.resultTypes.all (fun t=>P.readableRec t && decide (t<P.types.size)))=true) (h20:((c.ifacesOut==fn.resultTypes.toList.any (P.ifacesRec ·)))=true) (h21:((c.loopsOut==fn.resultTypes.toList.any (P.loopsFrom ·)))=true) (h22:((c.plainKeys==P.plainKeys))=true) (h23:(c.shortTexts.isNone)=true) (h24:(P.stopsHeard)=true) (h25:(P.mayEnter)=true) (h26:((c.lifted==P.liftsFinal))=true) (h27:((P.make==some c.make))=true) (h28:((c.kinds==(if c.domain.isEmpty then [] else fn.params.toList.map fun t=>match P.underlying t with|some (.int k)=>some k|_=>none)))=true) (h29:((c.pinned==c.pinnedBy))=true) (h30:((c.veiled==(fn.params.toList++s.plain.varTypes P++fn.resultTypes.toList).any (P.veiledRec ·)))=true) (h31:(c.veiledFits P fn.params.toList (fn.params.toList++s.plain.varTypes P++fn.resultTypes.toList))=true):joinedFacts P f fn s c=true:=by
 unfold joinedFacts
 exact(a2 (a2 (a2 (a2 (a2 (a2 (a2 (a2 (a2 (a2 (a2 (a2 (a2 (a2 (a2 (a2 (a2 (a2 (a2 (a2 (a2 (a2 (a2 (a2 (a2 (a2 (a2 (a2 (a2 (a2 (a2 h0 h1) h2) h3) h4) h5) h6) h7) h8) h9) h10) h11) h12) h13) h14) h15) h16) h17) h18) h19) h20) h21) h22) h23) h24) h25) h26) h27) h28) h29) h30) h31)
theorem closed:joinedFacts Tryz.pinned.checked.prog 3 Tryz.f3 Rows.fnExactFirstErrorSpec Rows.fnExactFirstErrorRow=true:=T5 cl0 cl1 cl2 cl3 cl4 cl5 cl6 cl7 cl8 cl9 cl10 cl11 cl12 cl13 cl14 cl15 cl16 cl17 cl18 cl19 cl20 cl21 cl22 cl23 cl24 cl25 cl26 cl27 cl28 cl29 cl30 cl31
end Go.Proofs.YtgihkamifpmfdaaGreatDoor.fnExactFirstError
