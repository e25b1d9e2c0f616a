/- 'laws.FnExactFirstError', whatever its input: it answers true, and its arguments read behind the call as they read before; the tables of the library's that it reads are tied to the program's text. -/
import Derived.Test.YtgihkamifpmfdaaGreatDoorM30
import Derived.ChangeMaps5
import Derived.LaidLaws
import Derived.Stop.LaidErr
import Derived.Lib.LaidIn
import Derived.Lib.LaidTab
import Derived.SevenTiedAt
import Derived.Test.YtgihkamifpmfdaaGreatDoorM50
import Derived.Test.YtgihkamifpmfdaaGreatDoorM23
import Derived.Test.YtgihkamifpmfdaaGreatDoorM10
import Derived.Test.YtgihkamifpmfdaaGreatDoorCards
import Derived.Test.YtgihkamifpmfdaaGreatDoorTie
import Derived.Test.YtgihkamifpmfdaaGreatDoorClFirstError
import Derived.Test.YtgihkamifpmfdaaGreatDoorCm
namespace Go.Proofs.YtgihkamifpmfdaaGreatDoor.fnExactFirstError
open Go.RowKit
set_option linter.unusedVariables false
theorem law_c (x0:A1):∀(w:World) (ht:Lib.TabIs Tryz.prog w "internal/strconv.uint64pow10" .u64 Lib.pow10Tab) (c0:List Value) (_:Rep w (Dk w) x0.enc c0),
  Calls Tryz.prog 3 #[.agg c0.toArray] w fun e w'=>e=.returned (.bool true)∧Below w.heap.size w w':=fun w ht c0 h=>
 (CS.out (c:=cx) (args:=[x0.dd false]) (y:=.lf (.bool true)) ((oD x0).cs trivial []) w [.agg c0.toArray] (Pa c0 (P3 _ _ _ (x0.is_dd false) h) (by rw[A1.dd_eq];rfl) TY) (ka ht)).mono fun e w' ⟨cs',bs,F',e1,e2,_,_,e3⟩=>by
  simp only[rp] at e2
  obtain⟨rfl, -⟩:=e2
  exact⟨e1,e3⟩
end Go.Proofs.YtgihkamifpmfdaaGreatDoor.fnExactFirstError
namespace Go.Proofs.YtgihkamifpmfdaaGreatDoor.fnExactFirstError
open Go.ChangeShapes Go.WideShapes Go.ChangeAt Go.RowKit
theorem own:ownKnob Tryz.prog.godebug=none:=by kernel_rfl
theorem laidOut:laidOutB Tryz.prog=true:=by kernel_rfl
theorem readable0:Tryz.prog.readableRec 24=true:=by kernel_rfl
theorem rowed0:24<Tryz.prog.types.size:=of_decide_eq_true (by kernel_rfl)
theorem gT:Tryz.prog.globalNamed "internal/strconv.uint64pow10" =some 1:=by kernel_rfl
theorem fp:(Tryz.prog.globals[1]?).map (·.type)=some 381:=by kernel_rfl
/-- the cells of a table -/
def Jc (d:DataW Unit):Array Value:=match d with
 | .agg ps => (ps.map fun p => match p with
  | .lit (.int k n)=>Value.int k n
  |_=>Value.bool false).toArray
 |_=> #[]
def lay (cs:Array Value) (o:Obj):Obj:=match o with
 | .cells _ t frozen=> .cells cs t frozen
 |o=>o
/-- a world in which the three tables hold what their initialisers lay -/
noncomputable def L3 (os:Os):World:=
 { World.holding Tryz.prog os ⟨#[], #[],[]⟩ with heap:=(((World.holding Tryz.prog os ⟨#[], #[],[]⟩).heap.modify 1 (lay (Jc Rows.laid_internal_strconv_uint64pow10))).modify 2 (lay (Jc Rows.laid_math_bits_deBruijn32tab))).modify 3 (lay (Jc Rows.laid_math_bits_deBruijn64tab)) }
theorem Vb (os:Os) (args:Array Value):laidMet Tryz.prog Rows.fnExactFirstErrorRow.laid ((L3 os).forCall (fun _ _=>0) ⟨#[],args,[]⟩).memory:=
 (LaidIn.of_run [1,2,3] 8 (by kernel_rfl) (by kernel_rfl) (by kernel_rfl) (by kernel_rfl)).met
set_option maxRecDepth 100000 in
theorem lifted (os:Os) (started:os.Started) (H:Type) (enc:TypeId×Value→H):
  ReturnsInHanded {} Tryz.checked os 3 .any (fun w args=>(Rows.fnExactFirstErrorSpec.pre enc Tryz.prog Tryz.f3 Rows.fnExactFirstErrorRow.domain false w args∧laidMet Tryz.prog Rows.fnExactFirstErrorRow.laid w)∧sizedMet enc Tryz.prog Tryz.f3 (OpenSpec.ofChange Rows.fnExactFirstErrorSpec) false w args)
   (Rows.fnExactFirstErrorSpec.post enc Tryz.prog Tryz.f3 false true false false):=by
 refine returnsInHanded_of_change_and (C:=Tryz.checked) (X:=fun w _=>laidMet Tryz.prog Rows.fnExactFirstErrorRow.laid w) (fun _ _ _ hh h=>h.of_heap hh) own started (by kernel_rfl) Tryz.func3
  (ChangeSpec.witness_at (enc:=enc) (C:=Tryz.checked) (os:=os) (X:=fun w _=>laidMet Tryz.prog Rows.fnExactFirstErrorRow.laid w) false (L3 os) #[.agg #[.slice none 0 0]] 12 rfl (by kernel_rfl) (by kernel_rfl) (by kernel_rfl) (by kernel_rfl) (by kernel_rfl) (Vb os _)) ?_
 intro W Cq args ds gs before hval0 hW hcnd0 _ hL _
 have hval:∀(j:Nat) t v,Tryz.f3.params[j]? =some t→args[j]? =some v→Value.okWide Tryz.prog W .any Cq t v:=hval0
 have hW':=hW
 have hlt:=hW.lt
 obtain⟨p,q,hA0,hV,rfl,hfz,hnd⟩:=hW
 have hA:DataW.TrodAll enc Tryz.prog W 0 (fun _=>true) true Tryz.f3.params.toList args.toList ds p:=hA0
 rw[Tryz.params3] at hA hval
 obtain⟨v0,d0,rfl,rfl,h0⟩:=trodAll_one hA
 obtain⟨p0,rfl⟩:∃p0,p0=p:=⟨_,rfl⟩
 obtain⟨rfl,rfl⟩:=trodVars_none hV
 have t0:=h0
 obtain⟨c0,rfl⟩:=kA Tryz.underlying24 (hval 0 24 v0 rfl rfl)
 obtain⟨f0,u0⟩:=h0
 obtain⟨x0,R0⟩:=KV (cs:=c0) u0
 have htab:Lib.TabIs Tryz.prog W "internal/strconv.uint64pow10" .u64 Lib.pow10Tab:=Lib.tabIs_of_head gT fp Tryz.underlying381 Tryz.underlying306 (by kernel_rfl) (by kernel_rfl) (show laidMet Tryz.prog (("internal/strconv.uint64pow10",Lib.tabData .u64 Lib.pow10Tab)::[]) W from hL.tail.tail)
 refine(law_c x0 W htab c0 R0).mono fun e W' ⟨he,hB⟩=> ?_
 subst he
 exact ⟨_, rfl, KU (pa := p0 ++ ([])) (pv := []) hW' (fun _ _ _ => trodAll_cons_mk (shut_bool Tryz.underlying4 _) trodAll_mk0)
  (fun sp hsp=>(trodAll_cons_mk (bu t0 rowed0 readable0 laidOut hB (fun x hx=>hlt x (by simp[hx])) (fun x hx=>hsp x (by simp[hx]))) trodAll_mk0)) (fun _ _=>rfl) (by simp) hB (ok_one (by kernel_rfl) rfl (okWide_bool_mk Tryz.underlying4 _))⟩
theorem nJ:Rows.FnExactFirstErrorSaid:=
 OpenClaim.holds_of_wide 3 Tryz.f3 rfl rfl rfl rfl rfl rfl rfl ⟨rfl,rfl,rfl,rfl,rfl⟩ rfl rfl rfl rfl rfl (by kernel_rfl) Tryz.func3 closed
  (of_decide_eq_true (by kernel_rfl)) (by unfold Func.isWrapper;first|(rw[if_pos (by decide+kernel)];kernel_rfl)|(rw[if_neg (by decide+kernel)];exact⟨rfl,rfl⟩))
  (fun os started H enc _=>lifted os started H enc)
theorem proved:Rows.FnExactFirstErrorCardSaid:=
 Claim7.holds_tied_plain_at .later [] [.data,.data,.data] true (true, "dd85029507e923d83e097564bb5d92d07ad07afa20381418f89a9790dc4064a0") false
  nJ (fun _ h=>by cases h) cm0 (fun _ h=>by cases h) fnExactFirstError_row_tie rfl ⟨rfl,rfl⟩ cm1 rfl
  (fun f fn hf hfn => by
   obtain rfl:f=3:=Option.some.inj (cm2.symm.trans hf)|>.symm
   obtain rfl:fn=Tryz.f3:=(Option.some.inj (Tryz.func3.symm.trans hfn)).symm
   exact ⟨cm3, fun j t ht => by
    rw[Tryz.params3] at ht
    rcases j with _|j
    ·have h3:t=24:=by simpa using ht.symm
     subst h3
     exact cm4
    ·simp at ht⟩)
  cm5
end Go.Proofs.YtgihkamifpmfdaaGreatDoor.fnExactFirstError
