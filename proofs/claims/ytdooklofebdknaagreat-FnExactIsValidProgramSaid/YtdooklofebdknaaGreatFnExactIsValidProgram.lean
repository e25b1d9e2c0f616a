/- 'laws.FnExactIsValidProgram', whatever its input: it answers true, and its arguments read behind the call as they read before. No condition. -/
import Derived.Test.YtdooklofebdknaaGreatM16
import Derived.ChangeMaps5
import Derived.Test.YtdooklofebdknaaGreatClIsValidProgram
import Derived.Test.YtdooklofebdknaaGreatM52
import Derived.Test.YtdooklofebdknaaGreatM11
namespace Go.Proofs.YtdooklofebdknaaGreat.fnExactIsValidProgram
open Go.RowKit
theorem law_c (x0:A1):∀(w:World) (c0:List Value) (_:Rep w (Di w) x0.enc c0),
  Calls Tryz.prog 4 #[.agg c0.toArray] w fun e w'=>e=.returned (.bool true)∧Below w.heap.size w w':=fun w c0 h=>
 (CS.out (c:=cx) (args:=[x0.dd false]) (y:=.lf (.bool true)) ((mD x0).cs trivial []) w [.agg c0.toArray] (PA c0 (Oc _ _ _ (x0.is_dd false) h) (by rw[A1.dd_eq];rfl) Su)).mono fun e w' ⟨cs',bs,F',e1,e2,_,_,e3⟩=>by
  simp only[rp] at e2
  obtain⟨rfl, -⟩:=e2
  exact⟨e1,e3⟩
end Go.Proofs.YtdooklofebdknaaGreat.fnExactIsValidProgram
namespace Go.Proofs.YtdooklofebdknaaGreat.fnExactIsValidProgram
open Go.ChangeShapes Go.WideShapes Go.ChangeAt Go.RowKit
theorem own:ownKnob Tryz.prog.godebug=none:=by kernel_rfl
theorem laidOut:laidOutB Tryz.prog=true:=by kernel_rfl
theorem readable24:Tryz.prog.readableRec 24=true:=by kernel_rfl
theorem rowed24:24<Tryz.prog.types.size:=of_decide_eq_true (by kernel_rfl)
set_option maxRecDepth 100000 in
theorem lifted (os:Os) (started:os.Started) (H:Type) (enc:TypeId×Value→H):
  ReturnsInHanded {} Tryz.checked os 4 .any (Rows.fnExactIsValidProgramSpec.pre6 enc Tryz.prog Tryz.f4 Rows.fnExactIsValidProgramRow.domain false) (Rows.fnExactIsValidProgramSpec.post enc Tryz.prog Tryz.f4 false true false false):=by
 refine returnsInHanded_of_change (C:=Tryz.checked) own started (by kernel_rfl) Tryz.func4
  (ChangeSpec.witness6 (enc:=enc) (C:=Tryz.checked) false ⟨#[], #[.agg #[.slice none 0 0]],[]⟩ 12 (by kernel_rfl) (by kernel_rfl) (by kernel_rfl) (by kernel_rfl)) ?_
 intro W Cp args ds gs before hval0 hW hcnd _
 have hval:∀(j:Nat) t v,Tryz.f4.params[j]? =some t→args[j]? =some v→Value.okWide Tryz.prog W .any Cp t v:=hval0
 have hW':=hW
 have hlt:=hW.lt
 obtain⟨p,q,hA0,hV,rfl,hfz,hnd⟩:=hW
 have hA:DataW.TrodAll enc Tryz.prog W 0 (fun _=>true) true Tryz.f4.params.toList args.toList ds p:=hA0
 rw[Tryz.params4] at hA hval
 obtain⟨v0,d0,rfl,rfl,h0⟩:=trodAll_one hA
 obtain⟨p0,rfl⟩:∃p0,p0=p:=⟨_,rfl⟩
 obtain⟨rfl,rfl⟩:=trodVars_none hV
 have t0:=h0
 obtain⟨c0,rfl⟩:=ic Tryz.underlying24 (hval 0 24 v0 rfl rfl)
 obtain⟨f0,u0⟩:=h0
 obtain⟨x0,R0⟩:=KA (cs:=c0) u0
 refine(law_c x0 W c0 R0).mono fun e W' ⟨he,hB⟩=> ?_
 subst he
 exact ⟨_, rfl, K9 (pa := p0 ++ ([])) (pv := []) hW' (fun _ _ _ => trodAll_cons_mk (shut_bool Tryz.underlying4 _) trodAll_mk0)
  (fun sp hsp=>(trodAll_cons_mk (aW t0 rowed24 readable24 laidOut hB (fun x hx=>hlt x (by simp[hx])) (fun x hx=>hsp x (by simp[hx]))) trodAll_mk0)) (fun _ _=>rfl) (by simp) hB (ok_one (by kernel_rfl) rfl (okWide_bool_mk Tryz.underlying4 _))⟩
theorem proved:Rows.FnExactIsValidProgramSaid:=
 OpenClaim.holds_of_wide 4 Tryz.f4 rfl rfl rfl rfl rfl rfl rfl ⟨rfl,rfl,rfl,rfl,rfl⟩ rfl rfl rfl rfl rfl (by kernel_rfl) Tryz.func4 closed
  (of_decide_eq_true (by kernel_rfl)) (by unfold Func.isWrapper;first|(rw[if_pos (by decide+kernel)];kernel_rfl)|(rw[if_neg (by decide+kernel)];exact⟨rfl,rfl⟩))
  (fun os started H enc _=>lifted os started H enc)
end Go.Proofs.YtdooklofebdknaaGreat.fnExactIsValidProgram
