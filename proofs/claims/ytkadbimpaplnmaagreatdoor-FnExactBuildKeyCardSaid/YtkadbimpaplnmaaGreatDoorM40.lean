/- Walks by the Den rules. No condition but sizes. -/
import Derived.Test.YtkadbimpaplnmaaGreatDoorM16
import Derived.Test.YtkadbimpaplnmaaGreatDoorM32
import Derived.Test.YtkadbimpaplnmaaGreatDoorM36
import Derived.Test.YtkadbimpaplnmaaGreatDoorM39
namespace Go.Proofs.YtkadbimpaplnmaaGreatDoor
open Go.RowKit
set_option maxRecDepth 10000
set_option linter.unusedSimpArgs false
set_option maxHeartbeats 4000000
theorem encTr_v (x : TTrait) (hz : x.sz ≤ 134217728) (hok : ∀ g ∈ x.fSignatures, (∀ y ∈ g.fParams, tForm y = true) ∧ tForm g.fResult = true ∧ (g.fHasDefault = true → exF g.fBody = true)) (h : HP) : CS cx.P 58 [.d ((x).dd false)] h (.d ((trE x).dd false)) h := by
 have hz2 := x.sz_eq; unfold szs at hz2
 refine Ze Tryz.func58 rfl 66 ?_
 apply Zr; intros
 iterate 2 (refine Zo ?_; simp)
 exact Zx
 apply Zr; intros
 iterate 2 (refine Zo ?_; simp)
 exact Zx
 refine W.seq ?_
 apply Zr; intros
 iterate 2 (refine Zo ?_; simp)
 exact Zx
 refine W.join [1, 2] [1, 2] [(3, .d (.sl true .one ((fl1 x).map dS)))] [] ?_ fun T hT => ?_
 refine Zc rfl ?_ ?_ <;> intro hb0 <;> try simp at hb0
 have ht : fl1 x = [⟨#[97, 117, 116, 111]⟩] := by unfold fl1; rw [if_pos hb0]
 apply Zs; intros
 refine Zm [11] ?_; simp
 iterate 3 (refine Zo ?_; simp)
 exact Zx
 refine Wz.to rfl rfl rfl ?_
 simp [ht]
 have ht : fl1 x = [] := by unfold fl1; rw [if_neg (by simp [hb0])]
 refine W.skip ?_
 refine Wz.to rfl rfl rfl ?_
 simp [ht]
 simp at hT; subst hT
 refine W.seq ?_
 apply Zr; intros
 iterate 2 (refine Zo ?_; simp)
 exact Zx
 refine W.join [1, 2] [1, 2] [(3, .d (.sl true .one ((fl2 x).map dS)))] [] ?_ fun T hT => ?_
 refine Zc rfl ?_ ?_ <;> intro hb1 <;> try simp at hb1
 have ht : fl2 x = fl1 x ++ [⟨#[97, 115, 115, 111, 99]⟩] := by unfold fl2; rw [if_pos hb1]
 have hfl : (fl1 x).length ≤ 1 := by unfold fl1; split <;> simp
 apply Zs; intros
 refine Zm [16] ?_; simp
 iterate 3 (refine Zo ?_; simp)
 exact Zx
 refine Wz.to rfl rfl rfl ?_
 simp [ht]
 have ht : fl2 x = fl1 x := by unfold fl2; rw [if_neg (by simp [hb1])]; simp
 refine W.skip ?_
 refine Wz.to rfl rfl rfl ?_
 simp [ht]
 simp at hT; subst hT
 apply Yr rfl; intro K hK
 refine Yl [] rfl Tryz.func56 (iAt_v ⟨#[116, 114, 97, 105, 116]⟩) ?_; simp
 iterate 2 (refine Yo ?_; simp)
 refine Yl [] rfl Tryz.func56 (iAt_v x.fName) ?_; simp
 iterate 2 (refine Yo ?_; simp)
 refine Yl [] rfl Tryz.func57 (nList_v x.fSupertraits (by omega)) ?_; simp
 refine Yo ?_; simp
 refine Yl [] rfl Tryz.func57 (nList_v (fl2 x) (by unfold fl2 fl1; split <;> split <;> simp)) ?_; simp
 iterate 2 (refine Yo ?_; simp)
 exact DL.nil rfl hK
 refine W.seq ?_
 apply Zr; intros
 iterate 4 (refine Zo ?_; simp)
 exact Zx
 refine W.block ?_
 refine W.loopk [2, 30, 31] [2] (fun k0 => [(32, .d (.lf (.int .i64 (k0 : Int)))), (4, .d (.sl true sh61 ((eK [(⟨⟨#[116, 114, 97, 105, 116]⟩, []⟩ : TSExpr), (⟨x.fName, []⟩ : TSExpr), woE x.fSupertraits, woE (fl2 x)] sigE x.fSignatures k0).map (TSExpr.dd false))))]) (fun _ => []) x.fSignatures.length rfl (by simp [eK_zero]) fun k0 hk0 T hT => ?_
 simp at hT; subst hT
 apply Zr; intros
 refine Zo ?_; simp
 exact Zx
 refine Zv rfl ?_ ?_ <;> intro hb2 <;> try simp at hb2
 have hx0 := ixNext hb2 (by omega)
 have hy := szL_le TSignature.sz (gm hb2)
 have hy2 := x.fSignatures[k0].sz_eq; unfold szs at hy2
 have hsg := hok _ (gm hb2)
 have hpt : ∀ y ∈ x.fSignatures[k0].fParams, y.sz ≤ 134217728 ∧ tForm y = true := fun y hy => ⟨by have := szL_le TType.sz hy; omega, hsg.1 y hy⟩
 refine W.skip ?_
 refine Zb ?_
 apply Zr; intros
 refine Zo ?_ (by simp [hb2, hx0] <;> omega); simp [hb2, hx0]
 refine Zm [35] ?_ (by simp [hb2, hx0] <;> omega); simp [hb2, hx0]
 iterate 2 (refine Zo ?_ (by simp [hb2, hx0] <;> omega); simp [hb2, hx0])
 exact Zx
 apply Yr rfl; intro K hK
 iterate 2 (refine Yo ?_ (by simp [hb2, hx0] <;> omega); simp [hb2, hx0])
 refine Yl [] rfl Tryz.func56 (iAt_v x.fSignatures[k0].fName) ?_ (by simp [hb2, hx0]); simp [hb2, hx0]
 iterate 2 (refine Yo ?_ (by simp [hb2, hx0] <;> omega); simp [hb2, hx0])
 refine Yl [] rfl Tryz.func110 (encTs_v x.fSignatures[k0].fParams (by omega) hpt) ?_ (by simp [hb2, hx0]); simp [hb2, hx0]
 refine Yl [] rfl Tryz.func64 (iList_v (eA [] encT x.fSignatures[k0].fParams)) ?_ (by simp [hb2, hx0]); simp [hb2, hx0]
 iterate 2 (refine Yo ?_ (by simp [hb2, hx0] <;> omega); simp [hb2, hx0])
 refine Yl [] rfl Tryz.func111 (encT_v x.fSignatures[k0].fResult (by omega) hsg.2.1) ?_ (by simp [hb2, hx0]); simp [hb2, hx0]
 iterate 2 (refine Yo ?_ (by simp [hb2, hx0] <;> omega); simp [hb2, hx0])
 exact DL.nil rfl hK
 refine W.seq ?_
 apply Zr; intros
 iterate 2 (refine Zo ?_ (by simp [hb2, hx0] <;> omega); simp [hb2, hx0])
 exact Zx
 refine W.join [1, 2, 4, 30, 31, 32] [1, 2] [(7, .d (.sl true sh61 ((sgL x.fSignatures[k0]).map (TSExpr.dd false))))] [] ?_ fun T hT => ?_
 refine Zc rfl ?_ ?_ <;> intro hb3 <;> try simp at hb3
 have ht : sgL x.fSignatures[k0] = [⟨x.fSignatures[k0].fName, []⟩, ⟨⟨#[]⟩, eA [] encT x.fSignatures[k0].fParams⟩, encT x.fSignatures[k0].fResult] ++ [woE x.fSignatures[k0].fVars, encX x.fSignatures[k0].fBody] := by unfold sgL; rw [if_pos hb3]
 apply W.regSD rfl; intro K hK
 refine Ym [49] ?_ (by simp [hb2, hx0] <;> omega); simp [hb2, hx0]
 iterate 2 (refine Yo ?_ (by simp [hb2, hx0] <;> omega); simp [hb2, hx0])
 refine Yl [] rfl Tryz.func57 (nList_v x.fSignatures[k0].fVars (by omega)) ?_ (by simp [hb2, hx0]); simp [hb2, hx0]
 iterate 2 (refine Yo ?_ (by simp [hb2, hx0] <;> omega); simp [hb2, hx0])
 refine Yl [] rfl Tryz.func112 (encX_v x.fSignatures[k0].fBody (by omega) (hsg.2.2 hb3)) ?_ (by simp [hb2, hx0]); simp [hb2, hx0]
 iterate 3 (refine Yo ?_ (by simp [hb2, hx0] <;> omega); simp [hb2, hx0])
 exact DL.nil rfl hK
 refine Wz.to rfl rfl rfl ?_
 simp [ht]
 have ht : sgL x.fSignatures[k0] = [⟨x.fSignatures[k0].fName, []⟩, ⟨⟨#[]⟩, eA [] encT x.fSignatures[k0].fParams⟩, encT x.fSignatures[k0].fResult] := by unfold sgL; rw [if_neg (by simp [hb3])]; simp
 refine W.skip ?_
 refine Wz.to rfl rfl rfl ?_
 simp [ht]
 simp at hT; subst hT
 apply Zs; intros
 refine Zm [58] ?_ (by simp [hb2, hx0] <;> omega); simp [hb2, hx0]
 refine Zo ?_ (by simp [hb2, hx0] <;> omega); simp [hb2, hx0]
 refine Zl [] rfl Tryz.func64 (iList_v (sgL x.fSignatures[k0]) _) ?_ (by simp [hb2, hx0]); simp [hb2, hx0]
 iterate 3 (refine Zo ?_ (by simp [hb2, hx0] <;> omega); simp [hb2, hx0])
 exact Zx
 apply Zs; intros
 iterate 2 (refine Zo ?_ (by simp [hb2, hx0] <;> omega); simp [hb2, hx0])
 exact Zx
 refine ⟨hb2, Wz.to rfl rfl rfl ?_⟩
 have hs := eKF_snoc (P := [(⟨⟨#[116, 114, 97, 105, 116]⟩, []⟩ : TSExpr), (⟨x.fName, []⟩ : TSExpr), woE x.fSupertraits, woE (fl2 x)]) (e := sigE) hb2
 simp at hs
 simp [hs]
 have hkl : k0 = x.fSignatures.length := by omega
 subst hkl
 simp only [eK_full]
 refine W.exit ?_
 apply Zr; intros
 refine Zo ?_; simp
 refine Zl [] rfl Tryz.func64 (iList_v (eA [(⟨⟨#[116, 114, 97, 105, 116]⟩, []⟩ : TSExpr), (⟨x.fName, []⟩ : TSExpr), woE x.fSupertraits, woE (fl2 x)] sigE x.fSignatures) _) ?_; simp
 refine Zo ?_; simp
 exact Zx
 refine W.ret (Zq ?_)
 simp [Tryz.f58]
theorem encDa_v (x : TDataType) (hz : x.sz ≤ 134217728) (hok : ∀ c ∈ x.fConstructors, ∀ y ∈ c.fFields, tForm y = true) (h : HP) : CS cx.P 59 [.d ((x).dd false)] h (.d ((daE x).dd false)) h := by
 have hz2 := x.sz_eq; unfold szs at hz2
 refine Ze Tryz.func59 rfl 36 ?_
 apply Zr; intros
 iterate 2 (refine Zo ?_; simp)
 exact Zx
 apply Yr rfl; intro K hK
 refine Yl [] rfl Tryz.func56 (iAt_v ⟨#[100, 97, 116, 97]⟩) ?_; simp
 iterate 2 (refine Yo ?_; simp)
 refine Yl [] rfl Tryz.func56 (iAt_v x.fName) ?_; simp
 iterate 2 (refine Yo ?_; simp)
 refine Yl [] rfl Tryz.func57 (nList_v x.fVars (by omega)) ?_; simp
 iterate 2 (refine Yo ?_; simp)
 exact DL.nil rfl hK
 refine W.seq ?_
 apply Zr; intros
 iterate 4 (refine Zo ?_; simp)
 exact Zx
 refine W.block ?_
 refine W.loopk [2, 15, 16] [2] (fun k0 => [(17, .d (.lf (.int .i64 (k0 : Int)))), (3, .d (.sl true sh61 ((eK [(⟨⟨#[100, 97, 116, 97]⟩, []⟩ : TSExpr), (⟨x.fName, []⟩ : TSExpr), woE x.fVars] ctE x.fConstructors k0).map (TSExpr.dd false))))]) (fun _ => []) x.fConstructors.length rfl (by simp [eK_zero]) fun k0 hk0 T hT => ?_
 simp at hT; subst hT
 apply Zr; intros
 refine Zo ?_; simp
 exact Zx
 refine Zv rfl ?_ ?_ <;> intro hb0 <;> try simp at hb0
 have hx0 := ixNext hb0 (by omega)
 have hy := szL_le TConstructor.sz (gm hb0)
 have hy2 := x.fConstructors[k0].sz_eq; unfold szs at hy2
 have hpt : ∀ y ∈ x.fConstructors[k0].fFields, y.sz ≤ 134217728 ∧ tForm y = true := fun y hy => ⟨by have := szL_le TType.sz hy; omega, hok _ (gm hb0) y hy⟩
 refine W.skip ?_
 refine Zb ?_
 apply Zr; intros
 refine Zo ?_ (by simp [hb0, hx0] <;> omega); simp [hb0, hx0]
 refine Zm [20] ?_ (by simp [hb0, hx0] <;> omega); simp [hb0, hx0]
 iterate 2 (refine Zo ?_ (by simp [hb0, hx0] <;> omega); simp [hb0, hx0])
 exact Zx
 apply W.regSD rfl; intro K hK
 refine Ym [21] ?_ (by simp [hb0, hx0] <;> omega); simp [hb0, hx0]
 iterate 2 (refine Yo ?_ (by simp [hb0, hx0] <;> omega); simp [hb0, hx0])
 refine Yl [] rfl Tryz.func56 (iAt_v x.fConstructors[k0].fName) ?_ (by simp [hb0, hx0]); simp [hb0, hx0]
 iterate 3 (refine Yo ?_ (by simp [hb0, hx0] <;> omega); simp [hb0, hx0])
 refine Yl [] rfl Tryz.func110 (encTs_v x.fConstructors[k0].fFields (by omega) hpt) ?_ (by simp [hb0, hx0]); simp [hb0, hx0]
 refine Yo ?_ (by simp [hb0, hx0] <;> omega); simp [hb0, hx0]
 refine Yl [] rfl Tryz.func64 (iList_v ([(⟨x.fConstructors[k0].fName, []⟩ : TSExpr)] ++ eA [] encT x.fConstructors[k0].fFields)) ?_ (by simp [hb0, hx0]); simp [hb0, hx0]
 iterate 3 (refine Yo ?_ (by simp [hb0, hx0] <;> omega); simp [hb0, hx0])
 exact DL.nil rfl hK
 apply Zs; intros
 iterate 2 (refine Zo ?_ (by simp [hb0, hx0] <;> omega); simp [hb0, hx0])
 exact Zx
 refine ⟨hb0, Wz.to rfl rfl rfl ?_⟩
 have hs := eKF_snoc (P := [(⟨⟨#[100, 97, 116, 97]⟩, []⟩ : TSExpr), (⟨x.fName, []⟩ : TSExpr), woE x.fVars]) (e := ctE) hb0
 simp [eA] at hs
 simp [eA, hs]
 have hkl : k0 = x.fConstructors.length := by omega
 subst hkl
 simp only [eK_full]
 refine W.exit ?_
 apply Zr; intros
 refine Zo ?_; simp
 refine Zl [] rfl Tryz.func64 (iList_v (eA [(⟨⟨#[100, 97, 116, 97]⟩, []⟩ : TSExpr), (⟨x.fName, []⟩ : TSExpr), woE x.fVars] ctE x.fConstructors) _) ?_; simp
 refine Zo ?_; simp
 exact Zx
 refine W.ret (Zq ?_)
 simp [Tryz.f59]
theorem encIn_v (x : TInstance) (hz : x.sz ≤ 134217728) (hio : tForm x.fHead = true ∧ (∀ b ∈ x.fWhere, tForm b.fType = true) ∧ (x.fHasAssoc = true → tForm x.fAssoc = true) ∧ ∀ m ∈ x.fMethods, exF m.fBody = true) (h : HP) : CS cx.P 60 [.d ((x).dd false)] h (.d ((inE x).dd false)) h := by
 have hz2 := x.sz_eq; unfold szs at hz2
 have hbs : ∀ y ∈ x.fWhere, y.sz ≤ 134217728 ∧ tForm y.fType = true := fun y hy => ⟨by have := szL_le TBound.sz hy; omega, hio.2.1 y hy⟩
 refine Ze Tryz.func60 rfl 65 ?_
 apply Zr; intros
 iterate 2 (refine Zo ?_; simp)
 exact Zx
 apply Zr; intros
 iterate 2 (refine Zo ?_; simp)
 exact Zx
 refine W.seq ?_
 apply Zr; intros
 iterate 2 (refine Zo ?_; simp)
 exact Zx
 refine W.join [1, 2] [1, 2] [(3, .d (.sl true .one ((fld x).map dS)))] [] ?_ fun T hT => ?_
 refine Zc rfl ?_ ?_ <;> intro hb0 <;> try simp at hb0
 have ht : fld x = [⟨#[100, 101, 102, 97, 117, 108, 116]⟩] := by unfold fld; rw [if_pos hb0]
 apply Zs; intros
 refine Zm [11] ?_; simp
 iterate 3 (refine Zo ?_; simp)
 exact Zx
 refine Wz.to rfl rfl rfl ?_
 simp [ht]
 have ht : fld x = [] := by unfold fld; rw [if_neg (by simp [hb0])]
 refine W.skip ?_
 refine Wz.to rfl rfl rfl ?_
 simp [ht]
 simp at hT; subst hT
 apply Zr; intros
 iterate 2 (refine Zo ?_; simp)
 exact Zx
 refine W.seq ?_
 apply Zr; intros
 iterate 2 (refine Zo ?_; simp)
 exact Zx
 refine W.join [1, 2, 3] [1, 2] [(4, .d (.sl true sh61 ((asL x).map (TSExpr.dd false))))] [] ?_ fun T hT => ?_
 refine Zc rfl ?_ ?_ <;> intro hb1 <;> try simp at hb1
 have ht : asL x = [encT x.fAssoc] := by unfold asL; rw [if_pos hb1]
 apply Zs; intros
 refine Zm [17] ?_; simp
 iterate 2 (refine Zo ?_; simp)
 refine Zl [] rfl Tryz.func111 (encT_v x.fAssoc (by omega) (hio.2.2.1 hb1) _) ?_; simp
 iterate 3 (refine Zo ?_; simp)
 exact Zx
 refine Wz.to rfl rfl rfl ?_
 simp [ht]
 have ht : asL x = [] := by unfold asL; rw [if_neg (by simp [hb1])]
 refine W.skip ?_
 refine Wz.to rfl rfl rfl ?_
 simp [ht]
 simp at hT; subst hT
 apply Yr rfl; intro K hK
 refine Yl [] rfl Tryz.func56 (iAt_v ⟨#[105, 110, 115, 116]⟩) ?_; simp
 iterate 2 (refine Yo ?_; simp)
 refine Yl [] rfl Tryz.func56 (iAt_v x.fTrait) ?_; simp
 iterate 2 (refine Yo ?_; simp)
 refine Yl [] rfl Tryz.func57 (nList_v x.fVars (by omega)) ?_; simp
 iterate 2 (refine Yo ?_; simp)
 refine Yl [] rfl Tryz.func111 (encT_v x.fHead (by omega) hio.1) ?_; simp
 iterate 2 (refine Yo ?_; simp)
 refine Yl [] rfl Tryz.func113 (wher_v x.fWhere (by omega) hbs) ?_; simp
 refine Yo ?_; simp
 refine Yl [] rfl Tryz.func57 (nList_v (fld x) (by unfold fld; split <;> simp)) ?_; simp
 refine Yo ?_; simp
 refine Yl [] rfl Tryz.func64 (iList_v (asL x)) ?_; simp
 iterate 2 (refine Yo ?_; simp)
 exact DL.nil rfl hK
 refine W.seq ?_
 apply Zr; intros
 iterate 4 (refine Zo ?_; simp)
 exact Zx
 refine W.block ?_
 refine W.loopk [2, 42, 43] [2] (fun k0 => [(44, .d (.lf (.int .i64 (k0 : Int)))), (5, .d (.sl true sh61 ((eK [(⟨⟨#[105, 110, 115, 116]⟩, []⟩ : TSExpr), (⟨x.fTrait, []⟩ : TSExpr), woE x.fVars, encT x.fHead, (⟨⟨#[]⟩, eA [] bdE x.fWhere⟩ : TSExpr), woE (fld x), (⟨⟨#[]⟩, asL x⟩ : TSExpr)] meE x.fMethods k0).map (TSExpr.dd false))))]) (fun _ => []) x.fMethods.length rfl (by simp [eK_zero]) fun k0 hk0 T hT => ?_
 simp at hT; subst hT
 apply Zr; intros
 refine Zo ?_; simp
 exact Zx
 refine Zv rfl ?_ ?_ <;> intro hb2 <;> try simp at hb2
 have hx0 := ixNext hb2 (by omega)
 have hy := szL_le TMethod.sz (gm hb2)
 have hy2 := x.fMethods[k0].sz_eq; unfold szs at hy2
 refine W.skip ?_
 refine Zb ?_
 apply Zr; intros
 refine Zo ?_ (by simp [hb2, hx0] <;> omega); simp [hb2, hx0]
 refine Zm [47] ?_ (by simp [hb2, hx0] <;> omega); simp [hb2, hx0]
 iterate 2 (refine Zo ?_ (by simp [hb2, hx0] <;> omega); simp [hb2, hx0])
 exact Zx
 apply W.regSD rfl; intro K hK
 refine Ym [48] ?_ (by simp [hb2, hx0] <;> omega); simp [hb2, hx0]
 iterate 2 (refine Yo ?_ (by simp [hb2, hx0] <;> omega); simp [hb2, hx0])
 refine Yl [] rfl Tryz.func56 (iAt_v x.fMethods[k0].fName) ?_ (by simp [hb2, hx0]); simp [hb2, hx0]
 iterate 2 (refine Yo ?_ (by simp [hb2, hx0] <;> omega); simp [hb2, hx0])
 refine Yl [] rfl Tryz.func57 (nList_v x.fMethods[k0].fVars (by omega)) ?_ (by simp [hb2, hx0]); simp [hb2, hx0]
 iterate 2 (refine Yo ?_ (by simp [hb2, hx0] <;> omega); simp [hb2, hx0])
 refine Yl [] rfl Tryz.func112 (encX_v x.fMethods[k0].fBody (by omega) (hio.2.2.2 _ (gm hb2))) ?_ (by simp [hb2, hx0]); simp [hb2, hx0]
 refine Yo ?_ (by simp [hb2, hx0] <;> omega); simp [hb2, hx0]
 refine Yl [] rfl Tryz.func64 (iList_v [(⟨x.fMethods[k0].fName, []⟩ : TSExpr), woE x.fMethods[k0].fVars, encX x.fMethods[k0].fBody]) ?_ (by simp [hb2, hx0]); simp [hb2, hx0]
 iterate 3 (refine Yo ?_ (by simp [hb2, hx0] <;> omega); simp [hb2, hx0])
 exact DL.nil rfl hK
 apply Zs; intros
 iterate 2 (refine Zo ?_ (by simp [hb2, hx0] <;> omega); simp [hb2, hx0])
 exact Zx
 refine ⟨hb2, Wz.to rfl rfl rfl ?_⟩
 have hs := eKF_snoc (P := [(⟨⟨#[105, 110, 115, 116]⟩, []⟩ : TSExpr), (⟨x.fTrait, []⟩ : TSExpr), woE x.fVars, encT x.fHead, (⟨⟨#[]⟩, eA [] bdE x.fWhere⟩ : TSExpr), woE (fld x), (⟨⟨#[]⟩, asL x⟩ : TSExpr)]) (e := meE) hb2
 simp at hs
 simp [hs]
 have hkl : k0 = x.fMethods.length := by omega
 subst hkl
 simp only [eK_full]
 refine W.exit ?_
 apply Zr; intros
 refine Zo ?_; simp
 refine Zl [] rfl Tryz.func64 (iList_v (eA [(⟨⟨#[105, 110, 115, 116]⟩, []⟩ : TSExpr), (⟨x.fTrait, []⟩ : TSExpr), woE x.fVars, encT x.fHead, (⟨⟨#[]⟩, eA [] bdE x.fWhere⟩ : TSExpr), woE (fld x), (⟨⟨#[]⟩, asL x⟩ : TSExpr)] meE x.fMethods) _) ?_; simp
 refine Zo ?_; simp
 exact Zx
 refine W.ret (Zq ?_)
 simp [Tryz.f60]
theorem encFn_v (x : TFunction) (hz : x.sz ≤ 134217728) (hio : (∀ p ∈ x.fParams, tForm p.fType = true) ∧ (∀ b ∈ x.fWhere, tForm b.fType = true) ∧ tForm x.fResult = true ∧ exF x.fBody = true) (h : HP) : CS cx.P 61 [.d ((x).dd false)] h (.d ((fnE x).dd false)) h := by
 have hz2 := x.sz_eq; unfold szs at hz2
 have hbs : ∀ y ∈ x.fWhere, y.sz ≤ 134217728 ∧ tForm y.fType = true := fun y hy => ⟨by have := szL_le TBound.sz hy; omega, hio.2.1 y hy⟩
 refine Ze Tryz.func61 rfl 46 ?_
 apply Zr; intros
 iterate 2 (refine Zo ?_; simp)
 exact Zx
 apply Zr; intros
 iterate 2 (refine Zo ?_; simp)
 exact Zx
 refine W.seq ?_
 apply Zr; intros
 iterate 4 (refine Zo ?_; simp)
 exact Zx
 refine W.block ?_
 refine W.loopk [1, 2, 8, 9] [1, 2] (fun k0 => [(10, .d (.lf (.int .i64 (k0 : Int)))), (3, .d (.sl true sh61 ((eK [] prE x.fParams k0).map (TSExpr.dd false))))]) (fun _ => []) x.fParams.length rfl (by simp [eK_zero]) fun k0 hk0 T hT => ?_
 simp at hT; subst hT
 apply Zr; intros
 refine Zo ?_; simp
 exact Zx
 refine Zv rfl ?_ ?_ <;> intro hb0 <;> try simp at hb0
 have hx0 := ixNext hb0 (by omega)
 have hy := szL_le TParam.sz (gm hb0)
 have hy2 := x.fParams[k0].sz_eq
 refine W.skip ?_
 refine Zb ?_
 apply Zr; intros
 refine Zo ?_ (by simp [hb0, hx0] <;> omega); simp [hb0, hx0]
 refine Zm [13] ?_ (by simp [hb0, hx0] <;> omega); simp [hb0, hx0]
 iterate 2 (refine Zo ?_ (by simp [hb0, hx0] <;> omega); simp [hb0, hx0])
 exact Zx
 apply W.regSD rfl; intro K hK
 refine Ym [14] ?_ (by simp [hb0, hx0] <;> omega); simp [hb0, hx0]
 iterate 2 (refine Yo ?_ (by simp [hb0, hx0] <;> omega); simp [hb0, hx0])
 refine Yl [] rfl Tryz.func56 (iAt_v x.fParams[k0].fName) ?_ (by simp [hb0, hx0]); simp [hb0, hx0]
 iterate 2 (refine Yo ?_ (by simp [hb0, hx0] <;> omega); simp [hb0, hx0])
 refine Yl [] rfl Tryz.func111 (encT_v x.fParams[k0].fType (by omega) (hio.1 _ (gm hb0))) ?_ (by simp [hb0, hx0]); simp [hb0, hx0]
 refine Yo ?_ (by simp [hb0, hx0] <;> omega); simp [hb0, hx0]
 refine Yl [] rfl Tryz.func64 (iList_v [(⟨x.fParams[k0].fName, []⟩ : TSExpr), encT x.fParams[k0].fType]) ?_ (by simp [hb0, hx0]); simp [hb0, hx0]
 iterate 3 (refine Yo ?_ (by simp [hb0, hx0] <;> omega); simp [hb0, hx0])
 exact DL.nil rfl hK
 apply Zs; intros
 iterate 2 (refine Zo ?_ (by simp [hb0, hx0] <;> omega); simp [hb0, hx0])
 exact Zx
 refine ⟨hb0, Wz.to rfl rfl rfl ?_⟩
 have hs := eKF_snoc (P := []) (e := prE) hb0
 simp at hs
 simp [hs]
 have hkl : k0 = x.fParams.length := by omega
 subst hkl
 simp only [eK_full]
 refine W.exit ?_
 apply Yr rfl; intro K hK
 refine Yl [] rfl Tryz.func56 (iAt_v ⟨#[102, 110]⟩) ?_; simp
 iterate 2 (refine Yo ?_; simp)
 refine Yl [] rfl Tryz.func56 (iAt_v x.fName) ?_; simp
 iterate 2 (refine Yo ?_; simp)
 refine Yl [] rfl Tryz.func57 (nList_v x.fVars (by omega)) ?_; simp
 iterate 2 (refine Yo ?_; simp)
 refine Yl [] rfl Tryz.func113 (wher_v x.fWhere (by omega) hbs) ?_; simp
 refine Yo ?_; simp
 refine Yl [] rfl Tryz.func64 (iList_v (eA [] prE x.fParams)) ?_; simp
 iterate 2 (refine Yo ?_; simp)
 refine Yl [] rfl Tryz.func111 (encT_v x.fResult (by omega) hio.2.2.1) ?_; simp
 iterate 2 (refine Yo ?_; simp)
 refine Yl [] rfl Tryz.func112 (encX_v x.fBody (by omega) hio.2.2.2) ?_; simp
 refine Yo ?_; simp
 refine Yl [] rfl Tryz.func64 (iList_v [(⟨⟨#[102, 110]⟩, []⟩ : TSExpr), (⟨x.fName, []⟩ : TSExpr), woE x.fVars, (⟨⟨#[]⟩, eA [] bdE x.fWhere⟩ : TSExpr), (⟨⟨#[]⟩, eA [] prE x.fParams⟩ : TSExpr), encT x.fResult, encX x.fBody]) ?_; simp
 refine Yo ?_; simp
 exact DL.nil rfl hK
 refine W.ret (Zq ?_)
 simp [Tryz.f61]
theorem iFree_a (ob : Bool) (x : TExpr) (b o : List ByteArray) (hz : x.sz ≤ 134217728) (hb : b.length + x.sz ≤ 1073741824) (ho : o.length + szX x ≤ 1073741824) (hc : ∀ y ∈ x.fArgs, ∀ b o : List ByteArray, b.length + y.sz ≤ 1073741824 → o.length + szX y ≤ 1073741824 → ∀ h, CS cx.P 262 [.d (.sl true .one (o.map dS)), .d (y.dd false), .d (.sl false .one (b.map dS))] h (.d (.sl true .one ((fvE y b o).map dS))) h) (hc2 : ∀ a ∈ x.fArms, ∀ b o : List ByteArray, b.length + a.fBody.sz ≤ 1073741824 → o.length + szX a.fBody ≤ 1073741824 → ∀ h, CS cx.P 262 [.d (.sl true .one (o.map dS)), .d (a.fBody.dd false), .d (.sl false .one (b.map dS))] h (.d (.sl true .one ((fvE a.fBody b o).map dS))) h) (h : HP) : CS cx.P 262 [.d (.sl true .one (o.map dS)), .d (x.dd false), .d (.sl ob .one (b.map dS))] h (.d (.sl true .one ((fvE x b o).map dS))) h := by
 have hz2 := x.sz_eq; unfold szs at hz2
 refine Ze Tryz.func262 rfl 80 ?_
 apply Zr; intros
 iterate 2 (refine Zo ?_; simp)
 exact Zx
 refine W.seq ?_
 refine W.seq ?_
 refine W.regJ (D := _) [0, 2, 4] [4] [(27, .d (.lf (.bool (decide (x.fKind = 3) && (!hasS b x.fName && !hasS o x.fName)))))] [] rfl (fun _ K hD hK => ?_) fun T hT => ?_
 iterate 4 (refine Zo ?_; simp)
 refine WL.split 14 _ rfl (fun g14 => ?_) fun g14 => ?_ <;> try simp at g14
 simp
 iterate 3 (refine Zg hD rfl rfl ?_; simp)
 refine Zk hD rfl rfl [] rfl Tryz.func214 (Contains_d b x.fName (by omega) _) ?_; simp
 refine Zg hD rfl rfl ?_; simp
 iterate 2 (refine Zo ?_; simp)
 refine WL.split 21 _ rfl (fun g21 => ?_) fun g21 => ?_ <;> try simp at g21
 simp
 iterate 3 (refine Zg hD rfl rfl ?_; simp)
 refine Zk hD rfl rfl [] rfl Tryz.func214 (Contains_d o x.fName (by omega) _) ?_; simp
 refine Zg hD rfl rfl ?_; simp
 refine Zo ?_; simp
 refine WL.nil (hK _ (Wz.to rfl rfl rfl ?_))
 simp [g14, g21]
 simp
 iterate 5 (refine Zn hD rfl rfl ?_; simp)
 refine Zo ?_; simp
 refine WL.nil (hK _ (Wz.to rfl rfl rfl ?_))
 simp [g14, g21]
 simp
 iterate 5 (refine Zn hD rfl rfl ?_; simp)
 iterate 2 (refine Zo ?_; simp)
 iterate 5 (refine Zn hD rfl rfl ?_; simp)
 refine Zo ?_; simp
 refine WL.nil (hK _ (Wz.to rfl rfl rfl ?_))
 simp [g14]
 simp at hT; subst hT
 refine W.join [2, 4] [4] [(0, .d (.sl true .one ((fv0 b o x.fKind x.fName).map dS)))] [] ?_ fun T hT => ?_
 refine Zc rfl ?_ ?_ <;> intro hb0 <;> try simp at hb0
 have ht : fv0 b o x.fKind x.fName = o ++ [x.fName] := by unfold fv0; rw [if_pos (by simpa using hb0)]
 apply Zs; intros
 refine Zm [28] ?_; simp
 iterate 5 (refine Zo ?_; simp)
 exact Zx
 refine Wz.to rfl rfl rfl ?_
 simp [ht]
 have ht : fv0 b o x.fKind x.fName = o := by unfold fv0; rw [if_neg (by simpa using hb0)]
 refine W.skip ?_
 refine Wz.to rfl rfl rfl ?_
 simp [ht]
 simp at hT; subst hT
 refine W.seq ?_
 apply Zr; intros
 iterate 4 (refine Zo ?_; simp)
 exact Zx
 refine W.block ?_
 refine W.loopk [2, 4, 34, 35] [4] (fun k0 => [(36, .d (.lf (.int .i64 (k0 : Int)))), (0, .d (.sl true .one ((faK x b o k0).map dS)))]) (fun _ => []) x.fArgs.length rfl (by simp [faK_zero]) fun k0 hk0 T hT => ?_
 simp at hT; subst hT
 apply Zr; intros
 refine Zo ?_; simp
 exact Zx
 refine Zv rfl ?_ ?_ <;> intro hb1 <;> try simp at hb1
 have hx := ixNext hb1 (by omega)
 have hl := faK_len (b := b) (o := o) hb1
 have hy := szL_le TExpr.sz (gm hb1)
 have hbl : (bIn x b k0).length ≤ b.length + 1 := by unfold bIn; split <;> simp
 refine W.skip ?_
 refine Zb ?_
 apply Zr; intros
 iterate 2 (refine Zo ?_ (by simp [hb1, hx] <;> omega); simp [hb1, hx])
 refine Zm [40] ?_ (by simp [hb1, hx] <;> omega); simp [hb1, hx]
 iterate 3 (refine Zo ?_ (by simp [hb1, hx] <;> omega); simp [hb1, hx])
 exact Zx
 refine W.seq ?_
 refine W.regJ (D := _) [0, 2, 4, 8, 34, 35, 36] [4, 8] [(47, .d (.lf (.bool (decide (x.fKind = 8) && decide (k0 = 1)))))] [] rfl (fun _ K hD hK => ?_) fun T hT => ?_
 iterate 4 (refine Zo ?_ (by simp [hb1, hx] <;> omega); simp [hb1, hx])
 refine WL.split 44 _ rfl (fun g44 => ?_) fun g44 => ?_ <;> try simp at g44
 simp [hb1, hx]
 iterate 2 (refine Zg hD rfl rfl ?_ (by simp [hb1, hx] <;> omega); simp [hb1, hx])
 refine Zo ?_ (by simp [hb1, hx] <;> omega); simp [hb1, hx]
 refine WL.nil (hK _ (Wz.to rfl rfl rfl ?_))
 simp [g44] <;> omega
 simp [hb1, hx]
 iterate 2 (refine Zn hD rfl rfl ?_; simp [hb1, hx])
 refine Zo ?_ (by simp [hb1, hx] <;> omega); simp [hb1, hx]
 refine WL.nil (hK _ (Wz.to rfl rfl rfl ?_))
 simp [g44] <;> omega
 simp at hT; subst hT
 refine Zc rfl ?_ ?_ <;> intro hb2 <;> try simp at hb2
 have hbi : bIn x b k0 = b ++ [x.fName] := by unfold bIn; rw [if_pos (by simpa using hb2)]
 apply W.regSD rfl; intro K hK
 refine Ym [48] ?_ (by simp [hb1, hx, hbi] <;> omega); simp [hb1, hx, hbi]
 iterate 2 (refine Yo ?_ (by simp [hb1, hx, hbi] <;> omega); simp [hb1, hx, hbi])
 refine Yl [] rfl Tryz.func282 (CloneStr_d b (by omega)) ?_ (by simp [hb1, hx, hbi]); simp [hb1, hx, hbi]
 iterate 4 (refine Yo ?_ (by simp [hb1, hx, hbi] <;> omega); simp [hb1, hx, hbi])
 refine Yl [48] rfl Tryz.func262 (hc x.fArgs[k0] (gm hb1) (bIn x b k0) (faK x b o k0) (by omega) (by omega)) ?_ (by simp [hb1, hx, hbi]); simp [hb1, hx, hbi]
 refine Yo ?_ (by simp [hb1, hx, hbi] <;> omega); simp [hb1, hx, hbi]
 exact DL.nil rfl hK
 apply Zs; intros
 iterate 2 (refine Zo ?_ (by simp [hb1, hx, hbi] <;> omega); simp [hb1, hx, hbi])
 exact Zx
 refine ⟨hb1, Wz.to rfl rfl rfl ?_⟩
 have hs := faK_step (b := b) (o := o) hb1
 rw [hbi] at hs
 simp [hs]
 have hbi : bIn x b k0 = b := by unfold bIn; rw [if_neg (by simpa using hb2)]
 apply Zs; intros
 refine Zm [57] ?_ (by simp [hb1, hx, hbi] <;> omega); simp [hb1, hx, hbi]
 iterate 2 (refine Zo ?_ (by simp [hb1, hx, hbi] <;> omega); simp [hb1, hx, hbi])
 refine Zl [57] rfl Tryz.func262 (hc x.fArgs[k0] (gm hb1) (bIn x b k0) (faK x b o k0) (by omega) (by omega) _) ?_ (by simp [hb1, hx, hbi]); simp [hb1, hx, hbi]
 refine Zo ?_ (by simp [hb1, hx, hbi] <;> omega); simp [hb1, hx, hbi]
 exact Zx
 apply Zs; intros
 iterate 2 (refine Zo ?_ (by simp [hb1, hx, hbi] <;> omega); simp [hb1, hx, hbi])
 exact Zx
 refine ⟨hb1, Wz.to rfl rfl rfl ?_⟩
 have hs := faK_step (b := b) (o := o) hb1
 rw [hbi] at hs
 simp [hs]
 have hkl : k0 = x.fArgs.length := by omega
 subst hkl
 refine W.exit ?_
 refine W.seq ?_
 apply Zr; intros
 iterate 4 (refine Zo ?_; simp)
 exact Zx
 refine W.block ?_
 refine W.loopk [2, 63, 64] [] (fun k1 => [(65, .d (.lf (.int .i64 (k1 : Int)))), (0, .d (.sl true .one ((frK x b o k1).map dS)))]) (fun _ => []) x.fArms.length rfl (by simp [frK_zero]) fun k1 hk1 T hT => ?_
 simp at hT; subst hT
 apply Zr; intros
 refine Zo ?_; simp
 exact Zx
 refine Zv rfl ?_ ?_ <;> intro hb3 <;> try simp at hb3
 have hx := ixNext hb3 (by omega)
 have hl := frK_len (b := b) (o := o) hb3
 have hy := szL_le TArm.sz (gm hb3)
 have hy2 := x.fArms[k1].sz_eq; unfold szs at hy2
 refine W.skip ?_
 refine Zb ?_
 apply Zr; intros
 refine Zo ?_ (by simp [hb3, hx] <;> omega); simp [hb3, hx]
 refine Zm [68] ?_ (by simp [hb3, hx] <;> omega); simp [hb3, hx]
 iterate 2 (refine Zo ?_ (by simp [hb3, hx] <;> omega); simp [hb3, hx])
 exact Zx
 apply W.regSD rfl; intro K hK
 refine Ym [69] ?_ (by simp [hb3, hx] <;> omega); simp [hb3, hx]
 iterate 6 (refine Yo ?_ (by simp [hb3, hx] <;> omega); simp [hb3, hx])
 refine Yl [] rfl Tryz.func283 (ConcatStr_d [b, x.fArms[k1].fVars] (by simp) (by simp [lenK]; omega)) ?_ (by simp [hb3, hx]); simp [hb3, hx]
 refine Yl [69] rfl Tryz.func262 (hc2 x.fArms[k1] (gm hb3) (b ++ x.fArms[k1].fVars) (frK x b o k1) (by simp; omega) (by omega)) ?_ (by simp [hb3, hx]); simp [hb3, hx]
 refine Yo ?_ (by simp [hb3, hx] <;> omega); simp [hb3, hx]
 exact DL.nil rfl hK
 apply Zs; intros
 iterate 2 (refine Zo ?_ (by simp [hb3, hx] <;> omega); simp [hb3, hx])
 exact Zx
 refine ⟨hb3, Wz.to rfl rfl rfl ?_⟩
 have hs := frK_step (b := b) (o := o) hb3
 simp [hs]
 have hkl : k1 = x.fArms.length := by omega
 subst hkl
 have hres := frK_full x b o
 refine W.exit ?_
 apply Zr; intros
 refine Zm [79] ?_; simp
 refine Zo ?_; simp
 exact Zx
 refine W.ret (Zq ?_)
 simp [Tryz.f262, hres]
theorem iFree_d (x : TExpr) (b o : List ByteArray) (hz : x.sz ≤ 134217728) (hb : b.length + x.sz ≤ 1073741824) (ho : o.length + szX x ≤ 1073741824) (h : HP) : CS cx.P 262 [.d (.sl true .one (o.map dS)), .d (x.dd false), .d (.sl false .one (b.map dS))] h (.d (.sl true .one ((fvE x b o).map dS))) h := iFree_a false x b o hz hb ho (fun y hy b o hb ho h => iFree_d y b o (by have h1 := szL_le TExpr.sz hy; have h2 := x.sz_eq; unfold szs at h2; omega) hb ho h) (fun a ha b o hb ho h => iFree_d a.fBody b o (by have h1 := szL_le TArm.sz ha; have h2 := x.sz_eq; have h3 := a.sz_eq; unfold szs at h2; omega) hb ho h) h
termination_by SizeOf.sizeOf x
decreasing_by
 ·have := List.sizeOf_lt_of_mem hy; have := x.lt_fArgs; omega
 ·have := List.sizeOf_lt_of_mem ha; have := x.lt_fArms; have := a.lt_fBody; omega
theorem iFv_d (x : TExpr) (hz : x.sz ≤ 134217728) (h : HP) : CS cx.P 228 [.d (x.dd false)] h (.d (.sl true .one ((fv x).map dS))) h := by
 have hsx := szX_le x
 refine Ze Tryz.func228 rfl 6 ?_
 apply Zr; intros
 iterate 2 (refine Zo ?_; simp)
 exact Zx
 apply Zr; intros
 iterate 2 (refine Zo ?_; simp)
 refine Zl [3] rfl Tryz.func262 (iFree_a true x [] [] hz (by simp; omega) (by simp; omega) (fun y hy b o hb ho h => iFree_d y b o (by have h1 := szL_le TExpr.sz hy; have h2 := x.sz_eq; unfold szs at h2; omega) hb ho h) (fun a ha b o hb ho h => iFree_d a.fBody b o (by have h1 := szL_le TArm.sz ha; have h2 := x.sz_eq; have h3 := a.sz_eq; unfold szs at h2; omega) hb ho h) _) ?_; simp
 refine Zo ?_; simp
 exact Zx
 refine W.ret (Zq ?_)
 simp [Tryz.f228, fv]
theorem iBody_d (v : List ByteArray) (hm : v.length ≤ 134217728) (hv : ∀ s ∈ v, s.size ≤ 134217728) (x : TExpr) (hz : x.sz ≤ 134217728) (h : HP) : CS cx.P 170 [.d (.sl false .one (v.map dS)), .d (x.dd false)] h (.d (.lf (.bool (nms v && dst v && body x v)))) h := by
 have hlen : (fv x).length ≤ 1 + x.sz := by have h1 := fvE_len x [] []; have h2 := szX_le x; unfold fv; simp at h1; omega
 refine Ze Tryz.func170 rfl 17 ?_
 apply Zr; intros
 iterate 2 (refine Zo ?_; simp)
 exact Zx
 refine W.seq ?_
 refine W.regJ0 (D := _) rfl fun _ K hD hK => ?_
 refine Zo ?_; simp
 refine Zl [] rfl Tryz.func102 (areNames_d v hv (by omega) _) ?_; simp
 refine Zo ?_; simp
 refine WL.split 7 _ rfl (fun g7 => ?_) fun g7 => ?_ <;> try simp at g7
 simp
 refine Zg hD rfl rfl ?_; simp
 refine Zk hD rfl rfl [] rfl Tryz.func227 (iValidX_d x hz _) ?_; simp
 iterate 2 (refine Zo ?_; simp)
 refine WL.split 11 _ rfl (fun g11 => ?_) fun g11 => ?_ <;> try simp at g11
 simp
 refine Zg hD rfl rfl ?_; simp
 refine Zk hD rfl rfl [] rfl Tryz.func228 (iFv_d x hz _) ?_; simp
 refine Zg hD rfl rfl ?_; simp
 refine Zk hD rfl rfl [] rfl Tryz.func166 (areAmong_d (fv x) v (by omega) (by omega) _) ?_; simp
 iterate 2 (refine Zo ?_; simp)
 refine WL.nil (hK _ ?_)
 refine W.ret (Zq ?_)
 simp [Tryz.f170, body, g7, g11] <;> grind
 simp
 iterate 4 (refine Zn hD rfl rfl ?_; simp)
 iterate 2 (refine Zo ?_; simp)
 refine WL.nil (hK _ ?_)
 refine W.ret (Zq ?_)
 simp [Tryz.f170, body, g7, g11] <;> grind
 simp
 iterate 2 (refine Zn hD rfl rfl ?_; simp)
 iterate 2 (refine Zo ?_; simp)
 iterate 4 (refine Zn hD rfl rfl ?_; simp)
 iterate 2 (refine Zo ?_; simp)
 refine WL.nil (hK _ ?_)
 refine W.ret (Zq ?_)
 simp [Tryz.f170, body, g7] <;> grind
end Go.Proofs.YtkadbimpaplnmaaGreatDoor
