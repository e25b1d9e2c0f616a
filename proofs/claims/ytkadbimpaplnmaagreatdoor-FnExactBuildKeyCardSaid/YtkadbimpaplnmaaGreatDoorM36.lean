/- Walks by the Den rules. No condition but sizes. -/
import Derived.Test.YtkadbimpaplnmaaGreatDoorM16
import Derived.Test.YtkadbimpaplnmaaGreatDoorM35
namespace Go.Proofs.YtkadbimpaplnmaaGreatDoor
open Go.RowKit
set_option maxRecDepth 10000
set_option linter.unusedSimpArgs false
set_option maxHeartbeats 4000000
theorem sTraitX_d (x : TTrait) (hz : x.sz ≤ 1048576) (hok : traitOk x = true) (h : HP) : CS cx.P 40 [.d (x.dd false)] h (.d ((ifE true (trE x)).dd true)) h := by
 have hz2 := x.sz_eq; unfold szs at hz2
 have hts := trE_sz hok
 have hf1 : (fl1 x).length ≤ 1 := by unfold fl1; split <;> simp
 refine Ze Tryz.func40 rfl 79 ?_
 apply Zr; intros
 iterate 2 (refine Zo ?_; simp)
 exact Zx
 refine W.seq ?_
 apply Zr; intros
 refine Zo ?_; simp
 refine Zl [] rfl Tryz.func84 (sTrait_d x (by omega) _) ?_; simp
 refine Zo ?_; simp
 exact Zx
 refine Zc rfl ?_ ?_ <;> intro hb0 <;> try simp [hok] at hb0
 refine W.skip ?_
 apply Zr; intros
 iterate 2 (refine Zo ?_; simp)
 exact Zx
 refine W.seq ?_
 apply Zr; intros
 iterate 2 (refine Zo ?_; simp)
 exact Zx
 refine W.join [1, 2] [1, 2] [(3, .d (.sl true .one ((fl1 x).map dS)))] [] ?_ fun T hT => ?_
 refine Zc rfl ?_ ?_ <;> intro hb1 <;> try simp at hb1
 have ht : fl1 x = [⟨#[97, 117, 116, 111]⟩] := by unfold fl1; rw [if_pos hb1]
 apply Zs; intros
 refine Zm [15] ?_; simp
 iterate 3 (refine Zo ?_; simp)
 exact Zx
 refine Wz.to rfl rfl rfl ?_
 simp [ht]
 have ht : fl1 x = [] := by unfold fl1; rw [if_neg (by simp [hb1])]
 refine W.skip ?_
 refine Wz.to rfl rfl rfl ?_
 simp [ht]
 simp at hT; subst hT
 refine W.seq ?_
 apply Zr; intros
 iterate 2 (refine Zo ?_; simp)
 exact Zx
 refine W.join [1, 2] [1, 2] [(3, .d (.sl true .one ((fl2 x).map dS)))] [] ?_ fun T hT => ?_
 refine Zc rfl ?_ ?_ <;> intro hb2 <;> try simp at hb2
 have ht2 : fl2 x = fl1 x ++ [⟨#[97, 115, 115, 111, 99]⟩] := by unfold fl2; rw [if_pos hb2]
 apply Zs; intros
 refine Zm [20] ?_; simp
 iterate 3 (refine Zo ?_; simp)
 exact Zx
 refine Wz.to rfl rfl rfl ?_
 simp [ht2]
 have ht2 : fl2 x = fl1 x := by unfold fl2; rw [if_neg (by simp [hb2]), List.append_nil]
 refine W.skip ?_
 refine Wz.to rfl rfl rfl ?_
 simp [ht2]
 simp at hT; subst hT
 apply Yr rfl; intro K hK
 refine Yl [] rfl Tryz.func38 (sAt_d ⟨#[116, 114, 97, 105, 116]⟩) ?_; simp
 iterate 2 (refine Yo ?_; simp)
 refine Yl [] rfl Tryz.func38 (sAt_d x.fName) ?_; simp
 iterate 2 (refine Yo ?_; simp)
 refine Yl [] rfl Tryz.func39 (l14Words_d x.fSupertraits (by omega)) ?_; simp
 refine Yo ?_; simp
 refine Yl [] rfl Tryz.func39 (l14Words_d (fl2 x) (by unfold fl2 fl1; split <;> split <;> simp)) ?_; simp
 refine Yo ?_; simp
 refine Yl [32] rfl Tryz.func37 (sList_d [(⟨⟨#[116, 114, 97, 105, 116]⟩, []⟩ : TSExpr), (⟨x.fName, []⟩ : TSExpr), woE x.fSupertraits, woE (fl2 x)] (by simp)) ?_; simp
 iterate 2 (refine Yo ?_; simp)
 exact DL.nil rfl hK
 refine W.seq ?_
 apply Zr; intros
 refine Zo ?_; simp
 exact Zx
 refine W.block ?_
 refine W.loopk [1, 2, 4] [1, 2] (fun k0 => [(5, .d (.lf (.int .i64 (k0 : Int))))]) (fun k0 => [(4, .d (.st [.lf (.string ⟨#[]⟩), .sl true sh61 ((eK [(⟨⟨#[116, 114, 97, 105, 116]⟩, []⟩ : TSExpr), (⟨x.fName, []⟩ : TSExpr), woE x.fSupertraits, woE (fl2 x)] sigE x.fSignatures k0).map (TSExpr.dd true))]))]) x.fSignatures.length rfl (by simp [eK_zero]) fun k0 hk0 T hT => ?_
 simp at hT; subst hT
 refine W.seq ?_
 apply Zr; intros
 iterate 5 (refine Zo ?_; simp)
 exact Zx
 refine Zc rfl ?_ ?_ <;> intro hb3 <;> try simp at hb3
 have hx0 := ixNext hb3 (by omega)
 have hy := szL_le TSignature.sz (gm hb3)
 have hy2 := x.fSignatures[k0].sz_eq; unfold szs at hy2
 have hso := trait_ok hok x.fSignatures[k0] (gm hb3)
 have hsg := sig_ok hso
 have hps : ∀ y ∈ x.fSignatures[k0].fParams, y.sz ≤ 134217728 ∧ tForm y = true := fun y hy => ⟨by have := szL_le TType.sz hy; omega, hsg.1 y hy⟩
 refine W.skip ?_
 refine Zb ?_
 apply Zr; intros
 iterate 4 (refine Zo ?_ (by simp [hb3, hx0] <;> omega); simp [hb3, hx0])
 refine Zm [45] ?_ (by simp [hb3, hx0] <;> omega); simp [hb3, hx0]
 iterate 2 (refine Zo ?_ (by simp [hb3, hx0] <;> omega); simp [hb3, hx0])
 exact Zx
 apply Yr rfl; intro K hK
 iterate 2 (refine Yo ?_ (by simp [hb3, hx0] <;> omega); simp [hb3, hx0])
 refine Yl [] rfl Tryz.func38 (sAt_d x.fSignatures[k0].fName) ?_ (by simp [hb3, hx0]); simp [hb3, hx0]
 iterate 2 (refine Yo ?_ (by simp [hb3, hx0] <;> omega); simp [hb3, hx0])
 refine Yl [] rfl Tryz.func85 (l14Types_d x.fSignatures[k0].fParams (by omega) hps) ?_ (by simp [hb3, hx0]); simp [hb3, hx0]
 iterate 3 (refine Yo ?_ (by simp [hb3, hx0] <;> omega); simp [hb3, hx0])
 refine Yl [] rfl Tryz.func86 (l5Sx_d x.fSignatures[k0].fResult (by omega) hsg.2.1) ?_ (by simp [hb3, hx0]); simp [hb3, hx0]
 refine Yo ?_ (by simp [hb3, hx0] <;> omega); simp [hb3, hx0]
 refine Yl [56] rfl Tryz.func37 (sList_d [(⟨x.fSignatures[k0].fName, []⟩ : TSExpr), (⟨⟨#[]⟩, (eA [] encT x.fSignatures[k0].fParams)⟩ : TSExpr), encT x.fSignatures[k0].fResult] (by simp)) ?_ (by simp [hb3, hx0]); simp [hb3, hx0]
 iterate 2 (refine Yo ?_ (by simp [hb3, hx0] <;> omega); simp [hb3, hx0])
 exact DL.nil rfl hK
 refine W.seq ?_
 apply Zr; intros
 iterate 2 (refine Zo ?_ (by simp [hb3, hx0] <;> omega); simp [hb3, hx0])
 exact Zx
 refine W.join [1, 2, 4, 5, 7] [1, 2, 4] [] [(7, .d (.st [.lf (.string ⟨#[]⟩), .sl true sh61 ((sgL x.fSignatures[k0]).map (TSExpr.dd true))]))] ?_ fun T hT => ?_
 refine Zc rfl ?_ ?_ <;> intro hb4 <;> try simp at hb4
 have ht : sgL x.fSignatures[k0] = [(⟨x.fSignatures[k0].fName, []⟩ : TSExpr), (⟨⟨#[]⟩, (eA [] encT x.fSignatures[k0].fParams)⟩ : TSExpr), encT x.fSignatures[k0].fResult] ++ [woE x.fSignatures[k0].fVars, encX x.fSignatures[k0].fBody] := by unfold sgL; rw [if_pos hb4]
 apply W.regSD rfl; intro K hK
 refine Yo ?_ (by simp [hb3, hx0] <;> omega); simp [hb3, hx0]
 refine Ym [61] ?_ (by simp [hb3, hx0] <;> omega); simp [hb3, hx0]
 iterate 2 (refine Yo ?_ (by simp [hb3, hx0] <;> omega); simp [hb3, hx0])
 refine Yl [] rfl Tryz.func39 (l14Words_d x.fSignatures[k0].fVars (by omega)) ?_ (by simp [hb3, hx0]); simp [hb3, hx0]
 iterate 2 (refine Yo ?_ (by simp [hb3, hx0] <;> omega); simp [hb3, hx0])
 refine Yl [] rfl Tryz.func87 (l12Sx_d x.fSignatures[k0].fBody (by omega) (hsg.2.2 hb4)) ?_ (by simp [hb3, hx0]); simp [hb3, hx0]
 iterate 4 (refine Yo ?_ (by simp [hb3, hx0] <;> omega); simp [hb3, hx0])
 exact DL.nil rfl hK
 refine Wz.to rfl rfl rfl ?_
 simp [ht]
 have ht : sgL x.fSignatures[k0] = [(⟨x.fSignatures[k0].fName, []⟩ : TSExpr), (⟨⟨#[]⟩, (eA [] encT x.fSignatures[k0].fParams)⟩ : TSExpr), encT x.fSignatures[k0].fResult] := by unfold sgL; rw [if_neg (by simp [hb4]), List.append_nil]
 refine W.skip ?_
 refine Wz.to rfl rfl rfl ?_
 simp [ht]
 simp at hT; subst hT
 apply Zs; intros
 refine Zo ?_ (by simp [hb3, hx0] <;> omega); simp [hb3, hx0]
 refine Zm [72] ?_ (by simp [hb3, hx0] <;> omega); simp [hb3, hx0]
 refine Zm [73] ?_ (by simp [hb3, hx0] <;> omega); simp [hb3, hx0]
 iterate 4 (refine Zo ?_ (by simp [hb3, hx0] <;> omega); simp [hb3, hx0])
 exact Zx
 apply Zs; intros
 iterate 3 (refine Zo ?_ (by simp [hb3, hx0] <;> omega); simp [hb3, hx0])
 exact Zx
 refine ⟨hb3, Wz.to rfl rfl rfl ?_⟩
 have hs := eK_snoc (P := [(⟨⟨#[116, 114, 97, 105, 116]⟩, []⟩ : TSExpr), (⟨x.fName, []⟩ : TSExpr), woE x.fSupertraits, woE (fl2 x)]) (e := sigE) hb3
 simp at hs
 simp [hs]
 have hkl : k0 = x.fSignatures.length := by omega
 subst hkl
 simp only [eK_full]
 refine W.exit ?_
 apply Zr; intros
 refine Zm [77] ?_; simp
 refine Zl [77] rfl Tryz.func44 (l14If_d true (trE x) (by omega) _) ?_; simp
 refine Zo ?_; simp
 exact Zx
 refine W.ret (Zq ?_)
 simp [Tryz.f40]
theorem sDataX_d (x : TDataType) (hz : x.sz ≤ 1048576) (hok : dataOk x = true) (h : HP) : CS cx.P 41 [.d (x.dd false)] h (.d ((ifE true (daE x)).dd true)) h := by
 have hz2 := x.sz_eq; unfold szs at hz2
 have hts := daE_sz x
 refine Ze Tryz.func41 rfl 47 ?_
 apply Zr; intros
 iterate 2 (refine Zo ?_ (by simp [hok] <;> omega); simp [hok])
 exact Zx
 apply Yr rfl; intro K hK
 refine Yl [] rfl Tryz.func38 (sAt_d ⟨#[100, 97, 116, 97]⟩) ?_ (by simp [hok]); simp [hok]
 iterate 2 (refine Yo ?_ (by simp [hok] <;> omega); simp [hok])
 refine Yl [] rfl Tryz.func38 (sAt_d x.fName) ?_ (by simp [hok]); simp [hok]
 iterate 2 (refine Yo ?_ (by simp [hok] <;> omega); simp [hok])
 refine Yl [] rfl Tryz.func39 (l14Words_d x.fVars (by omega)) ?_ (by simp [hok]); simp [hok]
 refine Yo ?_ (by simp [hok] <;> omega); simp [hok]
 refine Yl [12] rfl Tryz.func37 (sList_d [(⟨⟨#[100, 97, 116, 97]⟩, []⟩ : TSExpr), (⟨x.fName, []⟩ : TSExpr), woE x.fVars] (by simp)) ?_ (by simp [hok]); simp [hok]
 iterate 2 (refine Yo ?_ (by simp [hok] <;> omega); simp [hok])
 exact DL.nil rfl hK
 refine W.seq ?_
 apply Zr; intros
 refine Zo ?_ (by simp [hok] <;> omega); simp [hok]
 exact Zx
 refine W.block ?_
 refine W.loopk [1, 2, 3] [1, 2] (fun k0 => [(4, .d (.lf (.int .i64 (k0 : Int))))]) (fun k0 => [(3, .d (.st [.lf (.string ⟨#[]⟩), .sl true sh61 ((eK [(⟨⟨#[100, 97, 116, 97]⟩, []⟩ : TSExpr), (⟨x.fName, []⟩ : TSExpr), woE x.fVars] ctE x.fConstructors k0).map (TSExpr.dd true))]))]) x.fConstructors.length rfl (by simp [eK_zero]) fun k0 hk0 T hT => ?_
 simp at hT; subst hT
 refine W.seq ?_
 apply Zr; intros
 iterate 5 (refine Zo ?_ (by simp [hok] <;> omega); simp [hok])
 exact Zx
 refine Zc rfl ?_ ?_ <;> intro hb0 <;> try simp at hb0
 have hx0 := ixNext hb0 (by omega)
 have hy := szL_le TConstructor.sz (gm hb0)
 have hy2 := x.fConstructors[k0].sz_eq; unfold szs at hy2
 have hps : ∀ y ∈ x.fConstructors[k0].fFields, y.sz ≤ 134217728 ∧ tForm y = true := fun y hy => ⟨by have := szL_le TType.sz hy; omega, data_ok hok x.fConstructors[k0] (gm hb0) y hy⟩
 refine W.skip ?_
 refine Zb ?_
 apply W.regSD rfl; intro K hK
 refine Yo ?_ (by simp [hok, hb0, hx0] <;> omega); simp [hok, hb0, hx0]
 refine Ym [22] ?_ (by simp [hok, hb0, hx0] <;> omega); simp [hok, hb0, hx0]
 iterate 6 (refine Yo ?_ (by simp [hok, hb0, hx0] <;> omega); simp [hok, hb0, hx0])
 refine Yl [] rfl Tryz.func38 (sAt_d x.fConstructors[k0].fName) ?_ (by simp [hok, hb0, hx0]); simp [hok, hb0, hx0]
 iterate 7 (refine Yo ?_ (by simp [hok, hb0, hx0] <;> omega); simp [hok, hb0, hx0])
 refine Yl [] rfl Tryz.func85 (l14Types_d x.fConstructors[k0].fFields (by omega) hps) ?_ (by simp [hok, hb0, hx0]); simp [hok, hb0, hx0]
 iterate 6 (refine Yo ?_ (by simp [hok, hb0, hx0] <;> omega); simp [hok, hb0, hx0])
 exact DL.nil rfl hK
 apply Zs; intros
 iterate 3 (refine Zo ?_ (by simp [hok, hb0, hx0] <;> omega); simp [hok, hb0, hx0])
 exact Zx
 refine ⟨hb0, Wz.to rfl rfl rfl ?_⟩
 have hs := eK_snoc (P := [(⟨⟨#[100, 97, 116, 97]⟩, []⟩ : TSExpr), (⟨x.fName, []⟩ : TSExpr), woE x.fVars]) (e := ctE) hb0
 simp at hs
 simp [hs]
 have hkl : k0 = x.fConstructors.length := by omega
 subst hkl
 simp only [eK_full]
 refine W.exit ?_
 apply Yr rfl; intro K hK
 refine Yo ?_ (by simp [hok] <;> omega); simp [hok]
 refine Yl [] rfl Tryz.func88 (sData_d x (by omega)) ?_ (by simp [hok]); simp [hok]
 refine Ym [45] ?_ (by simp [hok] <;> omega); simp [hok]
 refine Yl [45] rfl Tryz.func44 (l14If_d true (daE x) (by omega)) ?_ (by simp [hok]); simp [hok]
 refine Yo ?_ (by simp [hok] <;> omega); simp [hok]
 exact DL.nil rfl hK
 refine W.ret (Zq ?_)
 simp [Tryz.f41]
theorem sInstX_d (x : TInstance) (hz : x.sz ≤ 1048576) (hok : instOk x = true) (h : HP) : CS cx.P 42 [.d (x.dd false)] h (.d ((ifE true (inE x)).dd true)) h := by
 have hz2 := x.sz_eq; unfold szs at hz2
 have hts := inE_sz hok
 have hio := inst_ok hok
 have hbs : ∀ y ∈ x.fWhere, y.sz ≤ 134217728 ∧ tForm y.fType = true := fun y hy => ⟨by have := szL_le TBound.sz hy; omega, hio.2.1 y hy⟩
 refine Ze Tryz.func42 rfl 74 ?_
 apply Zr; intros
 iterate 2 (refine Zo ?_; simp)
 exact Zx
 refine W.seq ?_
 apply Zr; intros
 refine Zo ?_; simp
 refine Zl [] rfl Tryz.func89 (sInst_d x (by omega) _) ?_; simp
 refine Zo ?_; simp
 exact Zx
 refine Zc rfl ?_ ?_ <;> intro hb0 <;> try simp [hok] at hb0
 refine W.skip ?_
 apply Zr; intros
 iterate 2 (refine Zo ?_; simp)
 exact Zx
 refine W.seq ?_
 apply Zr; intros
 iterate 2 (refine Zo ?_; simp)
 exact Zx
 refine W.join [1, 2] [1, 2] [(3, .d (.sl true .one ((fld x).map dS)))] [] ?_ fun T hT => ?_
 refine Zc rfl ?_ ?_ <;> intro hb1 <;> try simp at hb1
 have ht : fld x = [⟨#[100, 101, 102, 97, 117, 108, 116]⟩] := by unfold fld; rw [if_pos hb1]
 apply Zs; intros
 refine Zm [15] ?_; simp
 iterate 3 (refine Zo ?_; simp)
 exact Zx
 refine Wz.to rfl rfl rfl ?_
 simp [ht]
 have ht : fld x = [] := by unfold fld; rw [if_neg (by simp [hb1])]
 refine W.skip ?_
 refine Wz.to rfl rfl rfl ?_
 simp [ht]
 simp at hT; subst hT
 apply Zr; intros
 iterate 3 (refine Zo ?_; simp)
 exact Zx
 refine W.seq ?_
 apply Zr; intros
 iterate 2 (refine Zo ?_; simp)
 exact Zx
 refine W.join [1, 2, 3, 4] [1, 2] [] [(4, .d (.st [.lf (.string ⟨#[]⟩), .sl true sh61 ((asL x).map (TSExpr.dd true))]))] ?_ fun T hT => ?_
 refine Zc rfl ?_ ?_ <;> intro hb2 <;> try simp at hb2
 have ht : asL x = [encT x.fAssoc] := by unfold asL; rw [if_pos hb2]
 apply Zs; intros
 iterate 2 (refine Zo ?_; simp)
 refine Zl [] rfl Tryz.func86 (l5Sx_d x.fAssoc (by omega) (hio.2.2.1 hb2) _) ?_; simp
 refine Zo ?_; simp
 refine Zl [24] rfl Tryz.func37 (sList_d [encT x.fAssoc] (by simp) _) ?_; simp
 refine Zo ?_; simp
 exact Zx
 refine Wz.to rfl rfl rfl ?_
 simp [ht]
 have ht : asL x = [] := by unfold asL; rw [if_neg (by simp [hb2])]
 refine W.skip ?_
 refine Wz.to rfl rfl rfl ?_
 simp [ht]
 simp at hT; subst hT
 apply Yr rfl; intro K hK
 refine Yl [] rfl Tryz.func38 (sAt_d ⟨#[105, 110, 115, 116]⟩) ?_; simp
 iterate 2 (refine Yo ?_; simp)
 refine Yl [] rfl Tryz.func38 (sAt_d x.fTrait) ?_; simp
 iterate 2 (refine Yo ?_; simp)
 refine Yl [] rfl Tryz.func39 (l14Words_d x.fVars (by omega)) ?_; simp
 iterate 2 (refine Yo ?_; simp)
 refine Yl [] rfl Tryz.func86 (l5Sx_d x.fHead (by omega) hio.1) ?_; simp
 iterate 2 (refine Yo ?_; simp)
 refine Yl [] rfl Tryz.func90 (l14Where_d x.fWhere (by omega) hbs) ?_; simp
 refine Yo ?_; simp
 refine Yl [] rfl Tryz.func39 (l14Words_d (fld x) (by unfold fld; split <;> simp)) ?_; simp
 refine Ym [41] ?_; simp
 refine Yo ?_; simp
 refine Yl [42] rfl Tryz.func37 (sList_d [(⟨⟨#[105, 110, 115, 116]⟩, []⟩ : TSExpr), (⟨x.fTrait, []⟩ : TSExpr), woE x.fVars, encT x.fHead, (⟨⟨#[]⟩, eA [] bdE x.fWhere⟩ : TSExpr), woE (fld x), (⟨⟨#[]⟩, asL x⟩ : TSExpr)] (by simp)) ?_; simp
 iterate 2 (refine Yo ?_; simp)
 exact DL.nil rfl hK
 refine W.seq ?_
 apply Zr; intros
 refine Zo ?_; simp
 exact Zx
 refine W.block ?_
 refine W.loopk [1, 2, 5] [1, 2] (fun k0 => [(6, .d (.lf (.int .i64 (k0 : Int))))]) (fun k0 => [(5, .d (.st [.lf (.string ⟨#[]⟩), .sl true sh61 ((eK [(⟨⟨#[105, 110, 115, 116]⟩, []⟩ : TSExpr), (⟨x.fTrait, []⟩ : TSExpr), woE x.fVars, encT x.fHead, (⟨⟨#[]⟩, eA [] bdE x.fWhere⟩ : TSExpr), woE (fld x), (⟨⟨#[]⟩, asL x⟩ : TSExpr)] meE x.fMethods k0).map (TSExpr.dd true))]))]) x.fMethods.length rfl (by simp [eK_zero]) fun k0 hk0 T hT => ?_
 simp at hT; subst hT
 refine W.seq ?_
 apply Zr; intros
 iterate 5 (refine Zo ?_; simp)
 exact Zx
 refine Zc rfl ?_ ?_ <;> intro hb3 <;> try simp at hb3
 have hx0 := ixNext hb3 (by omega)
 have hy := szL_le TMethod.sz (gm hb3)
 have hy2 := x.fMethods[k0].sz_eq; unfold szs at hy2
 refine W.skip ?_
 refine Zb ?_
 apply Zr; intros
 iterate 4 (refine Zo ?_ (by simp [hb3, hx0] <;> omega); simp [hb3, hx0])
 refine Zm [55] ?_ (by simp [hb3, hx0] <;> omega); simp [hb3, hx0]
 iterate 2 (refine Zo ?_ (by simp [hb3, hx0] <;> omega); simp [hb3, hx0])
 exact Zx
 apply W.regSD rfl; intro K hK
 refine Yo ?_ (by simp [hb3, hx0] <;> omega); simp [hb3, hx0]
 refine Ym [57] ?_ (by simp [hb3, hx0] <;> omega); simp [hb3, hx0]
 iterate 2 (refine Yo ?_ (by simp [hb3, hx0] <;> omega); simp [hb3, hx0])
 refine Yl [] rfl Tryz.func38 (sAt_d x.fMethods[k0].fName) ?_ (by simp [hb3, hx0]); simp [hb3, hx0]
 iterate 2 (refine Yo ?_ (by simp [hb3, hx0] <;> omega); simp [hb3, hx0])
 refine Yl [] rfl Tryz.func39 (l14Words_d x.fMethods[k0].fVars (by omega)) ?_ (by simp [hb3, hx0]); simp [hb3, hx0]
 iterate 2 (refine Yo ?_ (by simp [hb3, hx0] <;> omega); simp [hb3, hx0])
 refine Yl [] rfl Tryz.func87 (l12Sx_d x.fMethods[k0].fBody (by omega) (hio.2.2.2 _ (gm hb3))) ?_ (by simp [hb3, hx0]); simp [hb3, hx0]
 refine Yo ?_ (by simp [hb3, hx0] <;> omega); simp [hb3, hx0]
 refine Yl [67] rfl Tryz.func37 (sList_d [(⟨x.fMethods[k0].fName, []⟩ : TSExpr), woE x.fMethods[k0].fVars, encX x.fMethods[k0].fBody] (by simp)) ?_ (by simp [hb3, hx0]); simp [hb3, hx0]
 iterate 4 (refine Yo ?_ (by simp [hb3, hx0] <;> omega); simp [hb3, hx0])
 exact DL.nil rfl hK
 apply Zs; intros
 iterate 3 (refine Zo ?_ (by simp [hb3, hx0] <;> omega); simp [hb3, hx0])
 exact Zx
 refine ⟨hb3, Wz.to rfl rfl rfl ?_⟩
 have hs := eK_snoc (P := [(⟨⟨#[105, 110, 115, 116]⟩, []⟩ : TSExpr), (⟨x.fTrait, []⟩ : TSExpr), woE x.fVars, encT x.fHead, (⟨⟨#[]⟩, eA [] bdE x.fWhere⟩ : TSExpr), woE (fld x), (⟨⟨#[]⟩, asL x⟩ : TSExpr)]) (e := meE) hb3
 simp at hs
 simp [hs]
 have hkl : k0 = x.fMethods.length := by omega
 subst hkl
 simp only [eK_full]
 refine W.exit ?_
 apply Zr; intros
 refine Zm [72] ?_; simp
 refine Zl [72] rfl Tryz.func44 (l14If_d true (inE x) (by omega) _) ?_; simp
 refine Zo ?_; simp
 exact Zx
 refine W.ret (Zq ?_)
 simp [Tryz.f42]
theorem sFnX_d (x : TFunction) (hz : x.sz ≤ 1048576) (hok : fnOk x = true) (h : HP) : CS cx.P 43 [.d (x.dd false)] h (.d ((ifE true (fnE x)).dd true)) h := by
 have hz2 := x.sz_eq; unfold szs at hz2
 have hts := fnE_sz hok
 have hio := fn_ok hok
 have hbs : ∀ y ∈ x.fWhere, y.sz ≤ 134217728 ∧ tForm y.fType = true := fun y hy => ⟨by have := szL_le TBound.sz hy; omega, hio.2.1 y hy⟩
 refine Ze Tryz.func43 rfl 58 ?_
 apply Zr; intros
 iterate 2 (refine Zo ?_; simp)
 exact Zx
 refine W.seq ?_
 apply Zr; intros
 refine Zo ?_; simp
 refine Zl [] rfl Tryz.func91 (sFn_d x (by omega) _) ?_; simp
 refine Zo ?_; simp
 exact Zx
 refine Zc rfl ?_ ?_ <;> intro hb0 <;> try simp [hok] at hb0
 refine W.skip ?_
 apply Zr; intros
 iterate 3 (refine Zo ?_; simp)
 exact Zx
 refine W.seq ?_
 apply Zr; intros
 refine Zo ?_; simp
 exact Zx
 refine W.block ?_
 refine W.loopk [1, 2, 3] [1, 2] (fun k0 => [(4, .d (.lf (.int .i64 (k0 : Int))))]) (fun k0 => [(3, .d (.st [.lf (.string ⟨#[]⟩), .sl true sh61 ((eK [] prE x.fParams k0).map (TSExpr.dd true))]))]) x.fParams.length rfl (by simp [eK_zero]) fun k0 hk0 T hT => ?_
 simp at hT; subst hT
 refine W.seq ?_
 apply Zr; intros
 iterate 5 (refine Zo ?_; simp)
 exact Zx
 refine Zc rfl ?_ ?_ <;> intro hb1 <;> try simp at hb1
 have hx0 := ixNext hb1 (by omega)
 have hy := szL_le TParam.sz (gm hb1)
 have hy2 := x.fParams[k0].sz_eq
 refine W.skip ?_
 refine Zb ?_
 apply W.regSD rfl; intro K hK
 refine Yo ?_ (by simp [hb1, hx0] <;> omega); simp [hb1, hx0]
 refine Ym [18] ?_ (by simp [hb1, hx0] <;> omega); simp [hb1, hx0]
 iterate 6 (refine Yo ?_ (by simp [hb1, hx0] <;> omega); simp [hb1, hx0])
 refine Yl [] rfl Tryz.func38 (sAt_d x.fParams[k0].fName) ?_ (by simp [hb1, hx0]); simp [hb1, hx0]
 iterate 6 (refine Yo ?_ (by simp [hb1, hx0] <;> omega); simp [hb1, hx0])
 refine Yl [] rfl Tryz.func86 (l5Sx_d x.fParams[k0].fType (by omega) (hio.1 _ (gm hb1))) ?_ (by simp [hb1, hx0]); simp [hb1, hx0]
 refine Yo ?_ (by simp [hb1, hx0] <;> omega); simp [hb1, hx0]
 refine Yl [33] rfl Tryz.func37 (sList_d [(⟨x.fParams[k0].fName, []⟩ : TSExpr), encT x.fParams[k0].fType] (by simp)) ?_ (by simp [hb1, hx0]); simp [hb1, hx0]
 iterate 4 (refine Yo ?_ (by simp [hb1, hx0] <;> omega); simp [hb1, hx0])
 exact DL.nil rfl hK
 apply Zs; intros
 iterate 3 (refine Zo ?_ (by simp [hb1, hx0] <;> omega); simp [hb1, hx0])
 exact Zx
 refine ⟨hb1, Wz.to rfl rfl rfl ?_⟩
 have hs := eK_snoc (P := []) (e := prE) hb1
 simp at hs
 simp [hs]
 have hkl : k0 = x.fParams.length := by omega
 subst hkl
 simp only [eK_full]
 refine W.exit ?_
 apply Yr rfl; intro K hK
 refine Yl [] rfl Tryz.func38 (sAt_d ⟨#[102, 110]⟩) ?_; simp
 iterate 2 (refine Yo ?_; simp)
 refine Yl [] rfl Tryz.func38 (sAt_d x.fName) ?_; simp
 iterate 2 (refine Yo ?_; simp)
 refine Yl [] rfl Tryz.func39 (l14Words_d x.fVars (by omega)) ?_; simp
 iterate 2 (refine Yo ?_; simp)
 refine Yl [] rfl Tryz.func90 (l14Where_d x.fWhere (by omega) hbs) ?_; simp
 refine Ym [48] ?_; simp
 iterate 2 (refine Yo ?_; simp)
 refine Yl [] rfl Tryz.func86 (l5Sx_d x.fResult (by omega) hio.2.2.1) ?_; simp
 iterate 2 (refine Yo ?_; simp)
 refine Yl [] rfl Tryz.func87 (l12Sx_d x.fBody (by omega) hio.2.2.2) ?_; simp
 refine Yo ?_; simp
 refine Yl [55] rfl Tryz.func37 (sList_d [(⟨⟨#[102, 110]⟩, []⟩ : TSExpr), (⟨x.fName, []⟩ : TSExpr), woE x.fVars, (⟨⟨#[]⟩, eA [] bdE x.fWhere⟩ : TSExpr), (⟨⟨#[]⟩, eA [] prE x.fParams⟩ : TSExpr), encT x.fResult, encX x.fBody] (by simp)) ?_; simp
 refine Yl [56] rfl Tryz.func44 (l14If_d true (fnE x) (by omega)) ?_; simp
 refine Yo ?_; simp
 exact DL.nil rfl hK
 refine W.ret (Zq ?_)
 simp [Tryz.f43]
end Go.Proofs.YtkadbimpaplnmaaGreatDoor
