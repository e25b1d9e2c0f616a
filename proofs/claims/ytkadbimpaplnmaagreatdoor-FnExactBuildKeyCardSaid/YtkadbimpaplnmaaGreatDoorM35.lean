/- Walks by the Den rules. No condition but sizes. -/
import Derived.Test.YtkadbimpaplnmaaGreatDoorM16
import Derived.Test.YtkadbimpaplnmaaGreatDoorM34
namespace Go.Proofs.YtkadbimpaplnmaaGreatDoor
open Go.RowKit
set_option maxRecDepth 10000
set_option linter.unusedSimpArgs false
set_option maxHeartbeats 4000000
theorem l12Args_a (H : List TSExpr) (l : List TExpr) (hH : H.length ≤ 10) (hm : l.length ≤ 134217728) (hc : ∀ y ∈ l, ∀ h, CS cx.P 87 [.d (y.dd false)] h (.d ((encX y).dd true)) h) (h : HP) : CS cx.P 133 [.d (.sl true sh61 (H.map (TSExpr.dd true))), .d (.sl false sh98 (l.map (TExpr.dd false)))] h (.d ((⟨⟨#[]⟩, (eA H encX l)⟩ : TSExpr).dd true)) h := by
 refine Ze Tryz.func133 rfl 26 ?_
 apply Zr; intros
 refine Zo ?_; simp
 exact Zx
 apply Zr; intros
 refine Zm [7] ?_; simp
 iterate 3 (refine Zo ?_; simp)
 exact Zx
 refine W.seq ?_
 apply Zr; intros
 refine Zo ?_; simp
 exact Zx
 refine W.block ?_
 refine W.loopk [1, 4, 5] [4] (fun k0 => [(6, .d (.lf (.int .i64 (k0 : Int))))]) (fun k0 => [(5, .d (.st [.lf (.string ⟨#[]⟩), .sl true sh61 ((eK H encX l k0).map (TSExpr.dd true))]))]) l.length rfl (by simp [eK_zero]) fun k0 hk0 T hT => ?_
 simp at hT; subst hT
 refine W.seq ?_
 apply Zr; intros
 iterate 4 (refine Zo ?_; simp)
 exact Zx
 refine Zc rfl ?_ ?_ <;> intro hb0 <;> try simp at hb0
 have hx0 := ixNext hb0 (by omega)
 refine W.skip ?_
 refine Zb ?_
 apply W.regSD rfl; intro K hK
 refine Yo ?_ (by simp [hb0, hx0] <;> omega); simp [hb0, hx0]
 refine Ym [16] ?_ (by simp [hb0, hx0] <;> omega); simp [hb0, hx0]
 iterate 4 (refine Yo ?_ (by simp [hb0, hx0] <;> omega); simp [hb0, hx0])
 refine Yl [] rfl Tryz.func87 (hc l[k0] (gm hb0)) ?_ (by simp [hb0, hx0]); simp [hb0, hx0]
 iterate 4 (refine Yo ?_ (by simp [hb0, hx0] <;> omega); simp [hb0, hx0])
 exact DL.nil rfl hK
 apply Zs; intros
 iterate 3 (refine Zo ?_ (by simp [hb0, hx0] <;> omega); simp [hb0, hx0])
 exact Zx
 refine ⟨hb0, Wz.to rfl rfl rfl ?_⟩
 have hs := eK_snoc (P := H) (e := encX) hb0
 simp at hs
 simp [hs]
 have hkl : k0 = l.length := by omega
 subst hkl
 simp only [eK_full]
 refine W.exit ?_
 apply Zr; intros
 refine Zm [25] ?_; simp
 refine Zo ?_; simp
 exact Zx
 refine W.ret (Zq ?_)
 simp [Tryz.f133]
theorem l12Sx_a (x : TExpr) (hz : x.sz ≤ 134217728) (hf : exF x = true) (hc : ∀ y ∈ x.fArgs, ∀ h, CS cx.P 87 [.d (y.dd false)] h (.d ((encX y).dd true)) h) (hc2 : ∀ a ∈ x.fArms, ∀ h, CS cx.P 87 [.d (a.fBody.dd false)] h (.d ((encX a.fBody).dd true)) h) (h : HP) : CS cx.P 87 [.d (x.dd false)] h (.d ((encX x).dd true)) h := by
 have hz2 := x.sz_eq; unfold szs at hz2
 refine Ze Tryz.func87 rfl 145 ?_
 apply Zr; intros
 iterate 2 (refine Zo ?_; simp)
 exact Zx
 refine W.seq ?_
 apply Zr; intros
 iterate 2 (refine Zo ?_; simp)
 exact Zx
 refine W.block ?_
 apply Zr; intros
 iterate 2 (refine Zo ?_; simp)
 exact Zx
 refine Zc rfl ?_ ?_ <;> intro hb0 <;> try simp at hb0
 have hres := encX_1 hb0
 have hi := (exF_n hf).1 hb0
 apply Zr; intros
 iterate 2 (refine Zo ?_; simp)
 refine Zl [] rfl Tryz.func11 (sFmtI_d x.fN (by unfold InR; have := i64mn; have := i64mx; omega) _) ?_; simp
 refine Zl [] rfl Tryz.func38 (sAt_d (itoaB x.fN) _) ?_; simp
 refine Zo ?_; simp
 exact Zx
 refine W.ret (Zq ?_)
 simp [Tryz.f87, hres]
 apply Zr; intros
 iterate 2 (refine Zo ?_; simp)
 exact Zx
 refine Zc rfl ?_ ?_ <;> intro hb1 <;> try simp at hb1
 have hres := encX_2 hb1
 have hi := (exF_n hf).2 hb1
 obtain ⟨j, hj⟩ : ∃ j : Nat, x.fN = (j : Int) := ⟨_, (Int.toNat_of_nonneg hi.1).symm⟩
 have hj2 : j < 2 := by omega
 have hbl : ([.lf (.string ⟨#[102, 97, 108, 115, 101]⟩), .lf (.string ⟨#[116, 114, 117, 101]⟩)] : List DD)[j]'(by simpa using hj2) = .lf (.string (if (j : Int) = 1 then ⟨#[116, 114, 117, 101]⟩ else ⟨#[102, 97, 108, 115, 101]⟩)) := by rcases (show j = 0 ∨ j = 1 by omega) with q | q <;> subst q <;> rfl
 rw [hj] at hres
 apply Zr; intros
 iterate 5 (refine Zo ?_ (by simp [hj, hj2, hbl] <;> omega); simp [hj, hj2, hbl])
 refine Zl [] rfl Tryz.func38 (sAt_d (if (j : Int) = 1 then ⟨#[116, 114, 117, 101]⟩ else ⟨#[102, 97, 108, 115, 101]⟩) _) ?_ (by simp [hj, hj2, hbl]); simp [hj, hj2, hbl]
 refine Zo ?_ (by simp [hj, hj2, hbl] <;> omega); simp [hj, hj2, hbl]
 exact Zx
 refine W.ret (Zq ?_)
 simp [Tryz.f87, hres]
 apply Zr; intros
 iterate 2 (refine Zo ?_; simp)
 exact Zx
 refine Zc rfl ?_ ?_ <;> intro hb2 <;> try simp at hb2
 have hres := encX_3 hb2
 apply Zr; intros
 iterate 2 (refine Zo ?_; simp)
 refine Zl [] rfl Tryz.func38 (sAt_d x.fName _) ?_; simp
 refine Zo ?_; simp
 exact Zx
 refine W.ret (Zq ?_)
 simp [Tryz.f87, hres]
 apply Zr; intros
 iterate 2 (refine Zo ?_; simp)
 exact Zx
 refine Zc rfl ?_ ?_ <;> intro hb3 <;> try simp at hb3
 have hres := encX_m hf (by omega) (by omega) (by omega) (by omega)
 simp [hdE, hb3] at hres
 apply Yr rfl; intro K hK
 refine Yl [] rfl Tryz.func38 (sAt_d ⟨#[99, 97, 108, 108]⟩) ?_; simp
 iterate 2 (refine Yo ?_; simp)
 refine Yl [] rfl Tryz.func38 (sAt_d x.fName) ?_; simp
 iterate 3 (refine Yo ?_; simp)
 refine Yl [34] rfl Tryz.func133 (l12Args_a [(⟨⟨#[99, 97, 108, 108]⟩, []⟩ : TSExpr), (⟨x.fName, []⟩ : TSExpr)] x.fArgs (by simp) (by omega) hc) ?_; simp
 refine Yo ?_; simp
 exact DL.nil rfl hK
 refine W.ret (Zq ?_)
 simp [Tryz.f87, hres]
 apply Zr; intros
 iterate 2 (refine Zo ?_; simp)
 exact Zx
 refine Zc rfl ?_ ?_ <;> intro hb4 <;> try simp at hb4
 have hres := encX_m hf (by omega) (by omega) (by omega) (by omega)
 simp [hdE, hb4] at hres
 apply Yr rfl; intro K hK
 refine Yl [] rfl Tryz.func38 (sAt_d ⟨#[109, 101, 116, 104, 111, 100]⟩) ?_; simp
 iterate 2 (refine Yo ?_; simp)
 refine Yl [] rfl Tryz.func38 (sAt_d x.fTrait) ?_; simp
 iterate 2 (refine Yo ?_; simp)
 refine Yl [] rfl Tryz.func38 (sAt_d x.fName) ?_; simp
 iterate 3 (refine Yo ?_; simp)
 refine Yl [47] rfl Tryz.func133 (l12Args_a [(⟨⟨#[109, 101, 116, 104, 111, 100]⟩, []⟩ : TSExpr), (⟨x.fTrait, []⟩ : TSExpr), (⟨x.fName, []⟩ : TSExpr)] x.fArgs (by simp) (by omega) hc) ?_; simp
 refine Yo ?_; simp
 exact DL.nil rfl hK
 refine W.ret (Zq ?_)
 simp [Tryz.f87, hres]
 apply Zr; intros
 iterate 2 (refine Zo ?_; simp)
 exact Zx
 refine Zc rfl ?_ ?_ <;> intro hb5 <;> try simp at hb5
 have hres := encX_m hf (by omega) (by omega) (by omega) (by omega)
 simp [hdE, hb5] at hres
 apply Yr rfl; intro K hK
 refine Yl [] rfl Tryz.func38 (sAt_d ⟨#[110, 101, 119]⟩) ?_; simp
 iterate 2 (refine Yo ?_; simp)
 refine Yl [] rfl Tryz.func38 (sAt_d x.fName) ?_; simp
 iterate 3 (refine Yo ?_; simp)
 refine Yl [57] rfl Tryz.func133 (l12Args_a [(⟨⟨#[110, 101, 119]⟩, []⟩ : TSExpr), (⟨x.fName, []⟩ : TSExpr)] x.fArgs (by simp) (by omega) hc) ?_; simp
 refine Yo ?_; simp
 exact DL.nil rfl hK
 refine W.ret (Zq ?_)
 simp [Tryz.f87, hres]
 apply Zr; intros
 iterate 2 (refine Zo ?_; simp)
 exact Zx
 refine Zc rfl ?_ ?_ <;> intro hb6 <;> try simp at hb6
 have hres := encX_m hf (by omega) (by omega) (by omega) (by omega)
 simp [hdE, hb6] at hres
 apply Yr rfl; intro K hK
 refine Yl [] rfl Tryz.func38 (sAt_d ⟨#[108, 101, 116]⟩) ?_; simp
 iterate 2 (refine Yo ?_; simp)
 refine Yl [] rfl Tryz.func38 (sAt_d x.fName) ?_; simp
 iterate 3 (refine Yo ?_; simp)
 refine Yl [67] rfl Tryz.func133 (l12Args_a [(⟨⟨#[108, 101, 116]⟩, []⟩ : TSExpr), (⟨x.fName, []⟩ : TSExpr)] x.fArgs (by simp) (by omega) hc) ?_; simp
 refine Yo ?_; simp
 exact DL.nil rfl hK
 refine W.ret (Zq ?_)
 simp [Tryz.f87, hres]
 apply Zr; intros
 iterate 2 (refine Zo ?_; simp)
 exact Zx
 refine Zc rfl ?_ ?_ <;> intro hb7 <;> try simp at hb7
 have hres := encX_m hf (by omega) (by omega) (by omega) (by omega)
 simp [hdE, hb7] at hres
 apply Yr rfl; intro K hK
 refine Yl [] rfl Tryz.func38 (sAt_d ⟨#[105, 102]⟩) ?_; simp
 iterate 3 (refine Yo ?_; simp)
 refine Yl [74] rfl Tryz.func133 (l12Args_a [(⟨⟨#[105, 102]⟩, []⟩ : TSExpr)] x.fArgs (by simp) (by omega) hc) ?_; simp
 refine Yo ?_; simp
 exact DL.nil rfl hK
 refine W.ret (Zq ?_)
 simp [Tryz.f87, hres]
 apply Zr; intros
 iterate 2 (refine Zo ?_; simp)
 exact Zx
 refine Zc rfl ?_ ?_ <;> intro hb8 <;> try simp at hb8
 have hres := encX_m hf (by omega) (by omega) (by omega) (by omega)
 simp [hdE, hb8] at hres
 apply Yr rfl; intro K hK
 iterate 2 (refine Yo ?_; simp)
 refine Yl [] rfl Tryz.func38 (sAt_d x.fName) ?_; simp
 iterate 3 (refine Yo ?_; simp)
 refine Yl [83] rfl Tryz.func133 (l12Args_a [(⟨x.fName, []⟩ : TSExpr)] x.fArgs (by simp) (by omega) hc) ?_; simp
 refine Yo ?_; simp
 exact DL.nil rfl hK
 refine W.ret (Zq ?_)
 simp [Tryz.f87, hres]
 apply Zr; intros
 iterate 2 (refine Zo ?_; simp)
 exact Zx
 refine Zc rfl ?_ ?_ <;> intro hb9 <;> try simp at hb9
 have hres := encX_m hf (by omega) (by omega) (by omega) (by omega)
 simp [hdE, hb9] at hres
 apply Yr rfl; intro K hK
 refine Yl [] rfl Tryz.func38 (sAt_d ⟨#[112, 97, 99, 107]⟩) ?_; simp
 iterate 2 (refine Yo ?_; simp)
 refine Yl [] rfl Tryz.func38 (sAt_d x.fTrait) ?_; simp
 iterate 3 (refine Yo ?_; simp)
 refine Yl [93] rfl Tryz.func133 (l12Args_a [(⟨⟨#[112, 97, 99, 107]⟩, []⟩ : TSExpr), (⟨x.fTrait, []⟩ : TSExpr)] x.fArgs (by simp) (by omega) hc) ?_; simp
 refine Yo ?_; simp
 exact DL.nil rfl hK
 refine W.ret (Zq ?_)
 simp [Tryz.f87, hres]
 apply Zr; intros
 iterate 2 (refine Zo ?_; simp)
 exact Zx
 refine Zc rfl ?_ ?_ <;> intro hb10 <;> try simp at hb10
 have hres := encX_m hf (by omega) (by omega) (by omega) (by omega)
 simp [hdE, hb10] at hres
 have hty := exF_ty hf hb10
 apply Yr rfl; intro K hK
 refine Yl [] rfl Tryz.func38 (sAt_d ⟨#[116, 104, 101]⟩) ?_; simp
 iterate 2 (refine Yo ?_; simp)
 refine Yl [] rfl Tryz.func86 (l5Sx_d x.fType (by omega) hty) ?_; simp
 iterate 3 (refine Yo ?_; simp)
 refine Yl [103] rfl Tryz.func133 (l12Args_a [(⟨⟨#[116, 104, 101]⟩, []⟩ : TSExpr), encT x.fType] x.fArgs (by simp) (by omega) hc) ?_; simp
 refine Yo ?_; simp
 exact DL.nil rfl hK
 refine W.ret (Zq ?_)
 simp [Tryz.f87, hres]
 have h7 : x.fKind = 7 := by have := exF_kind hf; omega
 have hres := encX_n hb0 hb1 hb2
 simp [hdE, h7] at hres
 refine W.skip ?_
 apply Yr rfl; intro K hK
 refine Yl [] rfl Tryz.func38 (sAt_d ⟨#[99, 97, 115, 101]⟩) ?_; simp
 iterate 3 (refine Yo ?_; simp)
 refine Yl [108] rfl Tryz.func133 (l12Args_a [(⟨⟨#[99, 97, 115, 101]⟩, []⟩ : TSExpr)] x.fArgs (by simp) (by omega) hc) ?_; simp
 iterate 2 (refine Yo ?_; simp)
 exact DL.nil rfl hK
 refine W.seq ?_
 apply Zr; intros
 refine Zo ?_; simp
 exact Zx
 refine W.block ?_
 refine W.loopk [1, 2, 3] [1, 2] (fun k0 => [(4, .d (.lf (.int .i64 (k0 : Int))))]) (fun k0 => [(3, .d (.st [.lf (.string ⟨#[]⟩), .sl true sh61 ((eK (eA [(⟨⟨#[99, 97, 115, 101]⟩, []⟩ : TSExpr)] encX x.fArgs) encXa x.fArms k0).map (TSExpr.dd true))]))]) x.fArms.length rfl (by simp [eK_zero]) fun k0 hk0 T hT => ?_
 simp at hT; subst hT
 refine W.seq ?_
 apply Zr; intros
 iterate 5 (refine Zo ?_; simp)
 exact Zx
 refine Zc rfl ?_ ?_ <;> intro hb11 <;> try simp at hb11
 have hx0 := ixNext hb11 (by omega)
 have hy := szL_le TArm.sz (gm hb11)
 have hy2 := x.fArms[k0].sz_eq; unfold szs at hy2
 have hae := encXa_eq x.fArms[k0]
 refine W.skip ?_
 refine Zb ?_
 apply Zr; intros
 iterate 4 (refine Zo ?_ (by simp [hb11, hx0] <;> omega); simp [hb11, hx0])
 refine Zm [123] ?_ (by simp [hb11, hx0] <;> omega); simp [hb11, hx0]
 iterate 2 (refine Zo ?_ (by simp [hb11, hx0] <;> omega); simp [hb11, hx0])
 exact Zx
 apply Yr rfl; intro K hK
 iterate 2 (refine Yo ?_ (by simp [hb11, hx0] <;> omega); simp [hb11, hx0])
 refine Yl [] rfl Tryz.func38 (sAt_d x.fArms[k0].fConstructor) ?_ (by simp [hb11, hx0]); simp [hb11, hx0]
 iterate 3 (refine Yo ?_ (by simp [hb11, hx0] <;> omega); simp [hb11, hx0])
 refine Yl [] rfl Tryz.func83 (l2Words_d x.fArms[k0].fVars (by omega)) ?_ (by simp [hb11, hx0]); simp [hb11, hx0]
 iterate 2 (refine Yo ?_ (by simp [hb11, hx0] <;> omega); simp [hb11, hx0])
 exact DL.nil rfl hK
 apply W.regSD rfl; intro K hK
 refine Yo ?_ (by simp [hb11, hx0] <;> omega); simp [hb11, hx0]
 refine Ym [133] ?_ (by simp [hb11, hx0] <;> omega); simp [hb11, hx0]
 refine Ym [134] ?_ (by simp [hb11, hx0] <;> omega); simp [hb11, hx0]
 iterate 2 (refine Yo ?_ (by simp [hb11, hx0] <;> omega); simp [hb11, hx0])
 refine Yl [] rfl Tryz.func87 (hc2 x.fArms[k0] (gm hb11)) ?_ (by simp [hb11, hx0]); simp [hb11, hx0]
 iterate 7 (refine Yo ?_ (by simp [hb11, hx0] <;> omega); simp [hb11, hx0])
 exact DL.nil rfl hK
 apply Zs; intros
 iterate 3 (refine Zo ?_ (by simp [hb11, hx0] <;> omega); simp [hb11, hx0])
 exact Zx
 refine ⟨hb11, Wz.to rfl rfl rfl ?_⟩
 have hs := eK_snoc (P := eA [(⟨⟨#[99, 97, 115, 101]⟩, []⟩ : TSExpr)] encX x.fArgs) (e := encXa) hb11
 rw [hae] at hs
 simp at hs
 simp [hs]
 have hkl : k0 = x.fArms.length := by omega
 subst hkl
 simp only [eK_full]
 refine W.exit ?_
 apply Zr; intros
 refine Zm [144] ?_; simp
 refine Zo ?_; simp
 exact Zx
 refine W.ret (Zq ?_)
 simp [Tryz.f87, hres]
theorem l12Sx_d (x : TExpr) (hz : x.sz ≤ 134217728) (hf : exF x = true) (h : HP) : CS cx.P 87 [.d (x.dd false)] h (.d ((encX x).dd true)) h := l12Sx_a x hz hf (fun y hy h => l12Sx_d y (by have h1 := szL_le TExpr.sz hy; have h2 := x.sz_eq; unfold szs at h2; omega) (exF_args hf y hy) h) (fun a ha h => l12Sx_d a.fBody (by have h1 := szL_le TArm.sz ha; have h2 := x.sz_eq; have h3 := a.sz_eq; unfold szs at h2; omega) (exF_armsOk hf a ha) h) h
termination_by SizeOf.sizeOf x
decreasing_by
 ·have := List.sizeOf_lt_of_mem hy; have := x.lt_fArgs; omega
 ·have := List.sizeOf_lt_of_mem ha; have := x.lt_fArms; have := a.lt_fBody; omega
def sgL (g : TSignature) : List TSExpr := [⟨g.fName, []⟩, ⟨⟨#[]⟩, eA [] encT g.fParams⟩, encT g.fResult] ++ if g.fHasDefault = true then [woE g.fVars, encX g.fBody] else []
def sigE (g : TSignature) : TSExpr := ⟨⟨#[]⟩, sgL g⟩
theorem sigE_eq (g : TSignature) : sigE g = ⟨⟨#[]⟩, sgL g⟩ := rfl
def fl1 (t : TTrait) : List ByteArray := if t.fAuto = true then [⟨#[97, 117, 116, 111]⟩] else []
def fl2 (t : TTrait) : List ByteArray := fl1 t ++ if t.fAssoc = true then [⟨#[97, 115, 115, 111, 99]⟩] else []
def trE (t : TTrait) : TSExpr := ⟨⟨#[]⟩, eA [⟨⟨#[116, 114, 97, 105, 116]⟩, []⟩, ⟨t.fName, []⟩, woE t.fSupertraits, woE (fl2 t)] sigE t.fSignatures⟩
theorem trE_eq (t : TTrait) : trE t = ⟨⟨#[]⟩, eA [⟨⟨#[116, 114, 97, 105, 116]⟩, []⟩, ⟨t.fName, []⟩, woE t.fSupertraits, woE (fl2 t)] sigE t.fSignatures⟩ := rfl
def ctE (c : TConstructor) : TSExpr := ⟨⟨#[]⟩, eA [⟨c.fName, []⟩] encT c.fFields⟩
theorem ctE_eq (c : TConstructor) : ctE c = ⟨⟨#[]⟩, eA [⟨c.fName, []⟩] encT c.fFields⟩ := rfl
def daE (d : TDataType) : TSExpr := ⟨⟨#[]⟩, eA [⟨⟨#[100, 97, 116, 97]⟩, []⟩, ⟨d.fName, []⟩, woE d.fVars] ctE d.fConstructors⟩
theorem daE_eq (d : TDataType) : daE d = ⟨⟨#[]⟩, eA [⟨⟨#[100, 97, 116, 97]⟩, []⟩, ⟨d.fName, []⟩, woE d.fVars] ctE d.fConstructors⟩ := rfl
def meE (m : TMethod) : TSExpr := ⟨⟨#[]⟩, [⟨m.fName, []⟩, woE m.fVars, encX m.fBody]⟩
theorem meE_eq (m : TMethod) : meE m = ⟨⟨#[]⟩, [⟨m.fName, []⟩, woE m.fVars, encX m.fBody]⟩ := rfl
def fld (x : TInstance) : List ByteArray := if x.fDefault = true then [⟨#[100, 101, 102, 97, 117, 108, 116]⟩] else []
def asL (x : TInstance) : List TSExpr := if x.fHasAssoc = true then [encT x.fAssoc] else []
def inE (x : TInstance) : TSExpr := ⟨⟨#[]⟩, eA [⟨⟨#[105, 110, 115, 116]⟩, []⟩, ⟨x.fTrait, []⟩, woE x.fVars, encT x.fHead, ⟨⟨#[]⟩, eA [] bdE x.fWhere⟩, woE (fld x), ⟨⟨#[]⟩, asL x⟩] meE x.fMethods⟩
theorem inE_eq (x : TInstance) : inE x = ⟨⟨#[]⟩, eA [⟨⟨#[105, 110, 115, 116]⟩, []⟩, ⟨x.fTrait, []⟩, woE x.fVars, encT x.fHead, ⟨⟨#[]⟩, eA [] bdE x.fWhere⟩, woE (fld x), ⟨⟨#[]⟩, asL x⟩] meE x.fMethods⟩ := rfl
def prE (p : TParam) : TSExpr := ⟨⟨#[]⟩, [⟨p.fName, []⟩, encT p.fType]⟩
theorem prE_eq (p : TParam) : prE p = ⟨⟨#[]⟩, [⟨p.fName, []⟩, encT p.fType]⟩ := rfl
def fnE (x : TFunction) : TSExpr := ⟨⟨#[]⟩, [⟨⟨#[102, 110]⟩, []⟩, ⟨x.fName, []⟩, woE x.fVars, ⟨⟨#[]⟩, eA [] bdE x.fWhere⟩, ⟨⟨#[]⟩, eA [] prE x.fParams⟩, encT x.fResult, encX x.fBody]⟩
theorem fnE_eq (x : TFunction) : fnE x = ⟨⟨#[]⟩, [⟨⟨#[102, 110]⟩, []⟩, ⟨x.fName, []⟩, woE x.fVars, ⟨⟨#[]⟩, eA [] bdE x.fWhere⟩, ⟨⟨#[]⟩, eA [] prE x.fParams⟩, encT x.fResult, encX x.fBody]⟩ := rfl
attribute [simp] sigE_eq trE_eq ctE_eq daE_eq meE_eq inE_eq prE_eq fnE_eq
mutual
theorem encT_sz : ∀ x : TType, (encT x).sz ≤ 8 + 16 * x.sz
 | ⟨k, n, l⟩ => by
  have ih := encTs_sz l
  have hl : (encTs l).length = l.length := by rw [encTs_eq, List.length_map]
  have e1 : (⟨#[39]⟩ : ByteArray).size = 1 := rfl
  have e2 : (⟨#[100, 121, 110]⟩ : ByteArray).size = 3 := rfl
  have e3 : (⟨#[97, 115, 115, 111, 99]⟩ : ByteArray).size = 5 := rfl
  have e4 : (⟨#[]⟩ : ByteArray).size = 0 := rfl
  simp only [encT, TType.sz]
  repeat' split
  all_goals simp [TSExpr.sz, TSExpr.szLs, ByteArray.size_append, e1, e2, e3, e4, hl]
  all_goals omega
theorem encTs_sz : ∀ l : List TType, TSExpr.szLs (encTs l) ≤ 8 * l.length + 16 * TType.szLs l
 | [] => by simp [encTs, TSExpr.szLs]
 | x :: l => by have := encT_sz x; have := encTs_sz l; simp only [encTs, TSExpr.szLs, TType.szLs, List.length_cons]; omega
end
theorem szL_enc {α : Type} {e : α → TSExpr} {g : α → Nat} {C D : Nat} : ∀ l : List α, (∀ y ∈ l, (e y).sz ≤ C + D * g y) → szL TSExpr.sz (l.map e) ≤ C * l.length + D * szL g l
 | [], _ => by simp [szL]
 | x :: l, h => by
  have h1 := h x (by simp)
  have h2 := szL_enc l fun y hy => h y (by simp [hy])
  simp only [List.map_cons, szL, List.length_cons, Nat.mul_add, Nat.mul_one]; omega
theorem szL_app {α : Type} (g : α → Nat) : ∀ a b : List α, szL g (a ++ b) = szL g a + szL g b
 | [], b => by simp [szL]
 | x :: a, b => by simp only [List.cons_append, szL, szL_app g a b]; omega
theorem eA_sz {α : Type} (P : List TSExpr) (e : α → TSExpr) (l : List α) : szL TSExpr.sz (eA P e l) = szL TSExpr.sz P + szL TSExpr.sz (l.map e) := szL_app _ _ _
theorem atE_sz (s : ByteArray) : (⟨s, []⟩ : TSExpr).sz = s.size := by simp [TSExpr.sz, TSExpr.szLs]
theorem li_sz (l : List TSExpr) : (⟨⟨#[]⟩, l⟩ : TSExpr).sz = l.length + szL TSExpr.sz l := by have := (⟨⟨#[]⟩, l⟩ : TSExpr).sz_eq; unfold szs at this; simpa using this
theorem woE_sz (l : List ByteArray) : (woE l).sz = l.length + szL ByteArray.size l := by
 rw [woE_eq, li_sz, eA_sz, eA_len]
 have : ∀ l : List ByteArray, szL TSExpr.sz (l.map atE) = szL ByteArray.size l := fun l => by
  induction l with
  | nil => rfl
  | cons x l ih => simp only [List.map_cons, szL, ih]; rw [atE_eq, atE_sz]
 rw [this]; simp [szL]
theorem hdE_sz (k : Int) (t n : ByteArray) (y : TType) : (hdE k t n y).length + szL TSExpr.sz (hdE k t n y) ≤ 17 + t.size + n.size + 16 * y.sz := by
 have := encT_sz y
 unfold hdE
 repeat' split
 all_goals simp [szL, atE_sz]
 all_goals first | omega | (simp [ByteArray.size]; omega)
mutual
theorem encX_sz : ∀ x : TExpr, exF x = true → (encX x).sz ≤ 24 + 28 * x.sz
 | ⟨k, t, n, i, y, al, rl⟩, hf => by
  have h1 := hdE_sz k t n y
  have hi := (exF_n hf).1
  simp only at hi
  rw [exF] at hf
  simp only [Bool.and_eq_true] at hf
  have h2 := encXs_sz al hf.1.2
  have h3 := encXr_sz rl hf.2
  simp only [encX, TExpr.sz]
  split
  ·rename_i hk
   have := itoaB_len i (by have := hi hk; omega)
   rw [atE_sz]; omega
  ·split
   ·rw [atE_sz]; split
    ·have : (⟨#[116, 114, 117, 101]⟩ : ByteArray).size = 4 := rfl
     omega
    ·have : (⟨#[102, 97, 108, 115, 101]⟩ : ByteArray).size = 5 := rfl
     omega
   ·split
    ·rw [atE_sz]; omega
    ·rw [li_sz, szL_app, szL_app, List.length_append, List.length_append, encXs_eq, encXr_eq] at *
     simp only [List.length_map] at *
     omega
theorem encXs_sz : ∀ l : List TExpr, exFs l = true → szL TSExpr.sz (encXs l) ≤ 24 * l.length + 28 * TExpr.szLs l
 | [], _ => by simp [encXs, szL]
 | x :: l, h => by
  simp only [exFs, Bool.and_eq_true] at h
  have := encX_sz x h.1; have := encXs_sz l h.2; simp only [encXs, szL, TExpr.szLs, List.length_cons]; omega
theorem encXa_sz : ∀ x : TArm, exFa x = true → (encXa x).sz ≤ 27 + 28 * x.sz
 | ⟨c, vs, b⟩, h => by
  simp only [exFa, Bool.and_eq_true] at h
  have h1 := encX_sz b h.2
  have h2 := woE_sz vs
  rw [woE_eq, li_sz] at h2
  unfold eA at h2
  simp only [List.nil_append, List.length_map] at h2
  simp only [encXa, li_sz, szL_app, List.length_append, List.length_map, szL, List.length_cons, List.length_nil, atE_sz, TArm.sz, szs]
  omega
theorem encXr_sz : ∀ l : List TArm, exFr l = true → szL TSExpr.sz (encXr l) ≤ 27 * l.length + 28 * TArm.szLs l
 | [], _ => by simp [encXr, szL]
 | x :: l, h => by
  simp only [exFr, Bool.and_eq_true] at h
  have := encXa_sz x h.1; have := encXr_sz l h.2; simp only [encXr, szL, TArm.szLs, List.length_cons]; omega
end
theorem tOver_form {x : TType} {v : List ByteArray} (h : tOver x v = true) : tForm x = true := by
 unfold tOver tValid at h
 simp at h
 exact h.1.1.1
theorem overs_form {l : List TType} {v : List ByteArray} (h : overs l v = true) : ∀ y ∈ l, tForm y = true := fun y hy => by
 unfold overs at h
 simp at h
 exact tOver_form (h y hy)
theorem sig_ok {g : TSignature} (h : sigOk g = true) : (∀ y ∈ g.fParams, tForm y = true) ∧ tForm g.fResult = true ∧ (g.fHasDefault = true → exF g.fBody = true) := by
 unfold sigOk at h
 simp only [Bool.and_eq_true] at h
 refine ⟨overs_form h.1.1.2, tOver_form h.1.2, fun q => ?_⟩
 have h2 := h.2
 rw [if_pos q] at h2
 simp only [Bool.and_eq_true] at h2
 have := h2.2
 unfold body exV at this
 simp at this
 exact this.1.2
theorem trait_ok {t : TTrait} (h : traitOk t = true) : ∀ g ∈ t.fSignatures, sigOk g = true := by
 unfold traitOk at h
 simp only [Bool.and_eq_true] at h
 have := h.1.1.1.1
 simp at this
 exact this
theorem data_ok {d : TDataType} (h : dataOk d = true) : ∀ c ∈ d.fConstructors, ∀ y ∈ c.fFields, tForm y = true := fun c hc => by
 unfold dataOk at h
 simp only [Bool.and_eq_true] at h
 have := h.1.1.1.1
 simp at this
 have := this c hc
 unfold ctBad at this
 simp at this
 exact overs_form this.2
theorem wher_ok {l : List TBound} {v : List ByteArray} (h : wher l v = true) : ∀ b ∈ l, tForm b.fType = true := fun b hb => by
 unfold wher at h
 simp at h
 have := h.1 b hb
 unfold bndBad at this
 simp at this
 exact tOver_form this.1.2
theorem body_ok {x : TExpr} {v : List ByteArray} (h : body x v = true) : exF x = true := by
 unfold body exV at h
 simp at h
 exact h.1.2
theorem inst_ok {x : TInstance} (h : instOk x = true) : tForm x.fHead = true ∧ (∀ b ∈ x.fWhere, tForm b.fType = true) ∧ (x.fHasAssoc = true → tForm x.fAssoc = true) ∧ ∀ m ∈ x.fMethods, exF m.fBody = true := by
 unfold instOk inst1 inst2 at h
 simp only [Bool.and_eq_true] at h
 obtain ⟨⟨⟨⟨h1, -⟩, h2⟩, h3⟩, -⟩ := h
 refine ⟨tOver_form h1.1.1.1.2, wher_ok h1.2, fun q => ?_, fun m hm => ?_⟩
 ·rw [if_pos q] at h2; exact tOver_form h2
 ·simp at h3
  have := h3 m hm
  unfold mthBad at this
  simp at this
  exact body_ok this.2
theorem fn_ok {x : TFunction} (h : fnOk x = true) : (∀ p ∈ x.fParams, tForm p.fType = true) ∧ (∀ b ∈ x.fWhere, tForm b.fType = true) ∧ tForm x.fResult = true ∧ exF x.fBody = true := by
 unfold fnOk at h
 simp only [Bool.and_eq_true] at h
 obtain ⟨⟨⟨⟨⟨⟨h1, -⟩, -⟩, h2⟩, -⟩, h3⟩, h4⟩ := h
 refine ⟨fun p hp => ?_, wher_ok h2, tOver_form h3, body_ok h4⟩
 simp at h1
 exact tOver_form (h1 p hp)
theorem bdE_sz (b : TBound) : (bdE b).sz ≤ 10 + 16 * b.sz := by
 have := encT_sz b.fType
 have := b.sz_eq
 simp only [bdE_eq, li_sz, szL, List.length_cons, List.length_nil, atE_sz]; omega
theorem ctE_sz (c : TConstructor) : (ctE c).sz ≤ 1 + 16 * c.sz := by
 have h1 := szL_enc (e := encT) c.fFields fun y _ => encT_sz y
 have h2 := c.sz_eq
 unfold szs at h2
 simp only [ctE_eq, li_sz, eA_sz, eA_len, szL, List.length_cons, List.length_nil, atE_sz]; omega
theorem prE_sz (c : TParam) : (prE c).sz ≤ 10 + 16 * c.sz := by
 have h1 := encT_sz c.fType
 have h2 := c.sz_eq
 simp only [prE_eq, li_sz, szL, List.length_cons, List.length_nil, atE_sz]; omega
theorem sigE_sz {g : TSignature} (h : sigOk g = true) : (sigE g).sz ≤ 37 + 28 * g.sz := by
 obtain ⟨-, -, h3⟩ := sig_ok h
 have h1 := szL_enc (e := encT) g.fParams fun y _ => encT_sz y
 have h2 := g.sz_eq
 have h4 := encT_sz g.fResult
 have h5 := woE_sz g.fVars
 unfold szs at h2
 unfold sigE sgL
 rw [li_sz]
 split
 ·rename_i q
  have h6 := encX_sz _ (h3 q)
  simp only [szL_app, List.length_append, szL, List.length_cons, List.length_nil, atE_sz, li_sz, eA_sz, eA_len]; omega
 ·simp only [szL_app, List.length_append, szL, List.length_cons, List.length_nil, atE_sz, li_sz, eA_sz, eA_len]; omega
theorem fl2_sz (t : TTrait) : (woE (fl2 t)).sz ≤ 11 := by
 rw [woE_sz]
 have e1 : (⟨#[97, 117, 116, 111]⟩ : ByteArray).size = 4 := rfl
 have e2 : (⟨#[97, 115, 115, 111, 99]⟩ : ByteArray).size = 5 := rfl
 unfold fl2 fl1
 split <;> split <;> simp [szL, e1, e2]
theorem fld_sz (t : TInstance) : (woE (fld t)).sz ≤ 8 := by
 rw [woE_sz]
 have e1 : (⟨#[100, 101, 102, 97, 117, 108, 116]⟩ : ByteArray).size = 7 := rfl
 unfold fld
 split <;> simp [szL, e1]
theorem trE_sz {t : TTrait} (h : traitOk t = true) : (trE t).sz ≤ 24 + 38 * t.sz := by
 have h1 := szL_enc (e := sigE) t.fSignatures fun y hy => sigE_sz (trait_ok h y hy)
 have h2 := t.sz_eq
 have h5 := woE_sz t.fSupertraits
 have h6 := fl2_sz t
 have e1 : (⟨#[116, 114, 97, 105, 116]⟩ : ByteArray).size = 5 := rfl
 unfold szs at h2
 unfold trE
 simp only [eA_sz, eA_len, li_sz, szL, List.length_cons, List.length_nil, atE_sz, e1]; omega
theorem daE_sz (d : TDataType) : (daE d).sz ≤ 24 + 38 * d.sz := by
 have h1 := szL_enc (e := ctE) d.fConstructors fun y hy => ctE_sz y
 have h2 := d.sz_eq
 have h5 := woE_sz d.fVars
 have e1 : (⟨#[100, 97, 116, 97]⟩ : ByteArray).size = 4 := rfl
 unfold szs at h2
 unfold daE
 simp only [eA_sz, eA_len, li_sz, szL, List.length_cons, List.length_nil, atE_sz, e1]; omega
theorem meE_sz {m : TMethod} (h : exF m.fBody = true) : (meE m).sz ≤ 27 + 28 * m.sz := by
 have h1 := encX_sz _ h
 have h2 := m.sz_eq
 have h5 := woE_sz m.fVars
 unfold szs at h2
 unfold meE
 simp only [li_sz, szL, List.length_cons, List.length_nil, atE_sz]; omega
theorem inE_sz {x : TInstance} (h : instOk x = true) : (inE x).sz ≤ 48 + 38 * x.sz := by
 obtain ⟨-, -, -, h0⟩ := inst_ok h
 have h1 := szL_enc (e := meE) x.fMethods fun y hy => meE_sz (h0 y hy)
 have h2 := x.sz_eq
 have h3 := szL_enc (e := bdE) x.fWhere fun y _ => bdE_sz y
 have h4 := encT_sz x.fHead
 have h5 := woE_sz x.fVars
 have h6 := fld_sz x
 have h7 : (asL x).length + szL TSExpr.sz (asL x) ≤ 9 + 16 * x.fAssoc.sz := by
  have := encT_sz x.fAssoc
  unfold asL
  split <;> simp [szL]; omega
 have e1 : (⟨#[105, 110, 115, 116]⟩ : ByteArray).size = 4 := rfl
 unfold szs at h2
 unfold inE
 simp only [eA_sz, eA_len, li_sz, szL, List.length_cons, List.length_nil, atE_sz, e1]; omega
theorem fnE_sz {x : TFunction} (h : fnOk x = true) : (fnE x).sz ≤ 48 + 38 * x.sz := by
 obtain ⟨-, -, -, h0⟩ := fn_ok h
 have h1 := szL_enc (e := prE) x.fParams fun y hy => prE_sz y
 have h2 := x.sz_eq
 have h3 := szL_enc (e := bdE) x.fWhere fun y _ => bdE_sz y
 have h4 := encT_sz x.fResult
 have h5 := woE_sz x.fVars
 have h6 := encX_sz _ h0
 have e1 : (⟨#[102, 110]⟩ : ByteArray).size = 2 := rfl
 unfold szs at h2
 unfold fnE
 simp only [eA_sz, eA_len, li_sz, szL, List.length_cons, List.length_nil, atE_sz, e1]; omega
theorem ifE_sz (ok : Bool) (x : TSExpr) : (ifE ok x).sz ≤ x.sz := by
 unfold ifE
 split
 ·omega
 ·rw [emE_eq, li_sz]; simp [szL]
end Go.Proofs.YtkadbimpaplnmaaGreatDoor
