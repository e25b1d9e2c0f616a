/- Walks by the Den rules. No condition but sizes. -/
import Derived.Test.YtkadbimpaplnmaaGreatDoorM16
import Derived.Test.YtkadbimpaplnmaaGreatDoorM32
import Derived.Test.YtkadbimpaplnmaaGreatDoorM34
import Derived.Test.YtkadbimpaplnmaaGreatDoorM38
namespace Go.Proofs.YtkadbimpaplnmaaGreatDoor
open Go.RowKit
set_option maxRecDepth 10000
set_option linter.unusedSimpArgs false
set_option maxHeartbeats 4000000
theorem iAt_v (s : ByteArray) (h : HP) : CS cx.P 56 [.d (.lf (.string s))] h (.d ((⟨s, []⟩ : TSExpr).dd false)) h := by have := (iAt_d s h).vw; simpa using this
theorem encT_v (x : TType) (hz : x.sz ≤ 134217728) (hf : tForm x = true) (h : HP) : CS cx.P 111 [.d ((x).dd false)] h (.d ((encT x).dd false)) h := by have := (encodeType_d x hz hf h).vw; simpa using this
theorem vws_F (l : List TSExpr) : DD.vws (l.map (TSExpr.dd true)) = l.map (TSExpr.dd false) := vws_map (fun x => by simp) l
theorem encTs_v (l : List TType) (hl : l.length ≤ 134217728) (hs : ∀ y ∈ l, y.sz ≤ 134217728 ∧ tForm y = true) (h : HP) : CS cx.P 110 [.d (.sl false sh88 (l.map (TType.dd false)))] h (.d (.sl false sh61 ((eA [] encT l).map (TSExpr.dd false)))) h := by
 have := (encodeTypes_a l hl (fun y hy h => encodeType_d y (hs y hy).1 (hs y hy).2 h) h).vw
 have e : DD.vws (l.map encD) = (eA [] encT l).map (TSExpr.dd false) := by
  have e1 : l.map encD = (l.map encT).map (TSExpr.dd true) := by rw [List.map_map]; rfl
  rw [e1, vws_F]; simp [eA]
 simpa only [AV.vw, DD.vw, e] using this
theorem eKF_snoc {α : Type} {P : List TSExpr} {e : α → TSExpr} {l : List α} {k : Nat} (h : k < l.length) : (eK P e l k).map (TSExpr.dd false) ++ [(e l[k]).dd false] = (eK P e l (k + 1)).map (TSExpr.dd false) := by
 unfold eK
 rw [List.take_succ_eq_append_getElem h]; simp only [List.map_append, List.map_cons, List.map_nil, List.append_assoc]
theorem iList_v (l : List TSExpr) (h : HP) : CS cx.P 64 [.d (.sl false sh61 (l.map (TSExpr.dd false)))] h (.d ((⟨⟨#[]⟩, l⟩ : TSExpr).dd false)) h := by
 refine Ze Tryz.func64 rfl 5 ?_
 apply Zr; intros
 refine Zo ?_; simp
 exact Zx
 apply Zr; intros
 iterate 3 (refine Zo ?_; simp)
 exact Zx
 refine W.ret (Zq ?_)
 simp [Tryz.f64]
theorem atoms_v (l : List ByteArray) (hm : l.length ≤ 134217728) (h : HP) : CS cx.P 109 [.d (.sl false .one (l.map dS))] h (.d (.sl true sh61 ((eA [] atE l).map (TSExpr.dd false)))) h := by
 refine Ze Tryz.func109 rfl 20 ?_
 apply Zr; intros
 refine Zo ?_; simp
 exact Zx
 apply Zr; intros
 iterate 2 (refine Zo ?_; simp)
 exact Zx
 refine W.seq ?_
 apply Zr; intros
 iterate 3 (refine Zo ?_; simp)
 exact Zx
 refine W.block ?_
 refine W.loopk [7, 8] [] (fun k0 => [(9, .d (.lf (.int .i64 (k0 : Int)))), (3, .d (.sl true sh61 ((eK [] atE l k0).map (TSExpr.dd false))))]) (fun _ => []) l.length rfl (by simp [eK_zero]) fun k0 hk0 T hT => ?_
 simp at hT; subst hT
 apply Zr; intros
 refine Zo ?_; simp
 exact Zx
 refine Zv rfl ?_ ?_ <;> intro hb0 <;> try simp at hb0
 have hx0 := ixNext hb0 (by omega)
 refine W.skip ?_
 refine Zb ?_
 apply Zr; intros
 iterate 3 (refine Zo ?_ (by simp [hb0, hx0] <;> omega); simp [hb0, hx0])
 exact Zx
 apply Zs; intros
 refine Zm [13] ?_ (by simp [hb0, hx0] <;> omega); simp [hb0, hx0]
 refine Zo ?_ (by simp [hb0, hx0] <;> omega); simp [hb0, hx0]
 refine Zl [] rfl Tryz.func56 (iAt_v l[k0] _) ?_ (by simp [hb0, hx0]); simp [hb0, hx0]
 iterate 3 (refine Zo ?_ (by simp [hb0, hx0] <;> omega); simp [hb0, hx0])
 exact Zx
 apply Zs; intros
 iterate 2 (refine Zo ?_ (by simp [hb0, hx0] <;> omega); simp [hb0, hx0])
 exact Zx
 refine ⟨hb0, Wz.to rfl rfl rfl ?_⟩
 have hs := eKF_snoc (P := []) (e := atE) hb0
 simp at hs
 simp [hs]
 have hkl : k0 = l.length := by omega
 subst hkl
 simp only [eK_full]
 refine W.exit ?_
 apply Zr; intros
 refine Zm [19] ?_; simp
 refine Zo ?_; simp
 exact Zx
 refine W.ret (Zq ?_)
 simp [Tryz.f109]
theorem nList_v (l : List ByteArray) (hm : l.length ≤ 134217728) (h : HP) : CS cx.P 57 [.d (.sl false .one (l.map dS))] h (.d ((woE l).dd false)) h := by
 refine Ze Tryz.func57 rfl 6 ?_
 apply Zr; intros
 refine Zo ?_; simp
 exact Zx
 apply Zr; intros
 refine Zo ?_; simp
 refine Zl [] rfl Tryz.func109 (atoms_v l hm _) ?_; simp
 refine Zl [] rfl Tryz.func64 (iList_v (eA [] atE l) _) ?_; simp
 refine Zo ?_; simp
 exact Zx
 refine W.ret (Zq ?_)
 simp [Tryz.f57]
theorem wher_v (l : List TBound) (hm : l.length ≤ 134217728) (hs : ∀ y ∈ l, y.sz ≤ 134217728 ∧ tForm y.fType = true) (h : HP) : CS cx.P 113 [.d (.sl false sh206 (l.map (TBound.dd false)))] h (.d (((⟨⟨#[]⟩, (eA [] bdE l)⟩ : TSExpr)).dd false)) h := by
 refine Ze Tryz.func113 rfl 27 ?_
 apply Zr; intros
 refine Zo ?_; simp
 exact Zx
 apply Zr; intros
 iterate 2 (refine Zo ?_; simp)
 exact Zx
 refine W.seq ?_
 apply Zr; intros
 iterate 3 (refine Zo ?_; simp)
 exact Zx
 refine W.block ?_
 refine W.loopk [2, 7, 8] [2] (fun k0 => [(9, .d (.lf (.int .i64 (k0 : Int)))), (3, .d (.sl true sh61 ((eK [] bdE l k0).map (TSExpr.dd false))))]) (fun _ => []) l.length rfl (by simp [eK_zero]) fun k0 hk0 T hT => ?_
 simp at hT; subst hT
 apply Zr; intros
 refine Zo ?_; simp
 exact Zx
 refine Zv rfl ?_ ?_ <;> intro hb0 <;> try simp at hb0
 have hx0 := ixNext hb0 (by omega)
 have hy := hs _ (gm hb0)
 have hy2 := l[k0].sz_eq
 refine W.skip ?_
 refine Zb ?_
 apply Zr; intros
 refine Zo ?_ (by simp [hb0, hx0] <;> omega); simp [hb0, hx0]
 refine Zm [12] ?_ (by simp [hb0, hx0] <;> omega); simp [hb0, hx0]
 iterate 2 (refine Zo ?_ (by simp [hb0, hx0] <;> omega); simp [hb0, hx0])
 exact Zx
 apply W.regSD rfl; intro K hK
 refine Ym [13] ?_ (by simp [hb0, hx0] <;> omega); simp [hb0, hx0]
 iterate 2 (refine Yo ?_ (by simp [hb0, hx0] <;> omega); simp [hb0, hx0])
 refine Yl [] rfl Tryz.func56 (iAt_v l[k0].fTrait) ?_ (by simp [hb0, hx0]); simp [hb0, hx0]
 iterate 2 (refine Yo ?_ (by simp [hb0, hx0] <;> omega); simp [hb0, hx0])
 refine Yl [] rfl Tryz.func111 (encT_v l[k0].fType (by omega) hy.2) ?_ (by simp [hb0, hx0]); simp [hb0, hx0]
 refine Yo ?_ (by simp [hb0, hx0] <;> omega); simp [hb0, hx0]
 refine Yl [] rfl Tryz.func64 (iList_v [(⟨l[k0].fTrait, []⟩ : TSExpr), encT l[k0].fType]) ?_ (by simp [hb0, hx0]); simp [hb0, hx0]
 iterate 3 (refine Yo ?_ (by simp [hb0, hx0] <;> omega); simp [hb0, hx0])
 exact DL.nil rfl hK
 apply Zs; intros
 iterate 2 (refine Zo ?_ (by simp [hb0, hx0] <;> omega); simp [hb0, hx0])
 exact Zx
 refine ⟨hb0, Wz.to rfl rfl rfl ?_⟩
 have hs := eKF_snoc (P := []) (e := bdE) hb0
 simp at hs
 simp [hs]
 have hkl : k0 = l.length := by omega
 subst hkl
 simp only [eK_full]
 refine W.exit ?_
 apply Zr; intros
 refine Zo ?_; simp
 refine Zl [] rfl Tryz.func64 (iList_v (eA [] bdE l) _) ?_; simp
 refine Zo ?_; simp
 exact Zx
 refine W.ret (Zq ?_)
 simp [Tryz.f113]
theorem encX_a (x : TExpr) (hz : x.sz ≤ 134217728) (hf : exF x = true) (hc : ∀ y ∈ x.fArgs, ∀ h, CS cx.P 112 [.d ((y).dd false)] h (.d ((encX y).dd false)) h) (hc2 : ∀ a ∈ x.fArms, ∀ h, CS cx.P 112 [.d ((a.fBody).dd false)] h (.d ((encX a.fBody).dd false)) h) (h : HP) : CS cx.P 112 [.d ((x).dd false)] h (.d ((encX x).dd false)) h := by
 have hz2 := x.sz_eq; unfold szs at hz2
 refine Ze Tryz.func112 rfl 126 ?_
 apply Zr; intros
 iterate 2 (refine Zo ?_; simp)
 exact Zx
 apply Zr; intros
 iterate 2 (refine Zo ?_; simp)
 exact Zx
 refine W.seq ?_
 apply Zr; intros
 iterate 4 (refine Zo ?_; simp)
 exact Zx
 refine W.block ?_
 refine W.loopk [1, 2, 11, 12] [1, 2] (fun k0 => [(13, .d (.lf (.int .i64 (k0 : Int)))), (3, .d (.sl true sh61 ((eK [] encX x.fArgs k0).map (TSExpr.dd false))))]) (fun _ => []) x.fArgs.length rfl (by simp [eK_zero]) fun k0 hk0 T hT => ?_
 simp at hT; subst hT
 apply Zr; intros
 refine Zo ?_; simp
 exact Zx
 refine Zv rfl ?_ ?_ <;> intro hb0 <;> try simp at hb0
 have hx0 := ixNext hb0 (by omega)
 refine W.skip ?_
 refine Zb ?_
 apply Zr; intros
 refine Zo ?_ (by simp [hb0, hx0] <;> omega); simp [hb0, hx0]
 refine Zm [16] ?_ (by simp [hb0, hx0] <;> omega); simp [hb0, hx0]
 iterate 2 (refine Zo ?_ (by simp [hb0, hx0] <;> omega); simp [hb0, hx0])
 exact Zx
 apply Zs; intros
 refine Zm [17] ?_ (by simp [hb0, hx0] <;> omega); simp [hb0, hx0]
 refine Zo ?_ (by simp [hb0, hx0] <;> omega); simp [hb0, hx0]
 refine Zl [] rfl Tryz.func112 (hc x.fArgs[k0] (gm hb0) _) ?_ (by simp [hb0, hx0]); simp [hb0, hx0]
 iterate 3 (refine Zo ?_ (by simp [hb0, hx0] <;> omega); simp [hb0, hx0])
 exact Zx
 apply Zs; intros
 iterate 2 (refine Zo ?_ (by simp [hb0, hx0] <;> omega); simp [hb0, hx0])
 exact Zx
 refine ⟨hb0, Wz.to rfl rfl rfl ?_⟩
 have hs := eKF_snoc (P := []) (e := encX) hb0
 simp at hs
 simp [hs]
 have hkl : k0 = x.fArgs.length := by omega
 subst hkl
 simp only [eK_full]
 refine W.exit ?_
 apply Zr; intros
 iterate 2 (refine Zo ?_; simp)
 exact Zx
 refine W.seq ?_
 apply Zr; intros
 iterate 2 (refine Zo ?_; simp)
 exact Zx
 refine W.block ?_
 apply Zr; intros
 iterate 2 (refine Zo ?_; simp)
 exact Zx
 refine Zc rfl ?_ ?_ <;> intro hb1 <;> try simp at hb1
 have hres := encX_1 hb1
 have hi := (exF_n hf).1 hb1
 apply Zr; intros
 iterate 2 (refine Zo ?_; simp)
 refine Zl [] rfl Tryz.func15 (iFmtI_d x.fN (by unfold InR; have := i64mn; have := i64mx; omega) _) ?_; simp
 refine Zl [] rfl Tryz.func56 (iAt_v (itoaB x.fN) _) ?_; simp
 refine Zo ?_; simp
 exact Zx
 refine W.ret (Zq ?_)
 first | (simp [Tryz.f112, hres, hdq, eA]) | (simp [Tryz.f112, hres])
 apply Zr; intros
 iterate 2 (refine Zo ?_; simp)
 exact Zx
 refine Zc rfl ?_ ?_ <;> intro hb2 <;> try simp at hb2
 have hres := encX_2 hb2
 have hi := (exF_n hf).2 hb2
 refine W.seq ?_
 apply Zr; intros
 iterate 3 (refine Zo ?_; simp)
 exact Zx
 refine Zc rfl ?_ ?_ <;> intro hb3 <;> try simp at hb3
 rw [if_pos hb3] at hres
 apply Zr; intros
 refine Zl [] rfl Tryz.func56 (iAt_v ⟨#[116, 114, 117, 101]⟩ _) ?_; simp
 refine Zo ?_; simp
 exact Zx
 refine W.ret (Zq ?_)
 first | (simp [Tryz.f112, hres, hdq, eA]) | (simp [Tryz.f112, hres])
 rw [if_neg hb3] at hres
 refine W.skip ?_
 apply Zr; intros
 refine Zl [] rfl Tryz.func56 (iAt_v ⟨#[102, 97, 108, 115, 101]⟩ _) ?_; simp
 refine Zo ?_; simp
 exact Zx
 refine W.ret (Zq ?_)
 first | (simp [Tryz.f112, hres, hdq, eA]) | (simp [Tryz.f112, hres])
 apply Zr; intros
 iterate 2 (refine Zo ?_; simp)
 exact Zx
 refine Zc rfl ?_ ?_ <;> intro hb4 <;> try simp at hb4
 have hres := encX_3 hb4
 apply Zr; intros
 iterate 2 (refine Zo ?_; simp)
 refine Zl [] rfl Tryz.func56 (iAt_v x.fName _) ?_; simp
 refine Zo ?_; simp
 exact Zx
 refine W.ret (Zq ?_)
 first | (simp [Tryz.f112, hres, hdq, eA]) | (simp [Tryz.f112, hres])
 apply Zr; intros
 iterate 2 (refine Zo ?_; simp)
 exact Zx
 refine Zc rfl ?_ ?_ <;> intro hb5 <;> try simp at hb5
 have hres := encX_m hf hb1 hb2 hb4 (by omega)
 simp [hdE, hb5] at hres
 obtain ⟨hdl, hdq⟩ : ∃ q, q = (eA [] atE [⟨#[99, 97, 108, 108]⟩, x.fName]) ++ eA [] encX x.fArgs := ⟨_, rfl⟩
 apply Zs; intros
 iterate 3 (refine Zo ?_ (by simp [hdq] <;> omega); simp [hdq])
 refine Zl [] rfl Tryz.func109 (atoms_v [⟨#[99, 97, 108, 108]⟩, x.fName] (by simp) _) ?_ (by simp [hdq]); simp [hdq]
 refine Zo ?_ (by simp [hdq] <;> omega); simp [hdq]
 exact Zx
 apply Zr; intros
 refine Zm [122] ?_ (by simp [hdq] <;> omega); simp [hdq]
 refine Zm [123] ?_ (by simp [hdq] <;> omega); simp [hdq]
 refine Zo ?_ (by simp [hdq] <;> omega); simp [hdq]
 refine Zl [] rfl Tryz.func64 (iList_v hdl _) ?_ (by simp [hdq]); simp [hdq]
 refine Zo ?_ (by simp [hdq] <;> omega); simp [hdq]
 exact Zx
 refine W.ret (Zq ?_)
 first | (simp [Tryz.f112, hres, hdq, eA]) | (simp [Tryz.f112, hres])
 apply Zr; intros
 iterate 2 (refine Zo ?_; simp)
 exact Zx
 refine Zc rfl ?_ ?_ <;> intro hb6 <;> try simp at hb6
 have hres := encX_m hf hb1 hb2 hb4 (by omega)
 simp [hdE, hb6] at hres
 obtain ⟨hdl, hdq⟩ : ∃ q, q = (eA [] atE [⟨#[109, 101, 116, 104, 111, 100]⟩, x.fTrait, x.fName]) ++ eA [] encX x.fArgs := ⟨_, rfl⟩
 apply Zs; intros
 iterate 5 (refine Zo ?_ (by simp [hdq] <;> omega); simp [hdq])
 refine Zl [] rfl Tryz.func109 (atoms_v [⟨#[109, 101, 116, 104, 111, 100]⟩, x.fTrait, x.fName] (by simp) _) ?_ (by simp [hdq]); simp [hdq]
 refine Zo ?_ (by simp [hdq] <;> omega); simp [hdq]
 exact Zx
 apply Zr; intros
 refine Zm [122] ?_ (by simp [hdq] <;> omega); simp [hdq]
 refine Zm [123] ?_ (by simp [hdq] <;> omega); simp [hdq]
 refine Zo ?_ (by simp [hdq] <;> omega); simp [hdq]
 refine Zl [] rfl Tryz.func64 (iList_v hdl _) ?_ (by simp [hdq]); simp [hdq]
 refine Zo ?_ (by simp [hdq] <;> omega); simp [hdq]
 exact Zx
 refine W.ret (Zq ?_)
 first | (simp [Tryz.f112, hres, hdq, eA]) | (simp [Tryz.f112, hres])
 apply Zr; intros
 iterate 2 (refine Zo ?_; simp)
 exact Zx
 refine Zc rfl ?_ ?_ <;> intro hb7 <;> try simp at hb7
 have hres := encX_m hf hb1 hb2 hb4 (by omega)
 simp [hdE, hb7] at hres
 obtain ⟨hdl, hdq⟩ : ∃ q, q = (eA [] atE [⟨#[110, 101, 119]⟩, x.fName]) ++ eA [] encX x.fArgs := ⟨_, rfl⟩
 apply Zs; intros
 iterate 3 (refine Zo ?_ (by simp [hdq] <;> omega); simp [hdq])
 refine Zl [] rfl Tryz.func109 (atoms_v [⟨#[110, 101, 119]⟩, x.fName] (by simp) _) ?_ (by simp [hdq]); simp [hdq]
 refine Zo ?_ (by simp [hdq] <;> omega); simp [hdq]
 exact Zx
 apply Zr; intros
 refine Zm [122] ?_ (by simp [hdq] <;> omega); simp [hdq]
 refine Zm [123] ?_ (by simp [hdq] <;> omega); simp [hdq]
 refine Zo ?_ (by simp [hdq] <;> omega); simp [hdq]
 refine Zl [] rfl Tryz.func64 (iList_v hdl _) ?_ (by simp [hdq]); simp [hdq]
 refine Zo ?_ (by simp [hdq] <;> omega); simp [hdq]
 exact Zx
 refine W.ret (Zq ?_)
 first | (simp [Tryz.f112, hres, hdq, eA]) | (simp [Tryz.f112, hres])
 apply Zr; intros
 iterate 2 (refine Zo ?_; simp)
 exact Zx
 refine Zc rfl ?_ ?_ <;> intro hb8 <;> try simp at hb8
 have hres := encX_n hb1 hb2 hb4
 simp [hdE, hb8] at hres
 obtain ⟨hdl, hdq⟩ : ∃ q, q = (eA [] atE [⟨#[99, 97, 115, 101]⟩]) ++ eA (eA [] encX x.fArgs) encXa x.fArms := ⟨_, rfl⟩
 apply Zr; intros
 refine Zo ?_ (by simp [hdq] <;> omega); simp [hdq]
 refine Zl [] rfl Tryz.func109 (atoms_v [⟨#[99, 97, 115, 101]⟩] (by simp) _) ?_ (by simp [hdq]); simp [hdq]
 refine Zo ?_ (by simp [hdq] <;> omega); simp [hdq]
 exact Zx
 apply Zr; intros
 iterate 4 (refine Zo ?_ (by simp [hdq] <;> omega); simp [hdq])
 exact Zx
 refine W.block ?_
 refine W.loopk [2, 6, 69, 70] [2] (fun k1 => [(71, .d (.lf (.int .i64 (k1 : Int)))), (3, .d (.sl true sh61 ((eK (eA [] encX x.fArgs) encXa x.fArms k1).map (TSExpr.dd false))))]) (fun _ => []) x.fArms.length rfl (by simp [eK_zero]) fun k1 hk1 T hT => ?_
 simp at hT; subst hT
 apply Zr; intros
 refine Zo ?_ (by simp [hdq] <;> omega); simp [hdq]
 exact Zx
 refine Zv rfl ?_ ?_ <;> intro hb9 <;> try simp at hb9
 have hx1 := ixNext hb9 (by omega)
 have hy := szL_le TArm.sz (gm hb9)
 have hy2 := x.fArms[k1].sz_eq; unfold szs at hy2
 have hae := encXa_eq x.fArms[k1]
 refine W.skip ?_
 refine Zb ?_
 apply Zr; intros
 refine Zo ?_ (by simp [hdq, hb9, hx1] <;> omega); simp [hdq, hb9, hx1]
 refine Zm [74] ?_ (by simp [hdq, hb9, hx1] <;> omega); simp [hdq, hb9, hx1]
 iterate 2 (refine Zo ?_ (by simp [hdq, hb9, hx1] <;> omega); simp [hdq, hb9, hx1])
 exact Zx
 apply W.regSD rfl; intro K hK
 refine Ym [75] ?_ (by simp [hdq, hb9, hx1] <;> omega); simp [hdq, hb9, hx1]
 iterate 3 (refine Yo ?_ (by simp [hdq, hb9, hx1] <;> omega); simp [hdq, hb9, hx1])
 refine Yl [] rfl Tryz.func109 (atoms_v [x.fArms[k1].fConstructor] (by simp)) ?_ (by simp [hdq, hb9, hx1]); simp [hdq, hb9, hx1]
 iterate 2 (refine Yo ?_ (by simp [hdq, hb9, hx1] <;> omega); simp [hdq, hb9, hx1])
 refine Yl [] rfl Tryz.func109 (atoms_v x.fArms[k1].fVars (by omega)) ?_ (by simp [hdq, hb9, hx1]); simp [hdq, hb9, hx1]
 iterate 2 (refine Yo ?_ (by simp [hdq, hb9, hx1] <;> omega); simp [hdq, hb9, hx1])
 refine Yl [] rfl Tryz.func112 (hc2 x.fArms[k1] (gm hb9)) ?_ (by simp [hdq, hb9, hx1]); simp [hdq, hb9, hx1]
 iterate 2 (refine Yo ?_ (by simp [hdq, hb9, hx1] <;> omega); simp [hdq, hb9, hx1])
 refine Yl [] rfl Tryz.func173 (ConcatX_d [eA [] atE [x.fArms[k1].fConstructor], eA [] atE x.fArms[k1].fVars, [encX x.fArms[k1].fBody]] (by simp) (by simp [lenK]; omega)) ?_ (by simp [hdq, hb9, hx1]); simp [hdq, hb9, hx1]
 refine Yl [] rfl Tryz.func64 (iList_v (eA [] atE [x.fArms[k1].fConstructor] ++ (eA [] atE x.fArms[k1].fVars ++ [encX x.fArms[k1].fBody]))) ?_ (by simp [hdq, hb9, hx1]); simp [hdq, hb9, hx1]
 iterate 3 (refine Yo ?_ (by simp [hdq, hb9, hx1] <;> omega); simp [hdq, hb9, hx1])
 exact DL.nil rfl hK
 apply Zs; intros
 iterate 2 (refine Zo ?_ (by simp [hdq, hb9, hx1] <;> omega); simp [hdq, hb9, hx1])
 exact Zx
 refine ⟨hb9, Wz.to rfl rfl rfl ?_⟩
 have hs := eKF_snoc (P := eA [] encX x.fArgs) (e := encXa) hb9
 rw [hae] at hs
 simp [eA] at hs
 simp [eA, hs]
 have hkl : k1 = x.fArms.length := by omega
 subst hkl
 simp only [eK_full]
 refine W.exit ?_
 apply Zr; intros
 refine Zm [122] ?_ (by simp [hdq] <;> omega); simp [hdq]
 refine Zm [123] ?_ (by simp [hdq] <;> omega); simp [hdq]
 refine Zo ?_ (by simp [hdq] <;> omega); simp [hdq]
 refine Zl [] rfl Tryz.func64 (iList_v hdl _) ?_ (by simp [hdq]); simp [hdq]
 refine Zo ?_ (by simp [hdq] <;> omega); simp [hdq]
 exact Zx
 refine W.ret (Zq ?_)
 first | (simp [Tryz.f112, hres, hdq, eA]) | (simp [Tryz.f112, hres])
 apply Zr; intros
 iterate 2 (refine Zo ?_; simp)
 exact Zx
 refine Zc rfl ?_ ?_ <;> intro hb10 <;> try simp at hb10
 have hres := encX_m hf hb1 hb2 hb4 (by omega)
 simp [hdE, hb10] at hres
 obtain ⟨hdl, hdq⟩ : ∃ q, q = (eA [] atE [⟨#[108, 101, 116]⟩, x.fName]) ++ eA [] encX x.fArgs := ⟨_, rfl⟩
 apply Zs; intros
 iterate 3 (refine Zo ?_ (by simp [hdq] <;> omega); simp [hdq])
 refine Zl [] rfl Tryz.func109 (atoms_v [⟨#[108, 101, 116]⟩, x.fName] (by simp) _) ?_ (by simp [hdq]); simp [hdq]
 refine Zo ?_ (by simp [hdq] <;> omega); simp [hdq]
 exact Zx
 apply Zr; intros
 refine Zm [122] ?_ (by simp [hdq] <;> omega); simp [hdq]
 refine Zm [123] ?_ (by simp [hdq] <;> omega); simp [hdq]
 refine Zo ?_ (by simp [hdq] <;> omega); simp [hdq]
 refine Zl [] rfl Tryz.func64 (iList_v hdl _) ?_ (by simp [hdq]); simp [hdq]
 refine Zo ?_ (by simp [hdq] <;> omega); simp [hdq]
 exact Zx
 refine W.ret (Zq ?_)
 first | (simp [Tryz.f112, hres, hdq, eA]) | (simp [Tryz.f112, hres])
 apply Zr; intros
 iterate 2 (refine Zo ?_; simp)
 exact Zx
 refine Zc rfl ?_ ?_ <;> intro hb11 <;> try simp at hb11
 have hres := encX_m hf hb1 hb2 hb4 (by omega)
 simp [hdE, hb11] at hres
 obtain ⟨hdl, hdq⟩ : ∃ q, q = (eA [] atE [⟨#[105, 102]⟩]) ++ eA [] encX x.fArgs := ⟨_, rfl⟩
 apply Zs; intros
 refine Zo ?_ (by simp [hdq] <;> omega); simp [hdq]
 refine Zl [] rfl Tryz.func109 (atoms_v [⟨#[105, 102]⟩] (by simp) _) ?_ (by simp [hdq]); simp [hdq]
 refine Zo ?_ (by simp [hdq] <;> omega); simp [hdq]
 exact Zx
 apply Zr; intros
 refine Zm [122] ?_ (by simp [hdq] <;> omega); simp [hdq]
 refine Zm [123] ?_ (by simp [hdq] <;> omega); simp [hdq]
 refine Zo ?_ (by simp [hdq] <;> omega); simp [hdq]
 refine Zl [] rfl Tryz.func64 (iList_v hdl _) ?_ (by simp [hdq]); simp [hdq]
 refine Zo ?_ (by simp [hdq] <;> omega); simp [hdq]
 exact Zx
 refine W.ret (Zq ?_)
 first | (simp [Tryz.f112, hres, hdq, eA]) | (simp [Tryz.f112, hres])
 apply Zr; intros
 iterate 2 (refine Zo ?_; simp)
 exact Zx
 refine Zc rfl ?_ ?_ <;> intro hb12 <;> try simp at hb12
 have hres := encX_m hf hb1 hb2 hb4 (by omega)
 simp [hdE, hb12] at hres
 obtain ⟨hdl, hdq⟩ : ∃ q, q = (eA [] atE [x.fName]) ++ eA [] encX x.fArgs := ⟨_, rfl⟩
 apply Zs; intros
 iterate 3 (refine Zo ?_ (by simp [hdq] <;> omega); simp [hdq])
 refine Zl [] rfl Tryz.func109 (atoms_v [x.fName] (by simp) _) ?_ (by simp [hdq]); simp [hdq]
 refine Zo ?_ (by simp [hdq] <;> omega); simp [hdq]
 exact Zx
 apply Zr; intros
 refine Zm [122] ?_ (by simp [hdq] <;> omega); simp [hdq]
 refine Zm [123] ?_ (by simp [hdq] <;> omega); simp [hdq]
 refine Zo ?_ (by simp [hdq] <;> omega); simp [hdq]
 refine Zl [] rfl Tryz.func64 (iList_v hdl _) ?_ (by simp [hdq]); simp [hdq]
 refine Zo ?_ (by simp [hdq] <;> omega); simp [hdq]
 exact Zx
 refine W.ret (Zq ?_)
 first | (simp [Tryz.f112, hres, hdq, eA]) | (simp [Tryz.f112, hres])
 apply Zr; intros
 iterate 2 (refine Zo ?_; simp)
 exact Zx
 refine Zc rfl ?_ ?_ <;> intro hb13 <;> try simp at hb13
 have hres := encX_m hf hb1 hb2 hb4 (by omega)
 simp [hdE, hb13] at hres
 obtain ⟨hdl, hdq⟩ : ∃ q, q = (eA [] atE [⟨#[112, 97, 99, 107]⟩, x.fTrait]) ++ eA [] encX x.fArgs := ⟨_, rfl⟩
 apply Zs; intros
 iterate 3 (refine Zo ?_ (by simp [hdq] <;> omega); simp [hdq])
 refine Zl [] rfl Tryz.func109 (atoms_v [⟨#[112, 97, 99, 107]⟩, x.fTrait] (by simp) _) ?_ (by simp [hdq]); simp [hdq]
 refine Zo ?_ (by simp [hdq] <;> omega); simp [hdq]
 exact Zx
 apply Zr; intros
 refine Zm [122] ?_ (by simp [hdq] <;> omega); simp [hdq]
 refine Zm [123] ?_ (by simp [hdq] <;> omega); simp [hdq]
 refine Zo ?_ (by simp [hdq] <;> omega); simp [hdq]
 refine Zl [] rfl Tryz.func64 (iList_v hdl _) ?_ (by simp [hdq]); simp [hdq]
 refine Zo ?_ (by simp [hdq] <;> omega); simp [hdq]
 exact Zx
 refine W.ret (Zq ?_)
 first | (simp [Tryz.f112, hres, hdq, eA]) | (simp [Tryz.f112, hres])
 apply Zr; intros
 iterate 2 (refine Zo ?_; simp)
 exact Zx
 refine Zc rfl ?_ ?_ <;> intro hb14 <;> try simp at hb14
 have hres := encX_m hf hb1 hb2 hb4 (by omega)
 simp [hdE, hb14] at hres
 have hty := exF_ty hf hb14
 obtain ⟨hdl, hdq⟩ : ∃ q, q = ([(⟨⟨#[116, 104, 101]⟩, []⟩ : TSExpr), encT x.fType]) ++ eA [] encX x.fArgs := ⟨_, rfl⟩
 apply W.regSD rfl; intro K hK
 refine Yl [] rfl Tryz.func56 (iAt_v ⟨#[116, 104, 101]⟩) ?_ (by simp [hdq]); simp [hdq]
 iterate 2 (refine Yo ?_ (by simp [hdq] <;> omega); simp [hdq])
 refine Yl [] rfl Tryz.func111 (encT_v x.fType (by omega) hty) ?_ (by simp [hdq]); simp [hdq]
 iterate 2 (refine Yo ?_ (by simp [hdq] <;> omega); simp [hdq])
 exact DL.nil rfl hK
 apply Zr; intros
 refine Zm [122] ?_ (by simp [hdq] <;> omega); simp [hdq]
 refine Zm [123] ?_ (by simp [hdq] <;> omega); simp [hdq]
 refine Zo ?_ (by simp [hdq] <;> omega); simp [hdq]
 refine Zl [] rfl Tryz.func64 (iList_v hdl _) ?_ (by simp [hdq]); simp [hdq]
 refine Zo ?_ (by simp [hdq] <;> omega); simp [hdq]
 exact Zx
 refine W.ret (Zq ?_)
 first | (simp [Tryz.f112, hres, hdq, eA]) | (simp [Tryz.f112, hres])
 exfalso; have := exF_kind hf; omega
theorem encX_v (x : TExpr) (hz : x.sz ≤ 134217728) (hf : exF x = true) (h : HP) : CS cx.P 112 [.d ((x).dd false)] h (.d ((encX x).dd false)) h := encX_a x hz hf (fun y hy h => encX_v y (by have h1 := szL_le TExpr.sz hy; have h2 := x.sz_eq; unfold szs at h2; omega) (exF_args hf y hy) h) (fun a ha h => encX_v a.fBody (by have h1 := szL_le TArm.sz ha; have h2 := x.sz_eq; have h3 := a.sz_eq; unfold szs at h2; omega) (exF_armsOk hf a ha) h) h
termination_by SizeOf.sizeOf x
decreasing_by
 ·have := List.sizeOf_lt_of_mem hy; have := x.lt_fArgs; omega
 ·have := List.sizeOf_lt_of_mem ha; have := x.lt_fArms; have := a.lt_fBody; omega
def mxE (x : TSExpr) : DD := .st [.lf (.string x.fAtom), .sl true sh61 (x.fList.map (TSExpr.dd false))]
theorem mxE_eq (x : TSExpr) : mxE x = .st [.lf (.string x.fAtom), .sl true sh61 (x.fList.map (TSExpr.dd false))] := rfl
attribute [simp] mxE_eq
def noE (x : TSExpr) : Bool := decide (x.fAtom.toList = []) && decide (x.fList = [])
def rwP (x : TPackage) : List TSExpr := eA (eA (eA (eA [] trE x.fTraits) daE x.fDataTypes) inE x.fInstances) fnE x.fFunctions
theorem rwP_len (x : TPackage) : (rwP x).length = x.fTraits.length + x.fDataTypes.length + x.fInstances.length + x.fFunctions.length := by unfold rwP; simp only [eA_len, List.length_nil, Nat.zero_add]
theorem ifE_noL {e : TSExpr} (h : e.fList ≠ []) : noL (ifE true e) = !eValid e := by
 unfold ifE noL
 rw [Bool.true_and]
 cases hv : eValid e with
 | true => simp [h]
 | false => simp
theorem ifE_yes {e : TSExpr} (h : eValid e = true) : ifE true e = e := by unfold ifE; rw [Bool.true_and, if_pos h]
theorem any_eA {α : Type} (p : TSExpr → Bool) (P : List TSExpr) (e : α → TSExpr) (l : List α) : (eA P e l).any p = (P.any p || l.any fun y => p (e y)) := by unfold eA; rw [List.any_append, List.any_map]; rfl
theorem rw_any (x : TPackage) : (pkR x).any noL = (rwP x).any fun e => !eValid e := by
 unfold pkR rwP
 simp only [any_eA, List.any_nil, Bool.false_or]
 have h1 : (fun y : TTrait => noL (itT y)) = fun y => !eValid (trE y) := by funext y; exact ifE_noL (by simp [eA])
 have h2 : (fun y : TDataType => noL (itD y)) = fun y => !eValid (daE y) := by funext y; exact ifE_noL (by simp [eA])
 have h3 : (fun y : TInstance => noL (itI y)) = fun y => !eValid (inE y) := by funext y; exact ifE_noL (by simp [eA])
 have h4 : (fun y : TFunction => noL (itF y)) = fun y => !eValid (fnE y) := by funext y; exact ifE_noL (by simp)
 rw [h1, h2, h3, h4]
theorem map_if {α : Type} {e i : α → TSExpr} {l : List α} (hi : ∀ y, i y = ifE true (e y)) (h : (l.any fun y => !eValid (e y)) = false) : l.map i = l.map e := by
 refine List.map_congr_left fun y hy => ?_
 have : eValid (e y) = true := by simpa using (List.any_eq_false.1 h) y hy
 rw [hi, ifE_yes this]
theorem rw_eq {x : TPackage} (h : ((rwP x).any fun e => !eValid e) = false) : pkR x = rwP x := by
 unfold rwP at h
 simp only [any_eA, List.any_nil, Bool.false_or, Bool.or_eq_false_iff] at h
 obtain ⟨⟨⟨h1, h2⟩, h3⟩, h4⟩ := h
 unfold pkR rwP eA
 rw [map_if (e := trE) (i := itT) (fun _ => rfl) h1, map_if (e := daE) (i := itD) (fun _ => rfl) h2, map_if (e := inE) (i := itI) (fun _ => rfl) h3, map_if (e := fnE) (i := itF) (fun _ => rfl) h4]
theorem pkE_atom (x : TPackage) : (pkE x).fAtom = ⟨#[]⟩ := by
 unfold pkE
 split
 ·split
  ·rfl
  ·unfold ifE; split <;> rfl
 ·rfl
theorem rwP_sz {x : TPackage} (h : pkgOk x = true) : ∀ e ∈ rwP x, e.sz ≤ 48 + 38 * x.sz := by
 obtain ⟨h1, h2, h3, h4⟩ := pk_ok h
 have hx := x.sz_eq
 unfold szs at hx
 intro e he
 unfold rwP eA at he
 simp only [List.nil_append, List.mem_append, List.mem_map] at he
 rcases he with ((⟨y, hy, rfl⟩ | ⟨y, hy, rfl⟩) | ⟨y, hy, rfl⟩) | ⟨y, hy, rfl⟩
 ·have := trE_sz (h1 y hy); have := szL_le TTrait.sz hy; omega
 ·have := daE_sz y; have := szL_le TDataType.sz hy; omega
 ·have := inE_sz (h3 y hy); have := szL_le TInstance.sz hy; omega
 ·have := fnE_sz (h4 y hy); have := szL_le TFunction.sz hy; omega
theorem iList_m (l : List TSExpr) (h : HP) : CS cx.P 64 [.d (.sl true sh61 (l.map (TSExpr.dd false)))] h (.d (mxE ⟨⟨#[]⟩, l⟩)) h := by
 refine Ze Tryz.func64 rfl 5 ?_
 apply Zr; intros
 refine Zo ?_; simp
 exact Zx
 apply Zr; intros
 refine Zm [3] ?_; simp
 iterate 2 (refine Zo ?_; simp)
 exact Zx
 refine W.ret (Zq ?_)
 simp [Tryz.f64]
theorem if_m (x : TSExpr) (hz : x.sz ≤ 134217728) (h : HP) : CS cx.P 63 [.d (mxE x)] h (.d (mxE (ifE true x))) h := by
 refine Ze Tryz.func63 rfl 8 ?_
 apply Zr; intros
 iterate 2 (refine Zo ?_; simp)
 exact Zx
 refine W.seq ?_
 apply Zr; intros
 refine Zo ?_; simp
 refine Zl [] rfl Tryz.func62 (iValidE_d x hz _) ?_; simp
 refine Zo ?_; simp
 exact Zx
 refine Zc rfl ?_ ?_ <;> intro hb0 <;> try simp at hb0
 have hres : ifE true x = emE := by unfold ifE; exact if_neg (by simp [hb0])
 apply Zr; intros
 iterate 2 (refine Zo ?_; simp)
 exact Zx
 refine W.ret (Zq ?_)
 simp [Tryz.f63, hres]
 have hres : ifE true x = x := ifE_yes (by simpa using hb0)
 refine W.skip ?_
 apply Zr; intros
 refine Zm [7] ?_; simp
 refine Zo ?_; simp
 exact Zx
 refine W.ret (Zq ?_)
 simp [Tryz.f63, hres]
end Go.Proofs.YtkadbimpaplnmaaGreatDoor
