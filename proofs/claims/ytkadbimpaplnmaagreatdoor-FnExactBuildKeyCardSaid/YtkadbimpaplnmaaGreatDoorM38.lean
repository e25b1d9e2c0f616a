/- Walks by the Den rules. No condition but sizes. -/
import Derived.Test.YtkadbimpaplnmaaGreatDoorM16
import Derived.Test.YtkadbimpaplnmaaGreatDoorM36
import Derived.Test.YtkadbimpaplnmaaGreatDoorM37
namespace Go.Proofs.YtkadbimpaplnmaaGreatDoor
open Go.RowKit
set_option maxRecDepth 10000
set_option linter.unusedSimpArgs false
set_option maxHeartbeats 4000000
def itT (t : TTrait) : TSExpr := ifE true (trE t)
def itD (t : TDataType) : TSExpr := ifE true (daE t)
def itI (t : TInstance) : TSExpr := ifE true (inE t)
def itF (t : TFunction) : TSExpr := ifE true (fnE t)
def pkR (x : TPackage) : List TSExpr := (eA (eA (eA (eA [] itT x.fTraits) itD x.fDataTypes) itI x.fInstances) itF x.fFunctions)
def pkP (x : TPackage) : List TSExpr := [⟨⟨#[112, 97, 99, 107, 97, 103, 101]⟩, []⟩, ⟨x.fName, []⟩, woE x.fDeps]
def noL (e : TSExpr) : Bool := decide (e.fList = [])
def pkE (x : TPackage) : TSExpr := if pkgOk x = true then (if (pkR x).any noL = true then emE else ifE true ⟨⟨#[]⟩, pkP x ++ pkR x⟩) else emE
theorem pkR_len (x : TPackage) : (pkR x).length = x.fTraits.length + x.fDataTypes.length + x.fInstances.length + x.fFunctions.length := by unfold pkR; simp only [eA_len, List.length_nil, Nat.zero_add]
theorem pk_ok {x : TPackage} (h : pkgOk x = true) : (∀ t ∈ x.fTraits, traitOk t = true) ∧ (∀ t ∈ x.fDataTypes, dataOk t = true) ∧ (∀ t ∈ x.fInstances, instOk t = true) ∧ (∀ t ∈ x.fFunctions, fnOk t = true) := by
 unfold pkgOk at h
 simp only [Bool.and_eq_true] at h
 have := h.2
 unfold rightOk at this
 simp at this
 exact ⟨this.1.1.1, this.1.1.2, this.1.2, this.2⟩
theorem pkR_sz {x : TPackage} (h : pkgOk x = true) : szL TSExpr.sz (pkR x) + (pkR x).length ≤ 49 * (x.fTraits.length + x.fDataTypes.length + x.fInstances.length + x.fFunctions.length) + 38 * (szL TTrait.sz x.fTraits + szL TDataType.sz x.fDataTypes + szL TInstance.sz x.fInstances + szL TFunction.sz x.fFunctions) := by
 obtain ⟨h1, h2, h3, h4⟩ := pk_ok h
 have k1 := szL_enc (e := itT) (g := TTrait.sz) (C := 48) (D := 38) x.fTraits fun y hy => by have := trE_sz (h1 y hy); have := ifE_sz true (trE y); unfold itT; omega
 have k2 := szL_enc (e := itD) (g := TDataType.sz) (C := 48) (D := 38) x.fDataTypes fun y hy => by have := daE_sz y; have := ifE_sz true (daE y); unfold itD; omega
 have k3 := szL_enc (e := itI) (g := TInstance.sz) (C := 48) (D := 38) x.fInstances fun y hy => by have := inE_sz (h3 y hy); have := ifE_sz true (inE y); unfold itI; omega
 have k4 := szL_enc (e := itF) (g := TFunction.sz) (C := 48) (D := 38) x.fFunctions fun y hy => by have := fnE_sz (h4 y hy); have := ifE_sz true (fnE y); unfold itF; omega
 rw [pkR_len]
 unfold pkR
 simp only [eA_sz, szL]; omega
theorem pk_sz {x : TPackage} (h : pkgOk x = true) : (⟨⟨#[]⟩, pkP x ++ pkR x⟩ : TSExpr).sz ≤ 20 + 64 * x.sz := by
 have k1 := pkR_sz h
 have h2 := x.sz_eq
 have h5 := woE_sz x.fDeps
 have e1 : (⟨#[112, 97, 99, 107, 97, 103, 101]⟩ : ByteArray).size = 7 := rfl
 unfold szs at h2
 rw [li_sz, szL_app, List.length_append]
 unfold pkP
 simp only [szL, List.length_cons, List.length_nil, atE_sz, e1]; omega
theorem pkE_sz (x : TPackage) : (pkE x).sz ≤ 20 + 64 * x.sz := by
 unfold pkE
 split
 ·split
  ·rw [emE_eq, li_sz]; simp [szL]
  ·rename_i h _
   have := pk_sz h
   have := ifE_sz true ⟨⟨#[]⟩, pkP x ++ pkR x⟩
   omega
 ·rw [emE_eq, li_sz]; simp [szL]
def fmP (x : TPackage) : ByteArray := if (pkE x).fList = [] then ⟨#[]⟩ else fmtE (pkE x)
theorem fmP_size (x : TPackage) : (fmP x).size ≤ 62 + 192 * x.sz := by
 have h1 := pkE_sz x
 have h2 := eText_size (pkE x)
 unfold fmP fmtE
 split
 ·simp
 ·split
  ·omega
  ·simp
def fmAt (x : TProgram) (k : Nat) : ByteArray := match x.fPackages[k]? with
 | some q => fmP q
 | none => ⟨#[]⟩
def keyK (x : TProgram) (l : List Nat) : Nat → ByteArray
 | 0 => ⟨#[]⟩
 | k + 1 => keyK x l k ++ itoaB (l.getD k 0 : Nat) ++ ⟨#[32]⟩ ++ fmAt x (l.getD k 0) ++ ⟨#[10]⟩
theorem fmAt_size {x : TProgram} (hz : x.sz ≤ 1048576) (k : Nat) : (fmAt x k).size ≤ 268435456 := by
 unfold fmAt
 split
 ·rename_i q hq
  have h1 := fmP_size q
  have h2 := szL_le TPackage.sz (List.mem_of_getElem? hq)
  have h3 := x.sz_eq
  unfold szs at h3
  omega
 ·simp
theorem keyK_size {x : TProgram} (hz : x.sz ≤ 1048576) (l : List Nat) (hl : ∀ n ∈ l, n < x.fPackages.length) : ∀ k, k ≤ l.length → (keyK x l k).size ≤ k * 268435500
 | 0, _ => by simp [keyK]
 | k + 1, hk => by
  have h1 := keyK_size hz l hl k (by omega)
  have h2 := fmAt_size hz (l.getD k 0)
  have h5 : l.getD k 0 < x.fPackages.length := by rw [List.getD_eq_getElem?_getD, List.getElem?_eq_getElem (by omega)]; exact hl _ (gm _)
  have h6 := x.sz_eq
  unfold szs at h6
  have h3 := itoaB_len (l.getD k 0 : Nat) (by omega)
  have e1 : (⟨#[32]⟩ : ByteArray).size = 1 := rfl
  have e2 : (⟨#[10]⟩ : ByteArray).size = 1 := rfl
  simp only [keyK, ByteArray.size_append, e1, e2]; omega
theorem visO_lt {x : TProgram} {A : List (List Nat)} {p k n : Nat} (h : n ∈ visO x A p k) : n < k := by
 unfold visO at h
 have := (List.mem_filter.1 h).1
 simpa using this
theorem vis_lt {x : TProgram} {i : Int} : ∀ n ∈ vis x i, n < x.fPackages.length := fun n hn => by
 unfold vis at hn
 split at hn
 ·rename_i h
  have hq : i.toNat < i.toNat + 1 := by omega
  rw [List.getD_eq_getElem?_getD, visA_at x hq] at hn
  simp only [Option.getD_some, List.mem_append, List.mem_singleton] at hn
  rcases hn with q | q
  ·have := visO_lt q; omega
  ·omega
 ·simp at hn
theorem vis_len {x : TProgram} {i : Int} : (vis x i).length ≤ x.fPackages.length := by
 unfold vis
 split
 ·rename_i h
  have hq : i.toNat < i.toNat + 1 := by omega
  rw [List.getD_eq_getElem?_getD, visA_at x hq]
  have := visO_len x (visA x i.toNat) i.toNat i.toNat
  simp; omega
 ·simp
theorem sTraitX_e (x : TTrait) (hz : x.sz ≤ 1048576) (hok : traitOk x = true) (h : HP) : CS cx.P 40 [.d (x.dd false)] h (.d ((itT x).dd true)) h := sTraitX_d x hz hok h
theorem sDataX_e (x : TDataType) (hz : x.sz ≤ 1048576) (hok : dataOk x = true) (h : HP) : CS cx.P 41 [.d (x.dd false)] h (.d ((itD x).dd true)) h := sDataX_d x hz hok h
theorem sInstX_e (x : TInstance) (hz : x.sz ≤ 1048576) (hok : instOk x = true) (h : HP) : CS cx.P 42 [.d (x.dd false)] h (.d ((itI x).dd true)) h := sInstX_d x hz hok h
theorem sFnX_e (x : TFunction) (hz : x.sz ≤ 1048576) (hok : fnOk x = true) (h : HP) : CS cx.P 43 [.d (x.dd false)] h (.d ((itF x).dd true)) h := sFnX_d x hz hok h
theorem sPkX_d (x : TPackage) (hz : x.sz ≤ 1048576) (h : HP) : CS cx.P 22 [.d (x.dd false)] h (.d ((pkE x).dd true)) h := by
 have hz2 := x.sz_eq; unfold szs at hz2
 refine Ze Tryz.func22 rfl 112 ?_
 apply Zr; intros
 iterate 2 (refine Zo ?_ (by simp [pkP, pkR] <;> omega); simp [pkP, pkR])
 exact Zx
 refine W.seq ?_
 apply Zr; intros
 refine Zo ?_ (by simp [pkP, pkR] <;> omega); simp [pkP, pkR]
 refine Zl [] rfl Tryz.func36 (sPkg_d x (by omega) _) ?_ (by simp [pkP, pkR]); simp [pkP, pkR]
 refine Zo ?_ (by simp [pkP, pkR] <;> omega); simp [pkP, pkR]
 exact Zx
 refine Zc rfl ?_ ?_ <;> intro hb0 <;> try simp at hb0
 have hres : pkE x = emE := by unfold pkE; exact if_neg (by simp [hb0])
 apply Zr; intros
 iterate 2 (refine Zo ?_ (by simp [pkP, pkR] <;> omega); simp [pkP, pkR])
 exact Zx
 refine W.ret (Zq ?_)
 simp [Tryz.f22, hres, pkP, pkR]
 have hok : pkgOk x = true := by simpa using hb0
 have hpo := pk_ok hok
 have hps := pk_sz hok
 refine W.skip ?_
 apply Yr rfl; intro K hK
 refine Yl [] rfl Tryz.func38 (sAt_d ⟨#[112, 97, 99, 107, 97, 103, 101]⟩) ?_ (by simp [pkP, pkR]); simp [pkP, pkR]
 iterate 2 (refine Yo ?_ (by simp [pkP, pkR] <;> omega); simp [pkP, pkR])
 refine Yl [] rfl Tryz.func38 (sAt_d x.fName) ?_ (by simp [pkP, pkR]); simp [pkP, pkR]
 iterate 2 (refine Yo ?_ (by simp [pkP, pkR] <;> omega); simp [pkP, pkR])
 refine Yl [] rfl Tryz.func39 (l14Words_d x.fDeps (by omega)) ?_ (by simp [pkP, pkR]); simp [pkP, pkR]
 refine Yo ?_ (by simp [pkP, pkR] <;> omega); simp [pkP, pkR]
 refine Yl [20] rfl Tryz.func37 (sList_d [(⟨⟨#[112, 97, 99, 107, 97, 103, 101]⟩, []⟩ : TSExpr), (⟨x.fName, []⟩ : TSExpr), woE x.fDeps] (by simp)) ?_ (by simp [pkP, pkR]); simp [pkP, pkR]
 iterate 2 (refine Yo ?_ (by simp [pkP, pkR] <;> omega); simp [pkP, pkR])
 exact DL.nil rfl hK
 refine W.seq ?_
 apply Zr; intros
 refine Zo ?_ (by simp [pkP, pkR] <;> omega); simp [pkP, pkR]
 exact Zx
 refine W.block ?_
 refine W.loopk [1, 2, 3] [1, 2] (fun k0 => [(4, .d (.lf (.int .i64 (k0 : Int))))]) (fun k0 => [(3, .d (.st [.lf (.string ⟨#[]⟩), .sl true sh61 ((eK ([(⟨⟨#[112, 97, 99, 107, 97, 103, 101]⟩, []⟩ : TSExpr), (⟨x.fName, []⟩ : TSExpr), woE x.fDeps]) itT x.fTraits k0).map (TSExpr.dd true))]))]) x.fTraits.length rfl (by simp [eK_zero]) fun k0 hk0 T hT => ?_
 simp at hT; subst hT
 refine W.seq ?_
 apply Zr; intros
 iterate 5 (refine Zo ?_ (by simp [pkP, pkR] <;> omega); simp [pkP, pkR])
 exact Zx
 refine Zc rfl ?_ ?_ <;> intro hb1 <;> try simp at hb1
 have hx0 := ixNext hb1 (by omega)
 have hy := szL_le TTrait.sz (gm hb1)
 refine W.skip ?_
 refine Zb ?_
 apply W.regSD rfl; intro K hK
 refine Yo ?_ (by simp [pkP, pkR, hb1, hx0] <;> omega); simp [pkP, pkR, hb1, hx0]
 refine Ym [30] ?_ (by simp [pkP, pkR, hb1, hx0] <;> omega); simp [pkP, pkR, hb1, hx0]
 iterate 5 (refine Yo ?_ (by simp [pkP, pkR, hb1, hx0] <;> omega); simp [pkP, pkR, hb1, hx0])
 refine Yl [] rfl Tryz.func40 (sTraitX_e x.fTraits[k0] (by omega) (hpo.1 _ (gm hb1))) ?_ (by simp [pkP, pkR, hb1, hx0]); simp [pkP, pkR, hb1, hx0]
 iterate 4 (refine Yo ?_ (by simp [pkP, pkR, hb1, hx0] <;> omega); simp [pkP, pkR, hb1, hx0])
 exact DL.nil rfl hK
 apply Zs; intros
 iterate 3 (refine Zo ?_ (by simp [pkP, pkR, hb1, hx0] <;> omega); simp [pkP, pkR, hb1, hx0])
 exact Zx
 refine ⟨hb1, Wz.to rfl rfl rfl ?_⟩
 have hs := eK_snoc (P := [(⟨⟨#[112, 97, 99, 107, 97, 103, 101]⟩, []⟩ : TSExpr), (⟨x.fName, []⟩ : TSExpr), woE x.fDeps]) (e := itT) hb1
 simp at hs
 simp [hs]
 have hkl : k0 = x.fTraits.length := by omega
 subst hkl
 simp only [eK_full]
 refine W.exit ?_
 refine W.seq ?_
 apply Zr; intros
 refine Zo ?_ (by simp [pkP, pkR] <;> omega); simp [pkP, pkR]
 exact Zx
 refine W.block ?_
 refine W.loopk [1, 2, 3] [1, 2] (fun k1 => [(5, .d (.lf (.int .i64 (k1 : Int))))]) (fun k1 => [(3, .d (.st [.lf (.string ⟨#[]⟩), .sl true sh61 ((eK (eA ([(⟨⟨#[112, 97, 99, 107, 97, 103, 101]⟩, []⟩ : TSExpr), (⟨x.fName, []⟩ : TSExpr), woE x.fDeps]) itT x.fTraits) itD x.fDataTypes k1).map (TSExpr.dd true))]))]) x.fDataTypes.length rfl (by simp [eK_zero]) fun k1 hk1 T hT => ?_
 simp at hT; subst hT
 refine W.seq ?_
 apply Zr; intros
 iterate 5 (refine Zo ?_ (by simp [pkP, pkR] <;> omega); simp [pkP, pkR])
 exact Zx
 refine Zc rfl ?_ ?_ <;> intro hb2 <;> try simp at hb2
 have hx1 := ixNext hb2 (by omega)
 have hy := szL_le TDataType.sz (gm hb2)
 refine W.skip ?_
 refine Zb ?_
 apply W.regSD rfl; intro K hK
 refine Yo ?_ (by simp [pkP, pkR, hb2, hx1] <;> omega); simp [pkP, pkR, hb2, hx1]
 refine Ym [48] ?_ (by simp [pkP, pkR, hb2, hx1] <;> omega); simp [pkP, pkR, hb2, hx1]
 iterate 5 (refine Yo ?_ (by simp [pkP, pkR, hb2, hx1] <;> omega); simp [pkP, pkR, hb2, hx1])
 refine Yl [] rfl Tryz.func41 (sDataX_e x.fDataTypes[k1] (by omega) (hpo.2.1 _ (gm hb2))) ?_ (by simp [pkP, pkR, hb2, hx1]); simp [pkP, pkR, hb2, hx1]
 iterate 4 (refine Yo ?_ (by simp [pkP, pkR, hb2, hx1] <;> omega); simp [pkP, pkR, hb2, hx1])
 exact DL.nil rfl hK
 apply Zs; intros
 iterate 3 (refine Zo ?_ (by simp [pkP, pkR, hb2, hx1] <;> omega); simp [pkP, pkR, hb2, hx1])
 exact Zx
 refine ⟨hb2, Wz.to rfl rfl rfl ?_⟩
 have hs := eK_snoc (P := eA ([(⟨⟨#[112, 97, 99, 107, 97, 103, 101]⟩, []⟩ : TSExpr), (⟨x.fName, []⟩ : TSExpr), woE x.fDeps]) itT x.fTraits) (e := itD) hb2
 simp at hs
 simp [hs]
 have hkl : k1 = x.fDataTypes.length := by omega
 subst hkl
 simp only [eK_full]
 refine W.exit ?_
 refine W.seq ?_
 apply Zr; intros
 refine Zo ?_ (by simp [pkP, pkR] <;> omega); simp [pkP, pkR]
 exact Zx
 refine W.block ?_
 refine W.loopk [1, 2, 3] [1, 2] (fun k2 => [(6, .d (.lf (.int .i64 (k2 : Int))))]) (fun k2 => [(3, .d (.st [.lf (.string ⟨#[]⟩), .sl true sh61 ((eK (eA (eA ([(⟨⟨#[112, 97, 99, 107, 97, 103, 101]⟩, []⟩ : TSExpr), (⟨x.fName, []⟩ : TSExpr), woE x.fDeps]) itT x.fTraits) itD x.fDataTypes) itI x.fInstances k2).map (TSExpr.dd true))]))]) x.fInstances.length rfl (by simp [eK_zero]) fun k2 hk2 T hT => ?_
 simp at hT; subst hT
 refine W.seq ?_
 apply Zr; intros
 iterate 5 (refine Zo ?_ (by simp [pkP, pkR] <;> omega); simp [pkP, pkR])
 exact Zx
 refine Zc rfl ?_ ?_ <;> intro hb3 <;> try simp at hb3
 have hx2 := ixNext hb3 (by omega)
 have hy := szL_le TInstance.sz (gm hb3)
 refine W.skip ?_
 refine Zb ?_
 apply W.regSD rfl; intro K hK
 refine Yo ?_ (by simp [pkP, pkR, hb3, hx2] <;> omega); simp [pkP, pkR, hb3, hx2]
 refine Ym [66] ?_ (by simp [pkP, pkR, hb3, hx2] <;> omega); simp [pkP, pkR, hb3, hx2]
 iterate 5 (refine Yo ?_ (by simp [pkP, pkR, hb3, hx2] <;> omega); simp [pkP, pkR, hb3, hx2])
 refine Yl [] rfl Tryz.func42 (sInstX_e x.fInstances[k2] (by omega) (hpo.2.2.1 _ (gm hb3))) ?_ (by simp [pkP, pkR, hb3, hx2]); simp [pkP, pkR, hb3, hx2]
 iterate 4 (refine Yo ?_ (by simp [pkP, pkR, hb3, hx2] <;> omega); simp [pkP, pkR, hb3, hx2])
 exact DL.nil rfl hK
 apply Zs; intros
 iterate 3 (refine Zo ?_ (by simp [pkP, pkR, hb3, hx2] <;> omega); simp [pkP, pkR, hb3, hx2])
 exact Zx
 refine ⟨hb3, Wz.to rfl rfl rfl ?_⟩
 have hs := eK_snoc (P := eA (eA ([(⟨⟨#[112, 97, 99, 107, 97, 103, 101]⟩, []⟩ : TSExpr), (⟨x.fName, []⟩ : TSExpr), woE x.fDeps]) itT x.fTraits) itD x.fDataTypes) (e := itI) hb3
 simp at hs
 simp [hs]
 have hkl : k2 = x.fInstances.length := by omega
 subst hkl
 simp only [eK_full]
 refine W.exit ?_
 refine W.seq ?_
 apply Zr; intros
 refine Zo ?_ (by simp [pkP, pkR] <;> omega); simp [pkP, pkR]
 exact Zx
 refine W.block ?_
 refine W.loopk [1, 2, 3] [1, 2] (fun k3 => [(7, .d (.lf (.int .i64 (k3 : Int))))]) (fun k3 => [(3, .d (.st [.lf (.string ⟨#[]⟩), .sl true sh61 ((eK (eA (eA (eA ([(⟨⟨#[112, 97, 99, 107, 97, 103, 101]⟩, []⟩ : TSExpr), (⟨x.fName, []⟩ : TSExpr), woE x.fDeps]) itT x.fTraits) itD x.fDataTypes) itI x.fInstances) itF x.fFunctions k3).map (TSExpr.dd true))]))]) x.fFunctions.length rfl (by simp [eK_zero]) fun k3 hk3 T hT => ?_
 simp at hT; subst hT
 refine W.seq ?_
 apply Zr; intros
 iterate 5 (refine Zo ?_ (by simp [pkP, pkR] <;> omega); simp [pkP, pkR])
 exact Zx
 refine Zc rfl ?_ ?_ <;> intro hb4 <;> try simp at hb4
 have hx3 := ixNext hb4 (by omega)
 have hy := szL_le TFunction.sz (gm hb4)
 refine W.skip ?_
 refine Zb ?_
 apply W.regSD rfl; intro K hK
 refine Yo ?_ (by simp [pkP, pkR, hb4, hx3] <;> omega); simp [pkP, pkR, hb4, hx3]
 refine Ym [84] ?_ (by simp [pkP, pkR, hb4, hx3] <;> omega); simp [pkP, pkR, hb4, hx3]
 iterate 5 (refine Yo ?_ (by simp [pkP, pkR, hb4, hx3] <;> omega); simp [pkP, pkR, hb4, hx3])
 refine Yl [] rfl Tryz.func43 (sFnX_e x.fFunctions[k3] (by omega) (hpo.2.2.2 _ (gm hb4))) ?_ (by simp [pkP, pkR, hb4, hx3]); simp [pkP, pkR, hb4, hx3]
 iterate 4 (refine Yo ?_ (by simp [pkP, pkR, hb4, hx3] <;> omega); simp [pkP, pkR, hb4, hx3])
 exact DL.nil rfl hK
 apply Zs; intros
 iterate 3 (refine Zo ?_ (by simp [pkP, pkR, hb4, hx3] <;> omega); simp [pkP, pkR, hb4, hx3])
 exact Zx
 refine ⟨hb4, Wz.to rfl rfl rfl ?_⟩
 have hs := eK_snoc (P := eA (eA (eA ([(⟨⟨#[112, 97, 99, 107, 97, 103, 101]⟩, []⟩ : TSExpr), (⟨x.fName, []⟩ : TSExpr), woE x.fDeps]) itT x.fTraits) itD x.fDataTypes) itI x.fInstances) (e := itF) hb4
 simp at hs
 simp [hs]
 have hkl : k3 = x.fFunctions.length := by omega
 subst hkl
 simp only [eK_full]
 refine W.exit ?_
 refine W.seq ?_
 apply Zr; intros
 refine Zo ?_ (by simp [pkP, pkR] <;> omega); simp [pkP, pkR]
 exact Zx
 refine W.block ?_
 refine W.loopI [2, 3] [2, 3] (fun k4 => [(8, .d (.lf (.int .i64 ((k4 : Int) + 3))))]) (fun _ => []) (x.fTraits.length + x.fDataTypes.length + x.fInstances.length + x.fFunctions.length) (fun k4 => ∀ j, j < k4 → ∀ y, (eA (eA (eA (eA [] itT x.fTraits) itD x.fDataTypes) itI x.fInstances) itF x.fFunctions)[j]? = some y → noL y = false) rfl (by simp) (by simp) fun k4 hk4 hi4 T hT => ?_
 simp at hT; subst hT
 refine W.seq ?_
 apply Zr; intros
 iterate 5 (refine Zo ?_ (by simp [pkP, pkR] <;> omega); simp [pkP, pkR])
 exact Zx
 refine Zc rfl ?_ ?_ <;> intro hb5 <;> try simp at hb5
 have hk5 : k4 < x.fTraits.length + x.fDataTypes.length + x.fInstances.length + x.fFunctions.length := by omega
 have hl5 : k4 < (eA (eA (eA (eA [] itT x.fTraits) itD x.fDataTypes) itI x.fInstances) itF x.fFunctions).length := by simp only [eA_len, List.length_nil]; omega
 have hge := List.getElem?_eq_getElem hl5
 have hx4 := i64w (n := (k4 : Int) + 3 + 1) (by omega) (by omega)
 have hti : ((k4 : Int) + 3).toNat = k4 + 3 := by omega
 refine W.skip ?_
 refine Zb ?_
 apply Zr; intros
 iterate 8 (refine Zo ?_ (by simp [pkP, pkR, hk5, hge, hx4, hti] <;> omega); simp [pkP, pkR, hk5, hge, hx4, hti])
 exact Zx
 refine Zc rfl ?_ ?_ <;> intro hb6 <;> try simp at hb6
 have hres : pkE x = emE := by unfold pkE; rw [if_pos hok, if_pos (show (pkR x).any noL = true from anyP_yes (l := (eA (eA (eA (eA [] itT x.fTraits) itD x.fDataTypes) itI x.fInstances) itF x.fFunctions)) (p := noL) hl5 (by simpa [noL] using hb6))]
 apply Zr; intros
 iterate 2 (refine Zo ?_ (by simp [pkP, pkR, hk5, hge, hx4, hti] <;> omega); simp [pkP, pkR, hk5, hge, hx4, hti])
 exact Zx
 refine W.ret (Zq ?_)
 simp [Tryz.f22, hres, pkP, pkR]
 refine W.skip ?_
 apply Zs; intros
 iterate 3 (refine Zo ?_ (by simp [pkP, pkR, hk5, hge, hx4, hti] <;> omega); simp [pkP, pkR, hk5, hge, hx4, hti])
 exact Zx
 refine ⟨hk5, noP_step (p := noL) hi4 hl5 (by simpa [noL] using hb6), Wz.to rfl rfl rfl ?_⟩
 simp; omega
 have hkl : k4 = (eA (eA (eA (eA [] itT x.fTraits) itD x.fDataTypes) itI x.fInstances) itF x.fFunctions).length := by simp only [eA_len, List.length_nil]; omega
 subst hkl
 have hno : (pkR x).any noL = false := anyP_no hi4
 have hres : pkE x = ifE true ⟨⟨#[]⟩, pkP x ++ pkR x⟩ := by unfold pkE; rw [if_pos hok, if_neg (by simp [hno])]
 refine W.exit ?_
 apply Zr; intros
 refine Zm [110] ?_ (by simp [pkP, pkR] <;> omega); simp [pkP, pkR]
 refine Zl [110] rfl Tryz.func44 (l14If_d true ⟨⟨#[]⟩, pkP x ++ pkR x⟩ (by omega) _) ?_ (by simp [pkP, pkR]); simp [pkP, pkR]
 refine Zo ?_ (by simp [pkP, pkR] <;> omega); simp [pkP, pkR]
 exact Zx
 refine W.ret (Zq ?_)
 simp [Tryz.f22, hres, pkP, pkR]
end Go.Proofs.YtkadbimpaplnmaaGreatDoor
