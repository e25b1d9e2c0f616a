/- Walks by the Den rules. No condition but sizes. -/
import Derived.Test.YtdooklofebdknaaGreatM20
import Derived.Test.YtdooklofebdknaaGreatM33
import Derived.Test.YtdooklofebdknaaGreatM40
import Derived.Test.YtdooklofebdknaaGreatM42
namespace Go.Proofs.YtdooklofebdknaaGreat
open Go.RowKit
set_option maxRecDepth 10000
set_option linter.unusedSimpArgs false
set_option maxHeartbeats 4000000
def pNm (l : List TParam) : List ByteArray := l.map TParam.fName
def pTy (l : List TParam) : List TType := l.map TParam.fType
theorem pNm_eq (l : List TParam) : l.map TParam.fName = pNm l := rfl
theorem pTy_eq (l : List TParam) : l.map TParam.fType = pTy l := rfl
theorem pNames_d (l : List TParam) (hl : l.length ≤ 134217728) (h : HP) : CS cx.P 187 [.d (.sl false sh153 (l.map (TParam.dd false)))] h (.d (.sl true .one ((pNm l).map dS))) h := by
 refine Ze Tryz.func187 rfl 20 ?_
 apply Zr; intros
 refine Zo ?_; simp
 exact Zx
 apply Zr; intros
 iterate 2 (refine Zo ?_; simp)
 exact Zx
 refine W.seq ?_
 apply Zr; intros
 iterate 3 (refine Zo ?_; simp)
 exact Zx
 refine W.block ?_
 refine W.loopk [7, 8] [] (fun k0 => [(9, .d (.lf (.int .i64 (k0 : Int)))), (3, .d (.sl true .one ((nmsK l TParam.fName k0).map dS)))]) (fun _ => []) l.length rfl (by simp [nmsK_zero]) fun k0 hk0 T hT => ?_
 simp at hT; subst hT
 have hl0 := nmsK_len TParam.fName hk0
 apply Zr; intros
 refine Zo ?_ (by simp [hl0] <;> omega); simp [hl0]
 exact Zx
 refine Zv rfl ?_ ?_ <;> intro hb0 <;> try simp at hb0
 have hx := ixNext hb0 (by omega)
 refine W.skip ?_
 refine Zb ?_
 apply Zr; intros
 refine Zo ?_ (by simp [hl0, hb0, hx] <;> omega); simp [hl0, hb0, hx]
 refine Zm [12] ?_ (by simp [hl0, hb0, hx] <;> omega); simp [hl0, hb0, hx]
 iterate 2 (refine Zo ?_ (by simp [hl0, hb0, hx] <;> omega); simp [hl0, hb0, hx])
 exact Zx
 apply Zs; intros
 refine Zm [13] ?_ (by simp [hl0, hb0, hx] <;> omega); simp [hl0, hb0, hx]
 iterate 5 (refine Zo ?_ (by simp [hl0, hb0, hx] <;> omega); simp [hl0, hb0, hx])
 exact Zx
 apply Zs; intros
 iterate 2 (refine Zo ?_ (by simp [hl0, hb0, hx] <;> omega); simp [hl0, hb0, hx])
 exact Zx
 refine ⟨hb0, Wz.to rfl rfl rfl ?_⟩
 have hs := nmsK_snoc TParam.fName hb0
 simp [hs]
 have hkl : k0 = l.length := by omega
 subst hkl
 have hres := (nmsK_full l TParam.fName).trans (pNm_eq l)
 refine W.exit ?_
 apply Zr; intros
 refine Zm [19] ?_ (by simp [hl0] <;> omega); simp [hl0]
 refine Zo ?_ (by simp [hl0] <;> omega); simp [hl0]
 exact Zx
 refine W.ret (Zq ?_)
 simp [Tryz.f187, hres]
def tyK (l : List TParam) (k : Nat) : List TType := (l.take k).map TParam.fType
theorem tyK_zero (l : List TParam) : tyK l 0 = [] := rfl
theorem tyK_full (l : List TParam) : tyK l l.length = l.map TParam.fType := by unfold tyK; rw [List.take_length]
theorem tyK_len {l : List TParam} {k : Nat} (h : k ≤ l.length) : (tyK l k).length = k := by unfold tyK; simp; omega
theorem tyK_snoc {l : List TParam} {k : Nat} (h : k < l.length) : (tyK l k).map (TType.dd false) ++ [l[k].fType.dd false] = (tyK l (k + 1)).map (TType.dd false) := by
 unfold tyK
 rw [List.take_succ_eq_append_getElem h, List.map_append, List.map_append]; rfl
theorem pTypes_d (l : List TParam) (hl : l.length ≤ 134217728) (h : HP) : CS cx.P 68 [.d (.sl false sh153 (l.map (TParam.dd false)))] h (.d (.sl true sh65 ((pTy l).map (TType.dd false)))) h := by
 refine Ze Tryz.func68 rfl 20 ?_
 apply Zr; intros
 refine Zo ?_; simp
 exact Zx
 apply Zr; intros
 iterate 2 (refine Zo ?_; simp)
 exact Zx
 refine W.seq ?_
 apply Zr; intros
 iterate 3 (refine Zo ?_; simp)
 exact Zx
 refine W.block ?_
 refine W.loopk [7, 8] [] (fun k0 => [(9, .d (.lf (.int .i64 (k0 : Int)))), (3, .d (.sl true sh65 ((tyK l k0).map (TType.dd false))))]) (fun _ => []) l.length rfl (by simp [tyK_zero]) fun k0 hk0 T hT => ?_
 simp at hT; subst hT
 have hl0 := tyK_len hk0
 apply Zr; intros
 refine Zo ?_ (by simp [hl0] <;> omega); simp [hl0]
 exact Zx
 refine Zv rfl ?_ ?_ <;> intro hb0 <;> try simp at hb0
 have hx := ixNext hb0 (by omega)
 refine W.skip ?_
 refine Zb ?_
 apply Zr; intros
 refine Zo ?_ (by simp [hl0, hb0, hx] <;> omega); simp [hl0, hb0, hx]
 refine Zm [12] ?_ (by simp [hl0, hb0, hx] <;> omega); simp [hl0, hb0, hx]
 iterate 2 (refine Zo ?_ (by simp [hl0, hb0, hx] <;> omega); simp [hl0, hb0, hx])
 exact Zx
 apply Zs; intros
 refine Zm [13] ?_ (by simp [hl0, hb0, hx] <;> omega); simp [hl0, hb0, hx]
 refine Zo ?_ (by simp [hl0, hb0, hx] <;> omega); simp [hl0, hb0, hx]
 refine Zm [15] ?_ (by simp [hl0, hb0, hx] <;> omega); simp [hl0, hb0, hx]
 iterate 3 (refine Zo ?_ (by simp [hl0, hb0, hx] <;> omega); simp [hl0, hb0, hx])
 exact Zx
 apply Zs; intros
 iterate 2 (refine Zo ?_ (by simp [hl0, hb0, hx] <;> omega); simp [hl0, hb0, hx])
 exact Zx
 refine ⟨hb0, Wz.to rfl rfl rfl ?_⟩
 have hs := tyK_snoc hb0
 simp at hs
 simp [hs]
 have hkl : k0 = l.length := by omega
 subst hkl
 have hres := (tyK_full l).trans (pTy_eq l)
 refine W.exit ?_
 apply Zr; intros
 refine Zm [19] ?_ (by simp [hl0] <;> omega); simp [hl0]
 refine Zo ?_ (by simp [hl0] <;> omega); simp [hl0]
 exact Zx
 refine W.ret (Zq ?_)
 simp [Tryz.f68, hres]
theorem idxOf_d (l : List ByteArray) (s : ByteArray) (hm : l.length ≤ 4294967296) (h : HP) : CS cx.P 108 [.d (.sl false .one (l.map dS)), .d (.lf (.string s))] h (.d (.lf (.int .i64 (idxS l s)))) h := by
 refine Ze Tryz.func108 rfl 8 ?_
 apply Zr; intros
 refine Zo ?_; simp
 exact Zx
 apply Zr; intros
 iterate 2 (refine Zo ?_; simp)
 refine Zl [] rfl Tryz.func178 (Index_d l s hm _) ?_; simp
 refine Zo ?_; simp
 exact Zx
 refine W.ret (Zq ?_)
 simp [Tryz.f108]
def NSz (l : List ByteArray) : Prop := (∀ s ∈ l, s.size ≤ 134217728) ∧ l.length ≤ 134217728
theorem NSz.of {l : List ByteArray} (h : szL ByteArray.size l ≤ 134217728) (k : l.length ≤ 134217728) : NSz l := ⟨fun s hs => by have := szL_le ByteArray.size hs; omega, k⟩
theorem NSz.mp {α : Type} (f : α → ByteArray) {l : List α} (h : ∀ y ∈ l, (f y).size ≤ 134217728) (k : l.length ≤ 134217728) (j : Nat) : NSz (Go.Proofs.YtdooklofebdknaaGreat.mp f l j) := by
  unfold Go.Proofs.YtdooklofebdknaaGreat.mp
  refine ⟨fun s hs => ?_, by simp; omega⟩
  obtain ⟨y, hy, rfl⟩ := List.mem_map.1 hs
  exact h y (List.mem_of_mem_take hy)
theorem tv_NSz (t : TType) (h : t.sz ≤ 134217728) : (tv t).length ≤ 4294967296 := by have h1 := tvs_len t []; have h2 := tSize_le t; unfold tv; simp at h1; omega
def allK {α : Type} (p : α → Bool) (l : List α) (k : Nat) : Bool := (l.take k).all p
theorem allK_zero {α : Type} (p : α → Bool) (l : List α) : allK p l 0 = true := rfl
theorem allK_nx {α : Type} {p : α → Bool} {l : List α} {k : Nat} (h : k < l.length) : allK p l (k + 1) = (allK p l k && p l[k]) := by unfold allK; rw [List.take_succ_eq_append_getElem h, List.all_append]; simp
theorem allK_end {α : Type} {p : α → Bool} {l : List α} {k : Nat} (h : l.length ≤ k) : allK p l k = l.all p := by unfold allK; rw [List.take_of_length_le h]
theorem sg5 {a b : Nat} {n d y : Bool} (h : b ≤ 4) : (decide (a = b + 1) && (n && d && y)) = (decide (a ≤ 5) && n && d && decide (a = b + 1) && y) := by
  by_cases e : a = b + 1
  · have : a ≤ 5 := by omega
    rw [decide_eq_true e, decide_eq_true this]; simp
  · rw [decide_eq_false e]; simp
theorem nms_sig {l : List TSignature} (h : (l.any fun g => !sigOk g) = false) : nms (l.map TSignature.fName) = true := by
  unfold nms
  rw [List.any_map, Bool.not_eq_true', List.any_eq_false]
  intro g hg
  have h1 := List.any_eq_false.1 h g hg
  have h2 : sigOk g = true := by simpa using h1
  unfold sigOk at h2
  simp only [Bool.and_eq_true] at h2
  simp [h2.1.1.1.1]
theorem instOk_sub (x : TInstance) : instOk x = (inst1 x && sub x.fVars (tv x.fHead) && inst2 x && !(x.fMethods.any mthBad) && words (x.fMethods.map TMethod.fName) 6) := by unfold instOk; rw [sub_occ]
theorem inst1_k (x : TInstance) : inst1 x = (isNm x.fTrait && words x.fVars 3 && tOver x.fHead x.fVars && !hasPj x.fHead && (decide (x.fHead.fKind = 2) || decide (x.fHead.fKind = 1)) && wher x.fWhere x.fVars) := by
  unfold inst1
  cases h1 : tOver x.fHead x.fVars with
  | false => simp
  | true =>
    cases h2 : hasPj x.fHead with
    | true => simp
    | false => rw [head_k h1 h2]
attribute [simp] allK_zero allK_nx
instance giNames_i (l : List ByteArray) : Ct cx 107 [.d (.sl false .one ((l).map (dS)))] (NSz l) (.d (.lf (.bool (dst l && nms l)))) := ⟨fk1 Tryz.func107, fun hp h => by have q := areNames_d l hp.1 hp.2 h; first | exact q | simpa using q⟩
instance giDst_i (l : List ByteArray) : Ct cx 49 [.d (.sl false .one ((l).map (dS)))] (l.length ≤ 134217728) (.d (.lf (.bool (dst l)))) := ⟨fk1 Tryz.func49, fun hp h => by have q := iDst_d l hp h; first | exact q | simpa using q⟩
instance giAm_i (l all : List ByteArray) : Ct cx 48 [.d (.sl false .one ((l).map (dS))), .d (.sl false .one ((all).map (dS)))] (l.length ≤ 134217728 ∧ all.length ≤ 4294967296) (.d (.lf (.bool (sub l all)))) := ⟨fk1 Tryz.func48, fun hp h => by have q := areAmong_d l all (by omega) (by omega) h; first | exact q | simpa using q⟩
instance giPj_i (k : Int) (n : ByteArray) (l : List TType) : Ct cx 182 [.d (.st [.lf (.int .i64 (k)), .lf (.string (n)), .sl false sh65 ((l).map (TType.dd false))])] (TType.sz ⟨k, n, l⟩ ≤ 134217728) (.d (.lf (.bool (hasPj ⟨k, n, l⟩)))) := ⟨fk1 Tryz.func182, fun hp h => by have q := iPj_d ⟨k, n, l⟩ hp h; first | exact q | simpa using q⟩
instance giTv_i (k : Int) (n : ByteArray) (l : List TType) : Ct cx 183 [.d (.st [.lf (.int .i64 (k)), .lf (.string (n)), .sl false sh65 ((l).map (TType.dd false))])] (TType.sz ⟨k, n, l⟩ ≤ 134217728) (.d (.sl true .one (((tv ⟨k, n, l⟩)).map (dS)))) := ⟨fk1 Tryz.func183, fun hp h => by have q := iTv_d ⟨k, n, l⟩ hp h; first | exact q | simpa using q⟩
instance giZT_i (k : Int) (n : ByteArray) (l : List TType) : Ct cx 185 [.d (.st [.lf (.int .i64 (k)), .lf (.string (n)), .sl false sh65 ((l).map (TType.dd false))])] (True) (.d (.lf (.bool (zeroT ⟨k, n, l⟩)))) := ⟨fk1 Tryz.func185, fun hp h => by have q := iZeroT_d ⟨k, n, l⟩ h; first | exact q | simpa using q⟩
instance giZX_i (e : TExpr) : Ct cx 251 [.d (.st [.lf (.int .i64 (e.fKind)), .lf (.string (e.fTrait)), .lf (.string (e.fName)), .lf (.int .i64 (e.fN)), .st [.lf (.int .i64 (e.fType.fKind)), .lf (.string (e.fType.fName)), .sl false sh65 ((e.fType.fArgs).map (TType.dd false))], .sl false sh75 ((e.fArgs).map (TExpr.dd false)), .sl false sh172 ((e.fArms).map (TArm.dd false))])] (True) (.d (.lf (.bool (isZX e)))) := ⟨fk1 Tryz.func251, fun hp h => by have q := iZX_d e h; first | exact q | simpa using q⟩
instance giOv_i (k : Int) (n : ByteArray) (l : List TType) (v : List ByteArray) : Ct cx 181 [.d (.st [.lf (.int .i64 (k)), .lf (.string (n)), .sl false sh65 ((l).map (TType.dd false))]), .d (.sl false .one ((v).map (dS)))] (v.length ≤ 134217728 ∧ TType.sz ⟨k, n, l⟩ ≤ 134217728) (.d (.lf (.bool (tOver ⟨k, n, l⟩ v)))) := ⟨fk1 Tryz.func181, fun hp h => by have q := iOver_d ⟨k, n, l⟩ v hp.1 hp.2 h; first | exact q | simpa using q⟩
instance giOv1_i (k : Int) (n : ByteArray) (l : List TType) (s : ByteArray) : Ct cx 181 [.d (.st [.lf (.int .i64 (k)), .lf (.string (n)), .sl false sh65 ((l).map (TType.dd false))]), .d (.sl false .one [.lf (.string s)])] (TType.sz ⟨k, n, l⟩ ≤ 134217728) (.d (.lf (.bool (tOver ⟨k, n, l⟩ [s])))) := ⟨fk1 Tryz.func181, fun hp h => by have q := iOver_d ⟨k, n, l⟩ [s] (by simp) hp h; first | exact q | simpa using q⟩
instance giOvs_i (l : List TType) (v : List ByteArray) : Ct cx 180 [.d (.sl false sh65 ((l).map (TType.dd false))), .d (.sl false .one ((v).map (dS)))] (v.length ≤ 134217728 ∧ l.length ≤ 134217728 ∧ ∀ y ∈ l, y.sz ≤ 134217728) (.d (.lf (.bool (overs l v)))) := ⟨fk1 Tryz.func180, fun hp h => by have q := iOvers_d l v hp.1 hp.2.1 hp.2.2 h; first | exact q | simpa using q⟩
instance giOvs1_i (l : List TType) (s : ByteArray) : Ct cx 180 [.d (.sl false sh65 ((l).map (TType.dd false))), .d (.sl false .one [.lf (.string s)])] (l.length ≤ 134217728 ∧ ∀ y ∈ l, y.sz ≤ 134217728) (.d (.lf (.bool (overs l [s])))) := ⟨fk1 Tryz.func180, fun hp h => by have q := iOvers_d l [s] (by simp) hp.1 hp.2 h; first | exact q | simpa using q⟩
instance giWh_i (l : List TBound) (v : List ByteArray) : Ct cx 184 [.d (.sl false sh174 ((l).map (TBound.dd false))), .d (.sl false .one ((v).map (dS)))] (v.length ≤ 134217728 ∧ l.length ≤ 134217728 ∧ ∀ y ∈ l, y.sz ≤ 134217728) (.d (.lf (.bool (wher l v)))) := ⟨fk1 Tryz.func184, fun hp h => by have q := iWher_d l v hp.1 hp.2.1 hp.2.2 h; first | exact q | simpa using q⟩
instance giBody_i (v : List ByteArray) (e : TExpr) : Ct cx 186 [.d (.sl false .one ((v).map (dS))), .d (.st [.lf (.int .i64 (e.fKind)), .lf (.string (e.fTrait)), .lf (.string (e.fName)), .lf (.int .i64 (e.fN)), .st [.lf (.int .i64 (e.fType.fKind)), .lf (.string (e.fType.fName)), .sl false sh65 ((e.fType.fArgs).map (TType.dd false))], .sl false sh75 ((e.fArgs).map (TExpr.dd false)), .sl false sh172 ((e.fArms).map (TArm.dd false))])] (NSz v ∧ e.sz ≤ 134217728) (.d (.lf (.bool (nms v && dst v && body e v)))) := ⟨fk1 Tryz.func186, fun hp h => by have q := iBody_d v hp.1.2 hp.1.1 e hp.2 h; first | exact q | simpa using q⟩
instance giPN_i (l : List TParam) : Ct cx 187 [.d (.sl false sh153 ((l).map (TParam.dd false)))] (l.length ≤ 134217728) (.d (.sl true .one (((pNm l)).map (dS)))) := ⟨fk1 Tryz.func187, fun hp h => by have q := pNames_d l hp h; first | exact q | simpa using q⟩

instance giIx_i (l : List ByteArray) (s : ByteArray) : Ct cx 108 [.d (.sl false .one ((l).map (dS))), .d (.lf (.string (s)))] (l.length ≤ 134217728) (.d (.lf (.int .i64 (idxS l s)))) := ⟨fk1 Tryz.func108, fun hp h => by have q := idxOf_d l s (by omega) h; first | exact q | simpa using q⟩
instance giName (s : ByteArray) : Ct cx 106 [.d (.lf (.string (s)))] (True) (.d (.lf (.bool (isNm s)))) := by
 refine Xi Tryz.func106 39 [.tmp 2] [] [] etas (And.intro @isNm.eq_1 <| And.intro @allB.eq_1 <| And.intro @nameAt.eq_1 <| And.intro @within.eq_1 <| And.intro @all_at <| @all_end) ?_; intro hp h M G H E
 repeat' (first | (refine IN.mk ?_; intros) | (refine iTw ?_; refine T2 ?_ ?_ <;> intro hb H <;> try exact hb.elim) | (refine LF.mk ?_; exact LX) | refine BO.mk ?_ ?_ | (apply iPJ; exact NPJ) | apply PXs.of | refine GN ?_ | (refine XC [0, 5] [] 6 (s.size) (fun k0 => allB s.size (nameAt s) = ((List.range s.size).drop k0).all (nameAt s)) ?_; intro k0 hk0 hi0) | fail)
instance giSig (x : TSignature) : Ct cx 179 [.d (.st [.lf (.string (x.fName)), .sl false sh65 ((x.fParams).map (TType.dd false)), .st [.lf (.int .i64 (x.fResult.fKind)), .lf (.string (x.fResult.fName)), .sl false sh65 ((x.fResult.fArgs).map (TType.dd false))], .lf (.bool (x.fHasDefault)), .sl false .one ((x.fVars).map (dS)), .st [.lf (.int .i64 (x.fBody.fKind)), .lf (.string (x.fBody.fTrait)), .lf (.string (x.fBody.fName)), .lf (.int .i64 (x.fBody.fN)), .st [.lf (.int .i64 (x.fBody.fType.fKind)), .lf (.string (x.fBody.fType.fName)), .sl false sh65 ((x.fBody.fType.fArgs).map (TType.dd false))], .sl false sh75 ((x.fBody.fArgs).map (TExpr.dd false)), .sl false sh172 ((x.fBody.fArms).map (TArm.dd false))]])] (x.sz ≤ 134217728) (.d (.lf (.bool (sigOk x)))) := by
 refine Xi Tryz.func179 53 [.tmp 2] [] [] etas (And.intro @sigOk.eq_1 <| And.intro @selfL.eq_1 <| @words.eq_1) ?_; intro hp h M G H E
 have hx := x.sz_eq; unfold szs at hx
 have hsp : ∀ y ∈ x.fParams, y.sz ≤ 134217728 := fun y hy => by have := szL_le TType.sz hy; omega
 replace H := And.intro hsp H
 have hv : NSz x.fVars := NSz.of (by omega) (by omega); replace H := And.intro hv H
 have hw := i64w (n := (x.fParams.length : Int) + 1) (by omega) (by omega); replace H := And.intro hw H
 repeat' (first | (refine LF.mk ?_; rw [sg5 (by omega)]; simp [*]; done) | (refine IN.mk ?_; intros) | (refine iTw ?_; refine T2 ?_ ?_ <;> intro hb H <;> try exact hb.elim) | (refine LF.mk ?_; exact LX) | refine BO.mk ?_ ?_ | (apply iPJ; exact NPJ) | apply PXs.of | refine GN ?_)
instance giPT_i (l : List TParam) : Ct cx 68 [.d (.sl false sh153 ((l).map (TParam.dd false)))] (l.length ≤ 134217728) (.d (.sl true sh65 (((pTy l)).map (TType.dd false)))) := ⟨fk1 Tryz.func68, fun hp h => by have q := pTypes_d l hp h; first | exact q | simpa using q⟩
instance giUq_i (x : TPackage) : Ct cx 71 [.d (.sl false sh49 [(.st [.lf (.string (x.fName)), .sl false .one ((x.fDeps).map (dS)), .sl false sh57 ((x.fTraits).map (TTrait.dd false)), .sl false sh61 ((x.fDataTypes).map (TDataType.dd false)), .sl false sh69 ((x.fInstances).map (TInstance.dd false)), .sl false sh77 ((x.fFunctions).map (TFunction.dd false))])])] (x.sz ≤ 134217728) (.d (.lf (.bool (uq [x])))) := ⟨fk1 Tryz.func71, fun hp h => by have q := uq_d [x] (by simp) (by simpa [szL] using hp) h; first | exact q | simpa using q⟩
theorem idxS_ge (l : List ByteArray) (s : ByteArray) : 0 ≤ idxS l s ↔ hasS l s = true := by rw [← idxS_has]; simp
theorem idxS_lt {l : List ByteArray} {s : ByteArray} (h : idxS l s < 0) : hasS l s = false := by
  cases q : hasS l s with
  | false => rfl
  | true => have := (idxS_ge l s).2 q; omega
theorem p24 {a b c d : Nat} (h : (a : Int) + b + c + d ≤ 24) : a + b + c + d ≤ 24 := by omega
theorem pNm_NSz {l : List TParam} (h : ∀ k, NSz (mp TParam.fName l k)) : NSz (pNm l) := by have := h l.length; rwa [mp_end (Nat.le_refl _)] at this
theorem fn_any2 (l : List TParam) (v : List ByteArray) : overs (pTy l) v = !(l.any fun p => !tOver p.fType v) := by unfold overs pTy; rw [List.any_map]; rfl
instance giFn (x : TFunction) : Ct cx 112 [.d (.st [.lf (.string (x.fName)), .sl false .one ((x.fVars).map (dS)), .sl false sh174 ((x.fWhere).map (TBound.dd false)), .sl false sh153 ((x.fParams).map (TParam.dd false)), .st [.lf (.int .i64 (x.fResult.fKind)), .lf (.string (x.fResult.fName)), .sl false sh65 ((x.fResult.fArgs).map (TType.dd false))], .st [.lf (.int .i64 (x.fBody.fKind)), .lf (.string (x.fBody.fTrait)), .lf (.string (x.fBody.fName)), .lf (.int .i64 (x.fBody.fN)), .st [.lf (.int .i64 (x.fBody.fType.fKind)), .lf (.string (x.fBody.fType.fName)), .sl false sh65 ((x.fBody.fType.fArgs).map (TType.dd false))], .sl false sh75 ((x.fBody.fArgs).map (TExpr.dd false)), .sl false sh172 ((x.fBody.fArms).map (TArm.dd false))]])] (x.sz ≤ 134217728) (.d (.lf (.bool (fnOk x)))) := by
 refine Xi Tryz.func112 53 [.tmp 2] [] [] etas (And.intro @fnOk.eq_1 <| And.intro @words.eq_1 <| And.intro @fn_any2 <| @pNm.eq_1) ?_; intro hp h M G H E
 have qParam := TParam.sz_eq; have gParam := @sz_get _ TParam.sz; unfold szs at qParam
 have hx := x.sz_eq; unfold szs at hx
 have hsw : ∀ y ∈ x.fWhere, y.sz ≤ 134217728 := fun y hy => by have := szL_le TBound.sz hy; omega
 replace H := And.intro hsw H
 have hv : NSz x.fVars := NSz.of (by omega) (by omega); replace H := And.intro hv H
 have hnn := NSz.mp TParam.fName (l := x.fParams) (fun y hy => by have h1 := szL_le TParam.sz hy; have h2 := y.sz_eq; unfold szs at h2; omega) (by omega); replace H := And.intro hnn H
 have hpn := pNm_NSz hnn; replace H := And.intro hpn H
 have hpt : (pTy x.fParams).length ≤ 134217728 := by unfold pTy; simp; omega
 have hps : ∀ y ∈ pTy x.fParams, y.sz ≤ 134217728 := fun y hy => by unfold pTy at hy; obtain ⟨p, hp, rfl⟩ := List.mem_map.1 hy; have h1 := szL_le TParam.sz hp; have h2 := p.sz_eq; unfold szs at h2; omega
 replace H := And.intro hpt (And.intro hps H)
 repeat' (first | (refine IN.mk ?_; intros) | (refine iTw ?_; refine T2 ?_ ?_ <;> intro hb H <;> try exact hb.elim) | (refine LF.mk ?_; exact LX) | refine BO.mk ?_ ?_ | (apply iPJ; exact NPJ) | apply PXs.of | refine GN ?_)
instance giTrait (x : TTrait) : Ct cx 109 [.d (.st [.lf (.string (x.fName)), .sl false .one ((x.fSupertraits).map (dS)), .lf (.bool (x.fAuto)), .lf (.bool (x.fAssoc)), .sl false sh109 ((x.fSignatures).map (TSignature.dd false))])] (x.sz ≤ 134217728) (.d (.lf (.bool (traitOk x)))) := by
 refine Xi Tryz.func109 65 [.tmp 2] [53, 57] [] etas (And.intro @traitOk.eq_1 <| And.intro @words.eq_1 <| And.intro @any_at <| And.intro @any_end <| @mp_end) ?_; intro hp h M G H E
 have qSignature := TSignature.sz_eq; have gSignature := @sz_get _ TSignature.sz; unfold szs at qSignature
 have hx := x.sz_eq; unfold szs at hx
 have hv : NSz x.fSupertraits := NSz.of (by omega) (by omega); replace H := And.intro hv H
 have hnn := NSz.mp TSignature.fName (l := x.fSignatures) (fun y hy => by have h1 := szL_le TSignature.sz hy; have h2 := y.sz_eq; unfold szs at h2; omega) (by omega); replace H := And.intro hnn H
 repeat' (first | (refine LF.mk ?_; rw [any_end (by omega)] at hi0; have hnm := nms_sig hi0; rw [mp_end (by omega)]; simp [*]; grind) | (refine IN.mk ?_; intros) | (refine iTw ?_; refine T2 ?_ ?_ <;> intro hb H <;> try exact hb.elim) | (refine LF.mk ?_; exact LX) | refine BO.mk ?_ ?_ | (apply iPJ; exact NPJ) | apply PXs.of | refine GN ?_ | (refine XL [48, 49] [] (fun k0 _ => [(50, .d (.lf (.int .i64 (k0 : Int)))), (3, .d (.sl true .one (((mp TSignature.fName x.fSignatures k0)).map (dS))))]) (fun _ _ => []) (x.fSignatures.length) (fun k0 _ => (x.fSignatures.any fun g => !sigOk g) = (x.fSignatures.drop k0).any fun g => !sigOk g) rU ?_; intro k0 hk0 s0 hi0; have hml := mp_len TSignature.fName hk0) | fail)
instance giData (x : TDataType) : Ct cx 110 [.d (.st [.lf (.string (x.fName)), .sl false .one ((x.fVars).map (dS)), .sl false sh116 ((x.fConstructors).map (TConstructor.dd false))])] (x.sz ≤ 134217728) (.d (.lf (.bool (dataOk x)))) := by
 refine Xi Tryz.func110 62 [.tmp 2] [41, 54] [] etas (And.intro @dataOk.eq_1 <| And.intro @ctBad.eq_1 <| And.intro @words.eq_1 <| And.intro @any_at <| And.intro @any_end <| @mp_end) ?_; intro hp h M G H E
 have hx := x.sz_eq; unfold szs at hx
 have hcs : ∀ k (h : k < x.fConstructors.length), ∀ y ∈ (x.fConstructors[k]).fFields, y.sz ≤ 134217728 := fun k h y hy => by have h1 := szL_le TConstructor.sz (List.getElem_mem h); have h2 := (x.fConstructors[k]).sz_eq; unfold szs at h2; have h3 := szL_le TType.sz hy; omega
 replace H := And.intro hcs H
 have hv : NSz x.fVars := NSz.of (by omega) (by omega); replace H := And.intro hv H
 have hnn := NSz.mp TConstructor.fName (l := x.fConstructors) (fun y hy => by have h1 := szL_le TConstructor.sz hy; have h2 := y.sz_eq; unfold szs at h2; omega) (by omega); replace H := And.intro hnn H
 have hcl : ∀ k (h : k < x.fConstructors.length), (x.fConstructors[k]).fFields.length ≤ 134217728 := fun k h => by have h1 := szL_le TConstructor.sz (List.getElem_mem h); have h2 := (x.fConstructors[k]).sz_eq; unfold szs at h2; omega
 replace H := And.intro hcl H
 repeat' (first | (refine IN.mk ?_; intros) | (refine iTw ?_; refine T2 ?_ ?_ <;> intro hb H <;> try exact hb.elim) | (refine LF.mk ?_; exact LX) | refine BO.mk ?_ ?_ | (apply iPJ; exact NPJ) | apply PXs.of | refine GN ?_ | (refine XL [1, 36, 37] [1] (fun k0 _ => [(38, .d (.lf (.int .i64 (k0 : Int)))), (3, .d (.sl true .one (((mp TConstructor.fName x.fConstructors k0)).map (dS))))]) (fun _ _ => []) (x.fConstructors.length) (fun k0 _ => (x.fConstructors.any fun c => ctBad c x.fVars) = (x.fConstructors.drop k0).any fun c => ctBad c x.fVars) rU ?_; intro k0 hk0 s0 hi0; have hml := mp_len TConstructor.fName hk0) | fail)
instance giInst (x : TInstance) : Ct cx 111 [.d (.st [.lf (.string (x.fTrait)), .sl false .one ((x.fVars).map (dS)), .st [.lf (.int .i64 (x.fHead.fKind)), .lf (.string (x.fHead.fName)), .sl false sh65 ((x.fHead.fArgs).map (TType.dd false))], .sl false sh174 ((x.fWhere).map (TBound.dd false)), .lf (.bool (x.fDefault)), .lf (.bool (x.fHasAssoc)), .st [.lf (.int .i64 (x.fAssoc.fKind)), .lf (.string (x.fAssoc.fName)), .sl false sh65 ((x.fAssoc.fArgs).map (TType.dd false))], .sl false sh120 ((x.fMethods).map (TMethod.dd false))])] (x.sz ≤ 134217728) (.d (.lf (.bool (instOk x)))) := by
 refine Xi Tryz.func111 123 [.tmp 2] [96, 115] [] etas (And.intro @instOk_sub <| And.intro @inst1_k <| And.intro @inst2.eq_1 <| And.intro @mth_eq <| And.intro @words.eq_1 <| And.intro @any_at <| And.intro @any_end <| @mp_end) ?_; intro hp h M G H E
 have qMethod := TMethod.sz_eq; have gMethod := @sz_get _ TMethod.sz; unfold szs at qMethod
 have hx := x.sz_eq; unfold szs at hx
 have hsw : ∀ y ∈ x.fWhere, y.sz ≤ 134217728 := fun y hy => by have := szL_le TBound.sz hy; omega
 replace H := And.intro hsw H
 have hv : NSz x.fVars := NSz.of (by omega) (by omega); replace H := And.intro hv H
 have hnn := NSz.mp TMethod.fName (l := x.fMethods) (fun y hy => by have h1 := szL_le TMethod.sz hy; have h2 := y.sz_eq; unfold szs at h2; omega) (by omega); replace H := And.intro hnn H
 have htn := tv_NSz x.fHead (by omega); replace H := And.intro htn H
 have hmv : ∀ k (h : k < x.fMethods.length), NSz (x.fMethods[k]).fVars := fun k h => by have h1 := szL_le TMethod.sz (List.getElem_mem h); have h2 := (x.fMethods[k]).sz_eq; unfold szs at h2; exact NSz.of (by omega) (by omega)
 replace H := And.intro hmv H
 repeat' (first | (refine IN.mk ?_; intros) | (refine iTw ?_; refine T2 ?_ ?_ <;> intro hb H <;> try exact hb.elim) | (refine LF.mk ?_; exact LX) | refine BO.mk ?_ ?_ | (apply iPJ; exact NPJ) | apply PXs.of | refine GN ?_ | (refine XL [91, 92] [] (fun k0 _ => [(93, .d (.lf (.int .i64 (k0 : Int)))), (3, .d (.sl true .one (((mp TMethod.fName x.fMethods k0)).map (dS))))]) (fun _ _ => []) (x.fMethods.length) (fun k0 _ => x.fMethods.any mthBad = (x.fMethods.drop k0).any mthBad) rU ?_; intro k0 hk0 s0 hi0; have hml := mp_len TMethod.fName hk0) | fail)
instance giPkg (x : TPackage) : Ct cx 47 [.d (.st [.lf (.string (x.fName)), .sl false .one ((x.fDeps).map (dS)), .sl false sh57 ((x.fTraits).map (TTrait.dd false)), .sl false sh61 ((x.fDataTypes).map (TDataType.dd false)), .sl false sh69 ((x.fInstances).map (TInstance.dd false)), .sl false sh77 ((x.fFunctions).map (TFunction.dd false))])] (x.sz ≤ 134217728) (.d (.lf (.bool (pkgOk x)))) := by
 refine Xi Tryz.func47 108 [.tmp 2] [52, 61, 74, 87, 100] [] etas (And.intro @pkgOk.eq_1 <| And.intro @pk1.eq_1 <| And.intro @rightOk.eq_1 <| And.intro @uq_one <| And.intro @words.eq_1 <| And.intro @allK_end <| And.intro @idxS_ge <| @Bool.and_assoc) ?_; intro hp h M G H E
 have qTrait := TTrait.sz_eq; have gTrait := @sz_get _ TTrait.sz; unfold szs at qTrait
 have qDataType := TDataType.sz_eq; have gDataType := @sz_get _ TDataType.sz; unfold szs at qDataType
 have qInstance := TInstance.sz_eq; have gInstance := @sz_get _ TInstance.sz; unfold szs at qInstance
 have qFunction := TFunction.sz_eq; have gFunction := @sz_get _ TFunction.sz; unfold szs at qFunction
 have hx := x.sz_eq; unfold szs at hx
 have hv : NSz x.fDeps := NSz.of (by omega) (by omega); replace H := And.intro hv H
 have hw1 := i64w (n := (x.fTraits.length : Int) + x.fDataTypes.length) (by omega) (by omega); have hw2 := i64w (n := (x.fTraits.length : Int) + x.fDataTypes.length + x.fInstances.length) (by omega) (by omega); have hw3 := i64w (n := (x.fTraits.length : Int) + x.fDataTypes.length + x.fInstances.length + x.fFunctions.length) (by omega) (by omega); replace H := And.intro hw1 (And.intro hw2 (And.intro hw3 H))
 repeat' (first | (refine LF.mk ?_; rw [allK_end (by assumption), allK_end (by assumption), allK_end (by assumption), allK_end (by assumption)]; have h24 := p24 (by assumption); have hq := @idxS_lt x.fDeps x.fName (by grind); simp [*, List.all_eq_not_any_not]; done) | (refine IN.mk ?_; intros) | (refine iTw ?_; refine T2 ?_ ?_ <;> intro hb H <;> try exact hb.elim) | (refine LF.mk ?_; exact LX) | refine BO.mk ?_ ?_ | (apply iPJ; exact NPJ) | apply PXs.of | refine GN ?_ | (refine XL [1, 56, 57] [1] (fun k0 _ => [(58, .d (.lf (.int .i64 (k0 : Int)))), (3, .d (.lf (.bool (uq [x] && allK traitOk x.fTraits k0))))]) (fun _ _ => []) (x.fTraits.length) (fun _ _ => True) rU ?_; intro k0 hk0 s0 hi0) | (refine XL [1, 69, 70] [1] (fun k1 _ => [(71, .d (.lf (.int .i64 (k1 : Int)))), (3, .d (.lf (.bool (uq [x] && allK traitOk x.fTraits k0 && allK dataOk x.fDataTypes k1))))]) (fun _ _ => []) (x.fDataTypes.length) (fun _ _ => True) rU ?_; intro k1 hk1 s1 hi1) | (refine XL [1, 82, 83] [1] (fun k2 _ => [(84, .d (.lf (.int .i64 (k2 : Int)))), (3, .d (.lf (.bool (uq [x] && allK traitOk x.fTraits k0 && allK dataOk x.fDataTypes k1 && allK instOk x.fInstances k2))))]) (fun _ _ => []) (x.fInstances.length) (fun _ _ => True) rU ?_; intro k2 hk2 s2 hi2) | (refine XL [95, 96] [] (fun k3 _ => [(97, .d (.lf (.int .i64 (k3 : Int)))), (3, .d (.lf (.bool (uq [x] && allK traitOk x.fTraits k0 && allK dataOk x.fDataTypes k1 && allK instOk x.fInstances k2 && allK fnOk x.fFunctions k3))))]) (fun _ _ => []) (x.fFunctions.length) (fun _ _ => True) rU ?_; intro k3 hk3 s3 hi3) | fail)
end Go.Proofs.YtdooklofebdknaaGreat
