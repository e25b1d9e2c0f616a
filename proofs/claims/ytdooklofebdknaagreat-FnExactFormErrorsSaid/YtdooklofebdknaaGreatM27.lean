/- Walks by the Den rules. No condition but sizes. -/
import Derived.Test.YtdooklofebdknaaGreatM20
import Derived.Test.YtdooklofebdknaaGreatM26
namespace Go.Proofs.YtdooklofebdknaaGreat
open Go.RowKit
set_option maxRecDepth 10000
set_option linter.unusedSimpArgs false
set_option maxHeartbeats 4000000
def zT : TType := ⟨0, ⟨#[]⟩, []⟩
def zX : TExpr := ⟨0, ⟨#[]⟩, ⟨#[]⟩, 0, zT, [], []⟩
def isZX (x : TExpr) : Bool := decide (x.fKind = 0) && noS x.fTrait && noS x.fName && decide (x.fN = 0) && zeroT x.fType && decide (x.fArgs = []) && decide (x.fArms = [])
theorem same0_d (l : List TType) (h : HP) : CS cx.P 347 [.d (.sl false sh65 (l.map (TType.dd false))), .d (.sl false sh65 [])] h (.d (.lf (.bool (decide (l = []))))) h := by
 refine Ze Tryz.func347 rfl 27 ?_
 apply Zr; intros
 refine Zo ?_; simp
 exact Zx
 refine W.seq ?_
 apply Zr; intros
 iterate 5 (refine Zo ?_; simp)
 exact Zx
 refine Zc rfl ?_ ?_ <;> intro hb0 <;> try simp at hb0
 have hres : ¬ l = [] := hb0
 apply Zr; intros
 refine Zo ?_; simp
 exact Zx
 refine W.ret (Zq ?_)
 simp [Tryz.f347, hres]
 have hres : l = [] := hb0
 refine W.skip ?_
 refine W.seq ?_
 apply Zr; intros
 refine Zo ?_; simp
 exact Zx
 refine W.block ?_
 refine W.loopk [0, 1] [] (fun k0 => [(5, .d (.lf (.int .i64 (k0 : Int))))]) (fun _ => []) 0 rfl (by simp) fun k0 hk0 T hT => ?_
 simp at hT; subst hT
 refine W.seq ?_
 apply Zr; intros
 iterate 4 (refine Zo ?_; simp)
 exact Zx
 refine Zc rfl ?_ ?_ <;> intro hb1 <;> try simp at hb1
 exfalso; rw [hres] at hb1; simp at hb1
 refine W.exit ?_
 apply Zr; intros
 refine Zo ?_; simp
 exact Zx
 refine W.ret (Zq ?_)
 simp [Tryz.f347, hres]
theorem eqT0_d (x : TType) (h : HP) : CS cx.P 283 [.d (x.dd false), .d (zT.dd false)] h (.d (.lf (.bool (zeroT x)))) h := by
 refine Ze Tryz.func283 rfl 24 ?_
 apply Zr; intros
 iterate 3 (refine Zo ?_ (by simp [zT] <;> omega); simp [zT])
 exact Zx
 refine W.seq ?_
 refine W.regJ0 (D := _) rfl fun _ K hD hK => ?_
 iterate 6 (refine Zo ?_ (by simp [zT] <;> omega); simp [zT])
 refine WL.split 10 _ rfl (fun g10 => ?_) fun g10 => ?_ <;> try simp at g10
 simp [zT]
 iterate 5 (refine Zg hD rfl rfl ?_ (by simp [zT] <;> omega); simp [zT])
 iterate 2 (refine Zo ?_ (by simp [zT] <;> omega); simp [zT])
 refine WL.split 17 _ rfl (fun g17 => ?_) fun g17 => ?_ <;> try simp at g17
 simp [zT]
 iterate 4 (refine Zg hD rfl rfl ?_ (by simp [zT] <;> omega); simp [zT])
 refine Zk hD rfl rfl [] rfl Tryz.func347 (same0_d x.fArgs _) ?_ (by simp [zT]); simp [zT]
 iterate 2 (refine Zo ?_ (by simp [zT] <;> omega); simp [zT])
 refine WL.nil (hK _ ?_)
 refine W.ret (Zq ?_)
 simp [Tryz.f283, zeroT, g10, g17]
 simp [zT]
 iterate 5 (refine Zn hD rfl rfl ?_; simp [zT])
 iterate 2 (refine Zo ?_ (by simp [zT] <;> omega); simp [zT])
 refine WL.nil (hK _ ?_)
 refine W.ret (Zq ?_)
 simp [Tryz.f283, zeroT, g10, g17]
 simp [zT]
 iterate 5 (refine Zn hD rfl rfl ?_; simp [zT])
 iterate 2 (refine Zo ?_ (by simp [zT] <;> omega); simp [zT])
 iterate 5 (refine Zn hD rfl rfl ?_; simp [zT])
 iterate 2 (refine Zo ?_ (by simp [zT] <;> omega); simp [zT])
 refine WL.nil (hK _ ?_)
 refine W.ret (Zq ?_)
 simp [Tryz.f283, zeroT, g10]
theorem eqX0_d (x : TExpr) (h : HP) : CS cx.P 368 [.d (x.dd false), .d (zX.dd false)] h (.d (.lf (.bool (isZX x)))) h := by
 refine Ze Tryz.func368 rfl 130 ?_
 apply Zr; intros
 iterate 3 (refine Zo ?_ (by simp [zX] <;> omega); simp [zX])
 exact Zx
 refine W.seq ?_
 refine W.seq ?_
 refine W.regJ (D := _) [2, 3] [2, 3] [(58, .d (.lf (.bool (!isZX x))))] [] rfl (fun _ K hD hK => ?_) fun T hT => ?_
 iterate 6 (refine Zo ?_ (by simp [zX] <;> omega); simp [zX])
 refine WL.split 12 _ rfl (fun g12 => ?_) fun g12 => ?_ <;> try simp at g12
 simp [zX]
 iterate 5 (refine Zn hD rfl rfl ?_; simp [zX])
 iterate 2 (refine Zo ?_ (by simp [zX] <;> omega); simp [zX])
 iterate 5 (refine Zn hD rfl rfl ?_; simp [zX])
 iterate 2 (refine Zo ?_ (by simp [zX] <;> omega); simp [zX])
 iterate 5 (refine Zn hD rfl rfl ?_; simp [zX])
 iterate 2 (refine Zo ?_ (by simp [zX] <;> omega); simp [zX])
 iterate 6 (refine Zn hD rfl rfl ?_; simp [zX])
 iterate 2 (refine Zo ?_ (by simp [zX] <;> omega); simp [zX])
 iterate 7 (refine Zn hD rfl rfl ?_; simp [zX])
 iterate 2 (refine Zo ?_ (by simp [zX] <;> omega); simp [zX])
 iterate 7 (refine Zn hD rfl rfl ?_; simp [zX])
 refine Zo ?_ (by simp [zX] <;> omega); simp [zX]
 refine WL.nil (hK _ (Wz.to rfl rfl rfl ?_))
 simp [isZX, noS, g12] <;> first | grind | (cases x.fArms <;> simp <;> omega) | omega
 simp [zX]
 iterate 5 (refine Zg hD rfl rfl ?_ (by simp [zX] <;> omega); simp [zX])
 iterate 2 (refine Zo ?_ (by simp [zX] <;> omega); simp [zX])
 refine WL.split 19 _ rfl (fun g19 => ?_) fun g19 => ?_ <;> try simp at g19
 simp [zX]
 iterate 5 (refine Zn hD rfl rfl ?_; simp [zX])
 iterate 2 (refine Zo ?_ (by simp [zX] <;> omega); simp [zX])
 iterate 5 (refine Zn hD rfl rfl ?_; simp [zX])
 iterate 2 (refine Zo ?_ (by simp [zX] <;> omega); simp [zX])
 iterate 6 (refine Zn hD rfl rfl ?_; simp [zX])
 iterate 2 (refine Zo ?_ (by simp [zX] <;> omega); simp [zX])
 iterate 7 (refine Zn hD rfl rfl ?_; simp [zX])
 iterate 2 (refine Zo ?_ (by simp [zX] <;> omega); simp [zX])
 iterate 7 (refine Zn hD rfl rfl ?_; simp [zX])
 refine Zo ?_ (by simp [zX] <;> omega); simp [zX]
 refine WL.nil (hK _ (Wz.to rfl rfl rfl ?_))
 simp [isZX, noS, g12, g19] <;> first | grind | (cases x.fArms <;> simp <;> omega) | omega
 simp [zX]
 iterate 5 (refine Zg hD rfl rfl ?_ (by simp [zX] <;> omega); simp [zX])
 iterate 2 (refine Zo ?_ (by simp [zX] <;> omega); simp [zX])
 refine WL.split 26 _ rfl (fun g26 => ?_) fun g26 => ?_ <;> try simp at g26
 simp [zX]
 iterate 5 (refine Zn hD rfl rfl ?_; simp [zX])
 iterate 2 (refine Zo ?_ (by simp [zX] <;> omega); simp [zX])
 iterate 6 (refine Zn hD rfl rfl ?_; simp [zX])
 iterate 2 (refine Zo ?_ (by simp [zX] <;> omega); simp [zX])
 iterate 7 (refine Zn hD rfl rfl ?_; simp [zX])
 iterate 2 (refine Zo ?_ (by simp [zX] <;> omega); simp [zX])
 iterate 7 (refine Zn hD rfl rfl ?_; simp [zX])
 refine Zo ?_ (by simp [zX] <;> omega); simp [zX]
 refine WL.nil (hK _ (Wz.to rfl rfl rfl ?_))
 simp [isZX, noS, g12, g19, g26] <;> first | grind | (cases x.fArms <;> simp <;> omega) | omega
 simp [zX]
 iterate 5 (refine Zg hD rfl rfl ?_ (by simp [zX] <;> omega); simp [zX])
 iterate 2 (refine Zo ?_ (by simp [zX] <;> omega); simp [zX])
 refine WL.split 33 _ rfl (fun g33 => ?_) fun g33 => ?_ <;> try simp at g33
 simp [zX]
 iterate 6 (refine Zn hD rfl rfl ?_; simp [zX])
 iterate 2 (refine Zo ?_ (by simp [zX] <;> omega); simp [zX])
 iterate 7 (refine Zn hD rfl rfl ?_; simp [zX])
 iterate 2 (refine Zo ?_ (by simp [zX] <;> omega); simp [zX])
 iterate 7 (refine Zn hD rfl rfl ?_; simp [zX])
 refine Zo ?_ (by simp [zX] <;> omega); simp [zX]
 refine WL.nil (hK _ (Wz.to rfl rfl rfl ?_))
 simp [isZX, noS, g12, g19, g26, g33] <;> first | grind | (cases x.fArms <;> simp <;> omega) | omega
 simp [zX]
 iterate 4 (refine Zg hD rfl rfl ?_ (by simp [zX] <;> omega); simp [zX])
 refine Zk hD rfl rfl [] rfl Tryz.func283 (eqT0_d x.fType _) ?_ (by simp [zX]); simp [zX]
 refine Zg hD rfl rfl ?_ (by simp [zX] <;> omega); simp [zX]
 iterate 2 (refine Zo ?_ (by simp [zX] <;> omega); simp [zX])
 refine WL.split 41 _ rfl (fun g41 => ?_) fun g41 => ?_ <;> try simp at g41
 simp [zX]
 iterate 7 (refine Zn hD rfl rfl ?_; simp [zX])
 iterate 2 (refine Zo ?_ (by simp [zX] <;> omega); simp [zX])
 iterate 7 (refine Zn hD rfl rfl ?_; simp [zX])
 refine Zo ?_ (by simp [zX] <;> omega); simp [zX]
 refine WL.nil (hK _ (Wz.to rfl rfl rfl ?_))
 simp [isZX, noS, g12, g19, g26, g33, g41] <;> first | grind | (cases x.fArms <;> simp <;> omega) | omega
 simp [zX]
 iterate 7 (refine Zg hD rfl rfl ?_ (by simp [zX] <;> omega); simp [zX])
 iterate 2 (refine Zo ?_ (by simp [zX] <;> omega); simp [zX])
 refine WL.split 50 _ rfl (fun g50 => ?_) fun g50 => ?_ <;> try simp at g50
 simp [zX]
 iterate 7 (refine Zn hD rfl rfl ?_; simp [zX])
 refine Zo ?_ (by simp [zX] <;> omega); simp [zX]
 refine WL.nil (hK _ (Wz.to rfl rfl rfl ?_))
 simp [isZX, noS, g12, g19, g26, g33, g41, g50] <;> first | grind | (cases x.fArms <;> simp <;> omega) | omega
 simp [zX]
 iterate 7 (refine Zg hD rfl rfl ?_ (by simp [zX] <;> omega); simp [zX])
 refine Zo ?_ (by simp [zX] <;> omega); simp [zX]
 refine WL.nil (hK _ (Wz.to rfl rfl rfl ?_))
 simp [isZX, noS, g12, g19, g26, g33, g41, g50] <;> first | grind | (cases x.fArms <;> simp <;> omega) | omega
 simp at hT; subst hT
 refine Zc rfl ?_ ?_ <;> intro hb0 <;> try simp at hb0
 have hres : isZX x = false := by simpa using hb0
 apply Zr; intros
 refine Zo ?_ (by simp [zX] <;> omega); simp [zX]
 exact Zx
 refine W.ret (Zq ?_)
 simp [Tryz.f368, hres]
 have hres : isZX x = true := by simpa using hb0
 have ha : x.fArgs = [] ∧ x.fArms = [] := by have := hres; unfold isZX at this; simp at this; exact ⟨this.1.2, this.2⟩
 have ha1 := ha.1
 have ha2 := ha.2
 refine W.skip ?_
 refine W.seq ?_
 apply Zr; intros
 refine Zo ?_ (by simp [zX] <;> omega); simp [zX]
 exact Zx
 refine W.block ?_
 refine W.loopk [2, 3] [2, 3] (fun k0 => [(5, .d (.lf (.int .i64 (k0 : Int))))]) (fun _ => []) 0 rfl (by simp) fun k0 hk0 T hT => ?_
 simp at hT; subst hT
 refine W.seq ?_
 apply Zr; intros
 iterate 5 (refine Zo ?_ (by simp [zX] <;> omega); simp [zX])
 exact Zx
 refine Zc rfl ?_ ?_ <;> intro hb1 <;> try simp [ha1] at hb1
 refine W.exit ?_
 refine W.seq ?_
 apply Zr; intros
 refine Zo ?_ (by simp [zX] <;> omega); simp [zX]
 exact Zx
 refine W.block ?_
 refine W.loopk [2, 3] [2, 3] (fun k1 => [(6, .d (.lf (.int .i64 (k1 : Int))))]) (fun _ => []) 0 rfl (by simp) fun k1 hk1 T hT => ?_
 simp at hT; subst hT
 refine W.seq ?_
 apply Zr; intros
 iterate 5 (refine Zo ?_ (by simp [zX] <;> omega); simp [zX])
 exact Zx
 refine Zc rfl ?_ ?_ <;> intro hb3 <;> try simp [ha2] at hb3
 refine W.exit ?_
 apply Zr; intros
 refine Zo ?_ (by simp [zX] <;> omega); simp [zX]
 exact Zx
 refine W.ret (Zq ?_)
 simp [Tryz.f368, hres]
theorem l13None_d (x : TExpr) (h : HP) : CS cx.P 305 [.d (x.dd false)] h (.d (.lf (.bool (isZX x)))) h := by
 refine Ze Tryz.func305 rfl 6 ?_
 apply Zr; intros
 iterate 2 (refine Zo ?_ (by simp [zX, zT] <;> omega); simp [zX, zT])
 exact Zx
 apply Zr; intros
 iterate 2 (refine Zo ?_ (by simp [zX, zT] <;> omega); simp [zX, zT])
 refine Zl [] rfl Tryz.func368 (eqX0_d x _) ?_ (by simp [zX, zT]); simp [zX, zT]
 refine Zo ?_ (by simp [zX, zT] <;> omega); simp [zX, zT]
 exact Zx
 refine W.ret (Zq ?_)
 simp [Tryz.f305]
def nmsK {α : Type} (l : List α) (f : α → ByteArray) (k : Nat) : List ByteArray := (l.take k).map f
theorem nmsK_zero {α : Type} (l : List α) (f : α → ByteArray) : nmsK l f 0 = [] := rfl
theorem nmsK_full {α : Type} (l : List α) (f : α → ByteArray) : nmsK l f l.length = l.map f := by unfold nmsK; rw [List.take_length]
theorem nmsK_snoc {α : Type} {l : List α} (f : α → ByteArray) {k : Nat} (h : k < l.length) : (nmsK l f k).map dS ++ [.lf (.string (f l[k]))] = (nmsK l f (k + 1)).map dS := by
 unfold nmsK
 rw [List.take_succ_eq_append_getElem h, List.map_append, List.map_append]; rfl
theorem nmsK_len {α : Type} {l : List α} (f : α → ByteArray) {k : Nat} (h : k ≤ l.length) : (nmsK l f k).length = k := by unfold nmsK; simp; omega
def selfL : List ByteArray := [⟨#[115, 101, 108, 102]⟩]
def bndBad (b : TBound) (vars : List ByteArray) : Bool := !(isNm b.fTrait && tValid b.fType) || !tOver b.fType vars || hasPj b.fType
def wher (l : List TBound) (vars : List ByteArray) : Bool := !(l.any fun b => bndBad b vars) && decide (l.length ≤ 4)
def sigOk (g : TSignature) : Bool := isNm g.fName && decide (g.fParams.length ≤ 4) && overs g.fParams selfL && tOver g.fResult selfL && (if g.fHasDefault = true then words g.fVars 5 && decide (g.fVars.length = g.fParams.length + 1) && body g.fBody g.fVars else decide (g.fVars = []) && isZX g.fBody)
def traitOk (t : TTrait) : Bool := !(t.fSignatures.any fun g => !sigOk g) && !(t.fAuto && (t.fAssoc || !decide (t.fSignatures = []) || !decide (t.fSupertraits = []))) && isNm t.fName && words t.fSupertraits 4 && words (t.fSignatures.map TSignature.fName) 6
def ctBad (c : TConstructor) (vars : List ByteArray) : Bool := decide (4 < c.fFields.length) || !overs c.fFields vars
def dataOk (d : TDataType) : Bool := !(d.fConstructors.any fun c => ctBad c d.fVars) && isNm d.fName && words d.fVars 3 && decide (0 < d.fConstructors.length) && words (d.fConstructors.map TConstructor.fName) 5
def mthBad (m : TMethod) : Bool := decide (m.fVars = []) || !words m.fVars 5 || !body m.fBody m.fVars
def inst1 (x : TInstance) : Bool := isNm x.fTrait && words x.fVars 3 && tOver x.fHead x.fVars && !hasPj x.fHead && !decide (x.fHead.fKind = 4) && wher x.fWhere x.fVars
def inst2 (x : TInstance) : Bool := if x.fHasAssoc = true then tOver x.fAssoc x.fVars else zeroT x.fAssoc
def instOk (x : TInstance) : Bool := inst1 x && !(x.fVars.any fun v => !decide (0 < occ v x.fHead)) && inst2 x && !(x.fMethods.any mthBad) && words (x.fMethods.map TMethod.fName) 6
def fnOk (x : TFunction) : Bool := !(x.fParams.any fun p => !tOver p.fType x.fVars) && isNm x.fName && words x.fVars 3 && wher x.fWhere x.fVars && words (x.fParams.map TParam.fName) 5 && tOver x.fResult x.fVars && body x.fBody (x.fParams.map TParam.fName)
def occ0 (v : ByteArray) (k : Int) (n : ByteArray) : Nat := if k = 1 ∧ n = v then 1 else 0
def occK (v : ByteArray) (x : TType) (k : Nat) : Nat := occ0 v x.fKind x.fName + occs v (x.fArgs.take k)
theorem occs_app (v : ByteArray) : ∀ a b : List TType, occs v (a ++ b) = occs v a + occs v b
 | [], b => by simp [occs]
 | x :: a, b => by simp only [List.cons_append, occs, occs_app v a b]; omega
mutual
theorem occ_le (v : ByteArray) : ∀ x : TType, occ v x ≤ tSize x
 | ⟨k, n, l⟩ => by
  have := occs_le v l
  simp only [occ, tSize]; split <;> omega
theorem occs_le (v : ByteArray) : ∀ l : List TType, occs v l ≤ tSizes l
 | [] => by simp [occs, tSizes]
 | x :: l => by simp only [occs, tSizes]; have := occ_le v x; have := occs_le v l; omega
end
theorem occK_zero (v : ByteArray) (x : TType) : occK v x 0 = occ0 v x.fKind x.fName := by simp [occK, occs]
theorem occK_full (v : ByteArray) (x : TType) : occK v x x.fArgs.length = occ v x := by cases x; simp [occK, occ, occ0]
theorem occK_nx {v : ByteArray} {x : TType} {k : Nat} (h : k < x.fArgs.length) : occK v x (k + 1) = occK v x k + occ v x.fArgs[k] := by
 unfold occK
 rw [List.take_succ_eq_append_getElem h, occs_app]; simp [occs]; omega
theorem occK_le (v : ByteArray) (x : TType) (k : Nat) : occK v x k ≤ tSzk x.fArgs k := by
 have := occs_le v (x.fArgs.take k)
 unfold occK occ0 tSzk; split <;> omega
theorem sOcc_a (x : TType) (v : ByteArray) (hz : x.sz ≤ 134217728) (hc : ∀ y ∈ x.fArgs, ∀ h, CS cx.P 280 [.d (y.dd false), .d (.lf (.string v))] h (.d (.lf (.int .i64 ((occ v y : Nat) : Int)))) h) (h : HP) : CS cx.P 280 [.d (x.dd false), .d (.lf (.string v))] h (.d (.lf (.int .i64 ((occ v x : Nat) : Int)))) h := by
 have hz2 := x.sz_eq; unfold szs at hz2
 have hts := tSize_le x
 refine Ze Tryz.func280 rfl 33 ?_
 apply Zr; intros
 iterate 2 (refine Zo ?_; simp)
 exact Zx
 apply Zr; intros
 refine Zo ?_; simp
 exact Zx
 refine W.seq ?_
 refine W.seq ?_
 refine W.regJ (D := _) [1, 2, 5] [2] [(15, .d (.lf (.bool (decide (x.fKind = 1) && decide (x.fName = v)))))] [] rfl (fun _ K hD hK => ?_) fun T hT => ?_
 iterate 4 (refine Zo ?_; simp)
 refine WL.split 10 _ rfl (fun g10 => ?_) fun g10 => ?_ <;> try simp at g10
 simp
 iterate 4 (refine Zg hD rfl rfl ?_; simp)
 refine Zo ?_; simp
 refine WL.nil (hK _ (Wz.to rfl rfl rfl ?_))
 simp [g10]
 simp
 iterate 4 (refine Zn hD rfl rfl ?_; simp)
 refine Zo ?_; simp
 refine WL.nil (hK _ (Wz.to rfl rfl rfl ?_))
 simp [g10]
 simp at hT; subst hT
 refine W.join [1, 2] [2] [(5, .d (.lf (.int .i64 ((occ0 v x.fKind x.fName : Nat) : Int))))] [] ?_ fun T hT => ?_
 refine Zc rfl ?_ ?_ <;> intro hb0 <;> try simp at hb0
 have ht : occ0 v x.fKind x.fName = 1 := by unfold occ0; exact if_pos hb0
 apply Zs; intros
 refine Zo ?_; simp
 exact Zx
 refine Wz.to rfl rfl rfl ?_
 simp [ht]
 have ht : occ0 v x.fKind x.fName = 0 := by unfold occ0; exact if_neg (by simpa using hb0)
 refine W.skip ?_
 refine Wz.to rfl rfl rfl ?_
 simp [ht]
 simp at hT; subst hT
 refine W.seq ?_
 apply Zr; intros
 refine Zo ?_; simp
 exact Zx
 refine W.block ?_
 refine W.loopk [1, 2] [2] (fun k0 => [(6, .d (.lf (.int .i64 (k0 : Int)))), (5, .d (.lf (.int .i64 ((occK v x k0 : Nat) : Int))))]) (fun _ => []) x.fArgs.length rfl (by simp [occK_zero]) fun k0 hk0 T hT => ?_
 simp at hT; subst hT
 refine W.seq ?_
 apply Zr; intros
 iterate 5 (refine Zo ?_; simp)
 exact Zx
 refine Zc rfl ?_ ?_ <;> intro hb1 <;> try simp at hb1
 have hx := ixNext hb1 (by omega)
 have hw : IntKind.i64.wrap ((occK v x k0 : Int) + (occ v x.fArgs[k0] : Int)) = (occK v x (k0 + 1) : Int) := by have h1 := occK_nx (v := v) hb1; have h2 := occK_le v x (k0 + 1); have h3 := tSzk_le x (k0 + 1); rw [i64w (by omega) (by omega)]; omega
 refine W.skip ?_
 refine Zb ?_
 apply Zs; intros
 iterate 7 (refine Zo ?_ (by simp [hb1, hx, hw] <;> omega); simp [hb1, hx, hw])
 refine Zl [] rfl Tryz.func280 (hc x.fArgs[k0] (gm hb1) _) ?_ (by simp [hb1, hx, hw]); simp [hb1, hx, hw]
 iterate 2 (refine Zo ?_ (by simp [hb1, hx, hw] <;> omega); simp [hb1, hx, hw])
 exact Zx
 apply Zs; intros
 iterate 3 (refine Zo ?_ (by simp [hb1, hx, hw] <;> omega); simp [hb1, hx, hw])
 exact Zx
 refine ⟨hb1, Wz.to rfl rfl rfl ?_⟩
 simp
 have hkl : k0 = x.fArgs.length := by omega
 subst hkl
 have hres := occK_full v x
 refine W.exit ?_
 apply Zr; intros
 iterate 2 (refine Zo ?_; simp)
 exact Zx
 refine W.ret (Zq ?_)
 simp [Tryz.f280, hres]
theorem sOcc_d (x : TType) (v : ByteArray) (hz : x.sz ≤ 134217728) (h : HP) : CS cx.P 280 [.d (x.dd false), .d (.lf (.string v))] h (.d (.lf (.int .i64 ((occ v x : Nat) : Int)))) h := sOcc_a x v hz (fun y hy h => sOcc_d y v (by have h1 := szL_le TType.sz hy; have h2 := x.sz_eq; unfold szs at h2; omega) h) h
termination_by SizeOf.sizeOf x
decreasing_by have := List.sizeOf_lt_of_mem hy; have := x.lt_fArgs; omega
theorem sOccurs_d (v : ByteArray) (x : TType) (hz : x.sz ≤ 134217728) (h : HP) : CS cx.P 233 [.d (.lf (.string v)), .d (x.dd false)] h (.d (.lf (.bool (decide (0 < occ v x))))) h := by
 refine Ze Tryz.func233 rfl 9 ?_
 apply Zr; intros
 iterate 2 (refine Zo ?_; simp)
 exact Zx
 apply Zr; intros
 iterate 2 (refine Zo ?_; simp)
 refine Zl [] rfl Tryz.func280 (sOcc_d x v hz _) ?_; simp
 iterate 2 (refine Zo ?_; simp)
 exact Zx
 refine W.ret (Zq ?_)
 simp [Tryz.f233]
end Go.Proofs.YtdooklofebdknaaGreat
