/- Walks by the Den rules. No condition but sizes. -/
import Derived.Test.YtkadbimpaplnmaaGreatDoorM16
import Derived.Test.YtkadbimpaplnmaaGreatDoorM23
namespace Go.Proofs.YtkadbimpaplnmaaGreatDoor
open Go.RowKit
set_option maxRecDepth 10000
set_option linter.unusedSimpArgs false
set_option maxHeartbeats 4000000
def zT : TType := ⟨0, ⟨#[]⟩, []⟩
def zX : TExpr := ⟨0, ⟨#[]⟩, ⟨#[]⟩, 0, zT, [], []⟩
def isZX (x : TExpr) : Bool := decide (x.fKind = 0) && noS x.fTrait && noS x.fName && decide (x.fN = 0) && zeroT x.fType && decide (x.fArgs = []) && decide (x.fArms = [])
theorem same0_d (l : List TType) (h : HP) : CS cx.P 285 [.d (.sl false sh88 (l.map (TType.dd false))), .d (.sl false sh88 [])] h (.d (.lf (.bool (decide (l = []))))) h := by
 refine Ze Tryz.func285 rfl 27 ?_
 apply Zr; intros
 refine Zo ?_; simp
 exact Zx
 refine W.seq ?_
 apply Zr; intros
 iterate 5 (refine Zo ?_; simp)
 exact Zx
 refine Zc rfl ?_ ?_ <;> intro hb0 <;> try simp at hb0
 have hres : ¬ l = [] := hb0
 apply Zr; intros
 refine Zo ?_; simp
 exact Zx
 refine W.ret (Zq ?_)
 simp [Tryz.f285, hres]
 have hres : l = [] := hb0
 refine W.skip ?_
 refine W.seq ?_
 apply Zr; intros
 refine Zo ?_; simp
 exact Zx
 refine W.block ?_
 refine W.loopk [0, 1] [] (fun k0 => [(5, .d (.lf (.int .i64 (k0 : Int))))]) (fun _ => []) 0 rfl (by simp) fun k0 hk0 T hT => ?_
 simp at hT; subst hT
 refine W.seq ?_
 apply Zr; intros
 iterate 4 (refine Zo ?_; simp)
 exact Zx
 refine Zc rfl ?_ ?_ <;> intro hb1 <;> try simp at hb1
 exfalso; rw [hres] at hb1; simp at hb1
 refine W.exit ?_
 apply Zr; intros
 refine Zo ?_; simp
 exact Zx
 refine W.ret (Zq ?_)
 simp [Tryz.f285, hres]
theorem eqT0_d (x : TType) (h : HP) : CS cx.P 265 [.d (x.dd false), .d (zT.dd false)] h (.d (.lf (.bool (zeroT x)))) h := by
 refine Ze Tryz.func265 rfl 24 ?_
 apply Zr; intros
 iterate 3 (refine Zo ?_ (by simp [zT] <;> omega); simp [zT])
 exact Zx
 refine W.seq ?_
 refine W.regJ0 (D := _) rfl fun _ K hD hK => ?_
 iterate 6 (refine Zo ?_ (by simp [zT] <;> omega); simp [zT])
 refine WL.split 10 _ rfl (fun g10 => ?_) fun g10 => ?_ <;> try simp at g10
 simp [zT]
 iterate 5 (refine Zg hD rfl rfl ?_ (by simp [zT] <;> omega); simp [zT])
 iterate 2 (refine Zo ?_ (by simp [zT] <;> omega); simp [zT])
 refine WL.split 17 _ rfl (fun g17 => ?_) fun g17 => ?_ <;> try simp at g17
 simp [zT]
 iterate 4 (refine Zg hD rfl rfl ?_ (by simp [zT] <;> omega); simp [zT])
 refine Zk hD rfl rfl [] rfl Tryz.func285 (same0_d x.fArgs _) ?_ (by simp [zT]); simp [zT]
 iterate 2 (refine Zo ?_ (by simp [zT] <;> omega); simp [zT])
 refine WL.nil (hK _ ?_)
 refine W.ret (Zq ?_)
 simp [Tryz.f265, zeroT, g10, g17]
 simp [zT]
 iterate 5 (refine Zn hD rfl rfl ?_; simp [zT])
 iterate 2 (refine Zo ?_ (by simp [zT] <;> omega); simp [zT])
 refine WL.nil (hK _ ?_)
 refine W.ret (Zq ?_)
 simp [Tryz.f265, zeroT, g10, g17]
 simp [zT]
 iterate 5 (refine Zn hD rfl rfl ?_; simp [zT])
 iterate 2 (refine Zo ?_ (by simp [zT] <;> omega); simp [zT])
 iterate 5 (refine Zn hD rfl rfl ?_; simp [zT])
 iterate 2 (refine Zo ?_ (by simp [zT] <;> omega); simp [zT])
 refine WL.nil (hK _ ?_)
 refine W.ret (Zq ?_)
 simp [Tryz.f265, zeroT, g10]
theorem eqX0_d (x : TExpr) (h : HP) : CS cx.P 242 [.d (x.dd false), .d (zX.dd false)] h (.d (.lf (.bool (isZX x)))) h := by
 refine Ze Tryz.func242 rfl 130 ?_
 apply Zr; intros
 iterate 3 (refine Zo ?_ (by simp [zX] <;> omega); simp [zX])
 exact Zx
 refine W.seq ?_
 refine W.seq ?_
 refine W.regJ (D := _) [2, 3] [2, 3] [(58, .d (.lf (.bool (!isZX x))))] [] rfl (fun _ K hD hK => ?_) fun T hT => ?_
 iterate 6 (refine Zo ?_ (by simp [zX] <;> omega); simp [zX])
 refine WL.split 12 _ rfl (fun g12 => ?_) fun g12 => ?_ <;> try simp at g12
 simp [zX]
 iterate 5 (refine Zn hD rfl rfl ?_; simp [zX])
 iterate 2 (refine Zo ?_ (by simp [zX] <;> omega); simp [zX])
 iterate 5 (refine Zn hD rfl rfl ?_; simp [zX])
 iterate 2 (refine Zo ?_ (by simp [zX] <;> omega); simp [zX])
 iterate 5 (refine Zn hD rfl rfl ?_; simp [zX])
 iterate 2 (refine Zo ?_ (by simp [zX] <;> omega); simp [zX])
 iterate 6 (refine Zn hD rfl rfl ?_; simp [zX])
 iterate 2 (refine Zo ?_ (by simp [zX] <;> omega); simp [zX])
 iterate 7 (refine Zn hD rfl rfl ?_; simp [zX])
 iterate 2 (refine Zo ?_ (by simp [zX] <;> omega); simp [zX])
 iterate 7 (refine Zn hD rfl rfl ?_; simp [zX])
 refine Zo ?_ (by simp [zX] <;> omega); simp [zX]
 refine WL.nil (hK _ (Wz.to rfl rfl rfl ?_))
 simp [isZX, noS, g12] <;> first | grind | (cases x.fArms <;> simp <;> omega) | omega
 simp [zX]
 iterate 5 (refine Zg hD rfl rfl ?_ (by simp [zX] <;> omega); simp [zX])
 iterate 2 (refine Zo ?_ (by simp [zX] <;> omega); simp [zX])
 refine WL.split 19 _ rfl (fun g19 => ?_) fun g19 => ?_ <;> try simp at g19
 simp [zX]
 iterate 5 (refine Zn hD rfl rfl ?_; simp [zX])
 iterate 2 (refine Zo ?_ (by simp [zX] <;> omega); simp [zX])
 iterate 5 (refine Zn hD rfl rfl ?_; simp [zX])
 iterate 2 (refine Zo ?_ (by simp [zX] <;> omega); simp [zX])
 iterate 6 (refine Zn hD rfl rfl ?_; simp [zX])
 iterate 2 (refine Zo ?_ (by simp [zX] <;> omega); simp [zX])
 iterate 7 (refine Zn hD rfl rfl ?_; simp [zX])
 iterate 2 (refine Zo ?_ (by simp [zX] <;> omega); simp [zX])
 iterate 7 (refine Zn hD rfl rfl ?_; simp [zX])
 refine Zo ?_ (by simp [zX] <;> omega); simp [zX]
 refine WL.nil (hK _ (Wz.to rfl rfl rfl ?_))
 simp [isZX, noS, g12, g19] <;> first | grind | (cases x.fArms <;> simp <;> omega) | omega
 simp [zX]
 iterate 5 (refine Zg hD rfl rfl ?_ (by simp [zX] <;> omega); simp [zX])
 iterate 2 (refine Zo ?_ (by simp [zX] <;> omega); simp [zX])
 refine WL.split 26 _ rfl (fun g26 => ?_) fun g26 => ?_ <;> try simp at g26
 simp [zX]
 iterate 5 (refine Zn hD rfl rfl ?_; simp [zX])
 iterate 2 (refine Zo ?_ (by simp [zX] <;> omega); simp [zX])
 iterate 6 (refine Zn hD rfl rfl ?_; simp [zX])
 iterate 2 (refine Zo ?_ (by simp [zX] <;> omega); simp [zX])
 iterate 7 (refine Zn hD rfl rfl ?_; simp [zX])
 iterate 2 (refine Zo ?_ (by simp [zX] <;> omega); simp [zX])
 iterate 7 (refine Zn hD rfl rfl ?_; simp [zX])
 refine Zo ?_ (by simp [zX] <;> omega); simp [zX]
 refine WL.nil (hK _ (Wz.to rfl rfl rfl ?_))
 simp [isZX, noS, g12, g19, g26] <;> first | grind | (cases x.fArms <;> simp <;> omega) | omega
 simp [zX]
 iterate 5 (refine Zg hD rfl rfl ?_ (by simp [zX] <;> omega); simp [zX])
 iterate 2 (refine Zo ?_ (by simp [zX] <;> omega); simp [zX])
 refine WL.split 33 _ rfl (fun g33 => ?_) fun g33 => ?_ <;> try simp at g33
 simp [zX]
 iterate 6 (refine Zn hD rfl rfl ?_; simp [zX])
 iterate 2 (refine Zo ?_ (by simp [zX] <;> omega); simp [zX])
 iterate 7 (refine Zn hD rfl rfl ?_; simp [zX])
 iterate 2 (refine Zo ?_ (by simp [zX] <;> omega); simp [zX])
 iterate 7 (refine Zn hD rfl rfl ?_; simp [zX])
 refine Zo ?_ (by simp [zX] <;> omega); simp [zX]
 refine WL.nil (hK _ (Wz.to rfl rfl rfl ?_))
 simp [isZX, noS, g12, g19, g26, g33] <;> first | grind | (cases x.fArms <;> simp <;> omega) | omega
 simp [zX]
 iterate 4 (refine Zg hD rfl rfl ?_ (by simp [zX] <;> omega); simp [zX])
 refine Zk hD rfl rfl [] rfl Tryz.func265 (eqT0_d x.fType _) ?_ (by simp [zX]); simp [zX]
 refine Zg hD rfl rfl ?_ (by simp [zX] <;> omega); simp [zX]
 iterate 2 (refine Zo ?_ (by simp [zX] <;> omega); simp [zX])
 refine WL.split 41 _ rfl (fun g41 => ?_) fun g41 => ?_ <;> try simp at g41
 simp [zX]
 iterate 7 (refine Zn hD rfl rfl ?_; simp [zX])
 iterate 2 (refine Zo ?_ (by simp [zX] <;> omega); simp [zX])
 iterate 7 (refine Zn hD rfl rfl ?_; simp [zX])
 refine Zo ?_ (by simp [zX] <;> omega); simp [zX]
 refine WL.nil (hK _ (Wz.to rfl rfl rfl ?_))
 simp [isZX, noS, g12, g19, g26, g33, g41] <;> first | grind | (cases x.fArms <;> simp <;> omega) | omega
 simp [zX]
 iterate 7 (refine Zg hD rfl rfl ?_ (by simp [zX] <;> omega); simp [zX])
 iterate 2 (refine Zo ?_ (by simp [zX] <;> omega); simp [zX])
 refine WL.split 50 _ rfl (fun g50 => ?_) fun g50 => ?_ <;> try simp at g50
 simp [zX]
 iterate 7 (refine Zn hD rfl rfl ?_; simp [zX])
 refine Zo ?_ (by simp [zX] <;> omega); simp [zX]
 refine WL.nil (hK _ (Wz.to rfl rfl rfl ?_))
 simp [isZX, noS, g12, g19, g26, g33, g41, g50] <;> first | grind | (cases x.fArms <;> simp <;> omega) | omega
 simp [zX]
 iterate 7 (refine Zg hD rfl rfl ?_ (by simp [zX] <;> omega); simp [zX])
 refine Zo ?_ (by simp [zX] <;> omega); simp [zX]
 refine WL.nil (hK _ (Wz.to rfl rfl rfl ?_))
 simp [isZX, noS, g12, g19, g26, g33, g41, g50] <;> first | grind | (cases x.fArms <;> simp <;> omega) | omega
 simp at hT; subst hT
 refine Zc rfl ?_ ?_ <;> intro hb0 <;> try simp at hb0
 have hres : isZX x = false := by simpa using hb0
 apply Zr; intros
 refine Zo ?_ (by simp [zX] <;> omega); simp [zX]
 exact Zx
 refine W.ret (Zq ?_)
 simp [Tryz.f242, hres]
 have hres : isZX x = true := by simpa using hb0
 have ha : x.fArgs = [] ∧ x.fArms = [] := by have := hres; unfold isZX at this; simp at this; exact ⟨this.1.2, this.2⟩
 have ha1 := ha.1
 have ha2 := ha.2
 refine W.skip ?_
 refine W.seq ?_
 apply Zr; intros
 refine Zo ?_ (by simp [zX] <;> omega); simp [zX]
 exact Zx
 refine W.block ?_
 refine W.loopk [2, 3] [2, 3] (fun k0 => [(5, .d (.lf (.int .i64 (k0 : Int))))]) (fun _ => []) 0 rfl (by simp) fun k0 hk0 T hT => ?_
 simp at hT; subst hT
 refine W.seq ?_
 apply Zr; intros
 iterate 5 (refine Zo ?_ (by simp [zX] <;> omega); simp [zX])
 exact Zx
 refine Zc rfl ?_ ?_ <;> intro hb1 <;> try simp [ha1] at hb1
 refine W.exit ?_
 refine W.seq ?_
 apply Zr; intros
 refine Zo ?_ (by simp [zX] <;> omega); simp [zX]
 exact Zx
 refine W.block ?_
 refine W.loopk [2, 3] [2, 3] (fun k1 => [(6, .d (.lf (.int .i64 (k1 : Int))))]) (fun _ => []) 0 rfl (by simp) fun k1 hk1 T hT => ?_
 simp at hT; subst hT
 refine W.seq ?_
 apply Zr; intros
 iterate 5 (refine Zo ?_ (by simp [zX] <;> omega); simp [zX])
 exact Zx
 refine Zc rfl ?_ ?_ <;> intro hb3 <;> try simp [ha2] at hb3
 refine W.exit ?_
 apply Zr; intros
 refine Zo ?_ (by simp [zX] <;> omega); simp [zX]
 exact Zx
 refine W.ret (Zq ?_)
 simp [Tryz.f242, hres]
theorem l13None_d (x : TExpr) (h : HP) : CS cx.P 193 [.d (x.dd false)] h (.d (.lf (.bool (isZX x)))) h := by
 refine Ze Tryz.func193 rfl 6 ?_
 apply Zr; intros
 iterate 2 (refine Zo ?_ (by simp [zX, zT] <;> omega); simp [zX, zT])
 exact Zx
 apply Zr; intros
 iterate 2 (refine Zo ?_ (by simp [zX, zT] <;> omega); simp [zX, zT])
 refine Zl [] rfl Tryz.func242 (eqX0_d x _) ?_ (by simp [zX, zT]); simp [zX, zT]
 refine Zo ?_ (by simp [zX, zT] <;> omega); simp [zX, zT]
 exact Zx
 refine W.ret (Zq ?_)
 simp [Tryz.f193]
def nmsK {α : Type} (l : List α) (f : α → ByteArray) (k : Nat) : List ByteArray := (l.take k).map f
theorem nmsK_zero {α : Type} (l : List α) (f : α → ByteArray) : nmsK l f 0 = [] := rfl
theorem nmsK_full {α : Type} (l : List α) (f : α → ByteArray) : nmsK l f l.length = l.map f := by unfold nmsK; rw [List.take_length]
theorem nmsK_snoc {α : Type} {l : List α} (f : α → ByteArray) {k : Nat} (h : k < l.length) : (nmsK l f k).map dS ++ [.lf (.string (f l[k]))] = (nmsK l f (k + 1)).map dS := by
 unfold nmsK
 rw [List.take_succ_eq_append_getElem h, List.map_append, List.map_append]; rfl
theorem nmsK_len {α : Type} {l : List α} (f : α → ByteArray) {k : Nat} (h : k ≤ l.length) : (nmsK l f k).length = k := by unfold nmsK; simp; omega
theorem nmsK_mem {α : Type} {l : List α} {f : α → ByteArray} {k : Nat} {s : ByteArray} (h : s ∈ nmsK l f k) : ∃ y ∈ l, f y = s := by
 unfold nmsK at h
 obtain ⟨y, hy, e⟩ := List.mem_map.1 h
 exact ⟨y, List.mem_of_mem_take hy, e⟩
def selfL : List ByteArray := [⟨#[115, 101, 108, 102]⟩]
def bndBad (b : TBound) (vars : List ByteArray) : Bool := !(isNm b.fTrait && tValid b.fType) || !tOver b.fType vars || hasPj b.fType
def wher (l : List TBound) (vars : List ByteArray) : Bool := !(l.any fun b => bndBad b vars) && decide (l.length ≤ 4)
def sigOk (g : TSignature) : Bool := isNm g.fName && decide (g.fParams.length ≤ 4) && overs g.fParams selfL && tOver g.fResult selfL && (if g.fHasDefault = true then words g.fVars 5 && decide (g.fVars.length = g.fParams.length + 1) && body g.fBody g.fVars else decide (g.fVars = []) && isZX g.fBody)
def traitOk (t : TTrait) : Bool := !(t.fSignatures.any fun g => !sigOk g) && !(t.fAuto && (t.fAssoc || !decide (t.fSignatures = []) || !decide (t.fSupertraits = []))) && isNm t.fName && words t.fSupertraits 4 && words (t.fSignatures.map TSignature.fName) 6
def ctBad (c : TConstructor) (vars : List ByteArray) : Bool := decide (4 < c.fFields.length) || !overs c.fFields vars
def dataOk (d : TDataType) : Bool := !(d.fConstructors.any fun c => ctBad c d.fVars) && isNm d.fName && words d.fVars 3 && decide (0 < d.fConstructors.length) && words (d.fConstructors.map TConstructor.fName) 5
def mthBad (m : TMethod) : Bool := decide (m.fVars = []) || !words m.fVars 5 || !body m.fBody m.fVars
def inst1 (x : TInstance) : Bool := isNm x.fTrait && words x.fVars 3 && tOver x.fHead x.fVars && !hasPj x.fHead && !decide (x.fHead.fKind = 4) && wher x.fWhere x.fVars
def inst2 (x : TInstance) : Bool := if x.fHasAssoc = true then tOver x.fAssoc x.fVars else zeroT x.fAssoc
def instOk (x : TInstance) : Bool := inst1 x && !(x.fVars.any fun v => !decide (0 < occ v x.fHead)) && inst2 x && !(x.fMethods.any mthBad) && words (x.fMethods.map TMethod.fName) 6
def fnOk (x : TFunction) : Bool := !(x.fParams.any fun p => !tOver p.fType x.fVars) && isNm x.fName && words x.fVars 3 && wher x.fWhere x.fVars && words (x.fParams.map TParam.fName) 5 && tOver x.fResult x.fVars && body x.fBody (x.fParams.map TParam.fName)
theorem l13Where_d (l : List TBound) (vars : List ByteArray) (hm : vars.length ≤ 4294967296) (hl : l.length ≤ 134217728) (hs : ∀ y ∈ l, y.sz ≤ 134217728) (h : HP) : CS cx.P 137 [.d (.sl false sh206 (l.map (TBound.dd false))), .d (.sl false .one (vars.map dS))] h (.d (.lf (.bool (wher l vars)))) h := by
 refine Ze Tryz.func137 rfl 39 ?_
 apply Zr; intros
 refine Zo ?_; simp
 exact Zx
 refine W.seq ?_
 apply Zr; intros
 refine Zo ?_; simp
 exact Zx
 refine W.block ?_
 refine W.loopI [0, 1] [] (fun k0 => [(5, .d (.lf (.int .i64 (k0 : Int))))]) (fun _ => []) l.length (fun k0 => ∀ j, j < k0 → ∀ y, l[j]? = some y → (fun b => bndBad b vars) y = false) rfl (by simp) (by simp) fun k0 hk0 hi0 T hT => ?_
 simp at hT; subst hT
 refine W.seq ?_
 apply Zr; intros
 iterate 4 (refine Zo ?_; simp)
 exact Zx
 refine Zc rfl ?_ ?_ <;> intro hb0 <;> try simp at hb0
 have hx := ixNext hb0 (by omega)
 refine W.skip ?_
 refine Zb ?_
 refine W.seq ?_
 refine W.regJ (D := _) [0, 1, 5] [] [(35, .d (.lf (.bool (bndBad l[k0] vars))))] [] rfl (fun _ K hD hK => ?_) fun T hT => ?_
 iterate 4 (refine Zo ?_ (by simp [hb0, hx] <;> omega); simp [hb0, hx])
 refine Zl [] rfl Tryz.func196 (sValidB_d l[k0] (by have := hs _ (gm hb0); omega) _) ?_ (by simp [hb0, hx]); simp [hb0, hx]
 iterate 2 (refine Zo ?_ (by simp [hb0, hx] <;> omega); simp [hb0, hx])
 refine WL.split 18 _ rfl (fun g18 => ?_) fun g18 => ?_ <;> try simp at g18
 simp [hb0, hx]
 iterate 8 (refine Zn hD rfl rfl ?_; simp [hb0, hx])
 iterate 2 (refine Zo ?_ (by simp [hb0, hx] <;> omega); simp [hb0, hx])
 iterate 6 (refine Zn hD rfl rfl ?_; simp [hb0, hx])
 refine Zo ?_ (by simp [hb0, hx] <;> omega); simp [hb0, hx]
 refine WL.nil (hK _ (Wz.to rfl rfl rfl ?_))
 simp [bndBad, g18]
 simp [hb0, hx]
 iterate 6 (refine Zg hD rfl rfl ?_ (by simp [hb0, hx] <;> omega); simp [hb0, hx])
 refine Zk hD rfl rfl [] rfl Tryz.func135 (l13Vars_d l[k0].fType vars hm (by have := hs _ (gm hb0); have := l[k0].sz_eq; omega) _) ?_ (by simp [hb0, hx]); simp [hb0, hx]
 refine Zg hD rfl rfl ?_ (by simp [hb0, hx] <;> omega); simp [hb0, hx]
 iterate 2 (refine Zo ?_ (by simp [hb0, hx] <;> omega); simp [hb0, hx])
 refine WL.split 28 _ rfl (fun g28 => ?_) fun g28 => ?_ <;> try simp at g28
 simp [hb0, hx]
 iterate 6 (refine Zn hD rfl rfl ?_; simp [hb0, hx])
 refine Zo ?_ (by simp [hb0, hx] <;> omega); simp [hb0, hx]
 refine WL.nil (hK _ (Wz.to rfl rfl rfl ?_))
 simp [bndBad, g18, g28]
 simp [hb0, hx]
 iterate 5 (refine Zg hD rfl rfl ?_ (by simp [hb0, hx] <;> omega); simp [hb0, hx])
 refine Zk hD rfl rfl [] rfl Tryz.func136 (sPj_d l[k0].fType (by have := hs _ (gm hb0); have := l[k0].sz_eq; omega) _) ?_ (by simp [hb0, hx]); simp [hb0, hx]
 refine Zo ?_ (by simp [hb0, hx] <;> omega); simp [hb0, hx]
 refine WL.nil (hK _ (Wz.to rfl rfl rfl ?_))
 simp [bndBad, g18, g28]
 simp at hT; subst hT
 refine Zc rfl ?_ ?_ <;> intro hb1 <;> try simp at hb1
 have hres := anyP_yes (p := fun b => bndBad b vars) hb0 (by simpa using hb1)
 apply Zr; intros
 refine Zo ?_ (by simp [hb0, hx] <;> omega); simp [hb0, hx]
 exact Zx
 refine W.ret (Zq ?_)
 simp [Tryz.f137, wher, hres] <;> omega
 refine W.skip ?_
 apply Zs; intros
 iterate 3 (refine Zo ?_ (by simp [hb0, hx] <;> omega); simp [hb0, hx])
 exact Zx
 refine ⟨hb0, noP_step (p := fun b => bndBad b vars) hi0 hb0 (by simpa using hb1), Wz.to rfl rfl rfl ?_⟩
 simp
 have hkl : k0 = l.length := by omega
 subst hkl
 have hres := anyP_no (p := fun b => bndBad b vars) hi0
 refine W.exit ?_
 apply Zr; intros
 iterate 4 (refine Zo ?_; simp)
 exact Zx
 refine W.ret (Zq ?_)
 simp [Tryz.f137, wher, hres] <;> omega
theorem l13Sig_d (x : TSignature) (hz : x.sz ≤ 134217728) (h : HP) : CS cx.P 132 [.d (x.dd false)] h (.d (.lf (.bool (sigOk x)))) h := by
 have hz2 := x.sz_eq; unfold szs at hz2
 have hps : ∀ y ∈ x.fParams, y.sz ≤ 134217728 := fun y hy => by have := szL_le TType.sz hy; omega
 have hw := i64w (n := (x.fParams.length : Int) + 1) (by omega) (by omega)
 refine Ze Tryz.func132 rfl 59 ?_
 apply Zr; intros
 iterate 2 (refine Zo ?_ (by simp [selfL, hw] <;> omega); simp [selfL, hw])
 exact Zx
 refine W.seq ?_
 refine W.seq ?_
 refine W.regJ (D := _) [1] [1] [(26, .d (.lf (.bool (!(isNm x.fName && decide (x.fParams.length ≤ 4) && overs x.fParams selfL && tOver x.fResult selfL)))))] [] rfl (fun _ K hD hK => ?_) fun T hT => ?_
 iterate 2 (refine Zo ?_ (by simp [selfL, hw] <;> omega); simp [selfL, hw])
 refine Zl [] rfl Tryz.func78 (sName_d x.fName (by omega) _) ?_ (by simp [selfL, hw]); simp [selfL, hw]
 iterate 2 (refine Zo ?_ (by simp [selfL, hw] <;> omega); simp [selfL, hw])
 refine WL.split 7 _ rfl (fun g7 => ?_) fun g7 => ?_ <;> try simp at g7
 simp [selfL, hw]
 iterate 4 (refine Zn hD rfl rfl ?_; simp [selfL, hw])
 iterate 2 (refine Zo ?_ (by simp [selfL, hw] <;> omega); simp [selfL, hw])
 iterate 5 (refine Zn hD rfl rfl ?_; simp [selfL, hw])
 iterate 2 (refine Zo ?_ (by simp [selfL, hw] <;> omega); simp [selfL, hw])
 iterate 5 (refine Zn hD rfl rfl ?_; simp [selfL, hw])
 refine Zo ?_ (by simp [selfL, hw] <;> omega); simp [selfL, hw]
 refine WL.nil (hK _ (Wz.to rfl rfl rfl ?_))
 simp [selfL, g7] <;> first | grind | omega
 simp [selfL, hw]
 iterate 4 (refine Zg hD rfl rfl ?_ (by simp [selfL, hw] <;> omega); simp [selfL, hw])
 iterate 2 (refine Zo ?_ (by simp [selfL, hw] <;> omega); simp [selfL, hw])
 refine WL.split 13 _ rfl (fun g13 => ?_) fun g13 => ?_ <;> try simp at g13
 simp [selfL, hw]
 iterate 5 (refine Zn hD rfl rfl ?_; simp [selfL, hw])
 iterate 2 (refine Zo ?_ (by simp [selfL, hw] <;> omega); simp [selfL, hw])
 iterate 5 (refine Zn hD rfl rfl ?_; simp [selfL, hw])
 refine Zo ?_ (by simp [selfL, hw] <;> omega); simp [selfL, hw]
 refine WL.nil (hK _ (Wz.to rfl rfl rfl ?_))
 simp [selfL, g7, g13] <;> first | grind | omega
 simp [selfL, hw]
 iterate 3 (refine Zg hD rfl rfl ?_ (by simp [selfL, hw] <;> omega); simp [selfL, hw])
 refine Zk hD rfl rfl [] rfl Tryz.func134 (l13All_d x.fParams selfL (by decide) (by omega) hps _) ?_ (by simp [selfL, hw]); simp [selfL, hw]
 refine Zg hD rfl rfl ?_ (by simp [selfL, hw] <;> omega); simp [selfL, hw]
 iterate 2 (refine Zo ?_ (by simp [selfL, hw] <;> omega); simp [selfL, hw])
 refine WL.split 20 _ rfl (fun g20 => ?_) fun g20 => ?_ <;> try simp at g20
 simp [selfL, hw]
 iterate 5 (refine Zn hD rfl rfl ?_; simp [selfL, hw])
 refine Zo ?_ (by simp [selfL, hw] <;> omega); simp [selfL, hw]
 refine WL.nil (hK _ (Wz.to rfl rfl rfl ?_))
 simp [selfL, g7, g13, g20] <;> first | grind | omega
 simp [selfL, hw]
 iterate 3 (refine Zg hD rfl rfl ?_ (by simp [selfL, hw] <;> omega); simp [selfL, hw])
 refine Zk hD rfl rfl [] rfl Tryz.func135 (l13Vars_d x.fResult selfL (by decide) (by omega) _) ?_ (by simp [selfL, hw]); simp [selfL, hw]
 refine Zg hD rfl rfl ?_ (by simp [selfL, hw] <;> omega); simp [selfL, hw]
 refine Zo ?_ (by simp [selfL, hw] <;> omega); simp [selfL, hw]
 refine WL.nil (hK _ (Wz.to rfl rfl rfl ?_))
 simp [selfL, g7, g13, g20] <;> first | grind | omega
 simp at hT; subst hT
 refine Zc rfl ?_ ?_ <;> intro hb0 <;> try simp at hb0
 have hres : sigOk x = false := by simp only [sigOk]; grind
 apply Zr; intros
 refine Zo ?_ (by simp [selfL, hw] <;> omega); simp [selfL, hw]
 exact Zx
 refine W.ret (Zq ?_)
 simp [Tryz.f132, hres, hb0] <;> first | omega | grind
 have h1 : (isNm x.fName && decide (x.fParams.length ≤ 4) && overs x.fParams selfL && tOver x.fResult selfL) = true := by simpa [selfL] using hb0
 have hres : sigOk x = (if x.fHasDefault = true then words x.fVars 5 && decide (x.fVars.length = x.fParams.length + 1) && body x.fBody x.fVars else decide (x.fVars = []) && isZX x.fBody) := by unfold sigOk; rw [h1, Bool.true_and]
 refine W.skip ?_
 refine W.seq ?_
 apply Zr; intros
 iterate 3 (refine Zo ?_ (by simp [selfL, hw] <;> omega); simp [selfL, hw])
 exact Zx
 refine Zc rfl ?_ ?_ <;> intro hb1 <;> try simp at hb1
 refine W.seq ?_
 refine W.regJ0 (D := _) rfl fun _ K hD hK => ?_
 iterate 5 (refine Zo ?_ (by simp [selfL, hw] <;> omega); simp [selfL, hw])
 refine WL.split 34 _ rfl (fun g34 => ?_) fun g34 => ?_ <;> try simp at g34
 simp [selfL, hw]
 iterate 2 (refine Zg hD rfl rfl ?_ (by simp [selfL, hw] <;> omega); simp [selfL, hw])
 refine Zk hD rfl rfl [] rfl Tryz.func193 (l13None_d x.fBody _) ?_ (by simp [selfL, hw]); simp [selfL, hw]
 iterate 2 (refine Zo ?_ (by simp [selfL, hw] <;> omega); simp [selfL, hw])
 refine WL.nil (hK _ ?_)
 refine W.ret (Zq ?_)
 simp [Tryz.f132, hres, hb0, hb1, g34] <;> first | omega | grind
 simp [selfL, hw]
 iterate 3 (refine Zn hD rfl rfl ?_; simp [selfL, hw])
 iterate 2 (refine Zo ?_ (by simp [selfL, hw] <;> omega); simp [selfL, hw])
 refine WL.nil (hK _ ?_)
 refine W.ret (Zq ?_)
 simp [Tryz.f132, hres, hb0, hb1, g34] <;> first | omega | grind
 refine W.skip ?_
 refine W.seq ?_
 refine W.regJ0 (D := _) rfl fun _ K hD hK => ?_
 iterate 2 (refine Zo ?_ (by simp [selfL, hw] <;> omega); simp [selfL, hw])
 refine Zl [] rfl Tryz.func79 (l13Words_d x.fVars 5 (fun s hs => by have := szL_le ByteArray.size hs; omega) (by omega) _) ?_ (by simp [selfL, hw]); simp [selfL, hw]
 refine Zo ?_ (by simp [selfL, hw] <;> omega); simp [selfL, hw]
 refine WL.split 42 _ rfl (fun g42 => ?_) fun g42 => ?_ <;> try simp at g42
 simp [selfL, hw]
 iterate 8 (refine Zg hD rfl rfl ?_ (by simp [selfL, hw] <;> omega); simp [selfL, hw])
 iterate 2 (refine Zo ?_ (by simp [selfL, hw] <;> omega); simp [selfL, hw])
 refine WL.split 52 _ rfl (fun g52 => ?_) fun g52 => ?_ <;> try simp at g52
 simp [selfL, hw]
 iterate 4 (refine Zg hD rfl rfl ?_ (by simp [selfL, hw] <;> omega); simp [selfL, hw])
 refine Zk hD rfl rfl [] rfl Tryz.func140 (l13Body_d x.fBody x.fVars (by omega) (by omega) _) ?_ (by simp [selfL, hw]); simp [selfL, hw]
 iterate 2 (refine Zo ?_ (by simp [selfL, hw] <;> omega); simp [selfL, hw])
 refine WL.nil (hK _ ?_)
 refine W.ret (Zq ?_)
 simp [Tryz.f132, hres, hb0, hb1, g42, g52] <;> first | omega | grind
 simp [selfL, hw]
 iterate 5 (refine Zn hD rfl rfl ?_; simp [selfL, hw])
 iterate 2 (refine Zo ?_ (by simp [selfL, hw] <;> omega); simp [selfL, hw])
 refine WL.nil (hK _ ?_)
 refine W.ret (Zq ?_)
 simp [Tryz.f132, hres, hb0, hb1, g42, g52] <;> first | omega | grind
 simp [selfL, hw]
 iterate 8 (refine Zn hD rfl rfl ?_; simp [selfL, hw])
 iterate 2 (refine Zo ?_ (by simp [selfL, hw] <;> omega); simp [selfL, hw])
 iterate 5 (refine Zn hD rfl rfl ?_; simp [selfL, hw])
 iterate 2 (refine Zo ?_ (by simp [selfL, hw] <;> omega); simp [selfL, hw])
 refine WL.nil (hK _ ?_)
 refine W.ret (Zq ?_)
 simp [Tryz.f132, hres, hb0, hb1, g42] <;> first | omega | grind
end Go.Proofs.YtkadbimpaplnmaaGreatDoor
