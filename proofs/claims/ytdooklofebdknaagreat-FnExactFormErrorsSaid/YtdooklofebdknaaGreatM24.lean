/- Walks by the Den rules. No condition but sizes. -/
import Derived.Test.YtdooklofebdknaaGreatM20
import Derived.Test.YtdooklofebdknaaGreatM23
namespace Go.Proofs.YtdooklofebdknaaGreat
open Go.RowKit
set_option maxRecDepth 10000
set_option linter.unusedSimpArgs false
set_option maxHeartbeats 4000000
theorem l3Names_d (l : List ByteArray) (hs : ∀ s ∈ l, s.size ≤ 134217728) (hm : l.length ≤ 134217728) (h : HP) : CS cx.P 159 [.d (.sl false .one (l.map dS))] h (.d (.lf (.bool (nms l)))) h := by
 refine Ze Tryz.func159 rfl 16 ?_
 apply Zr; intros
 refine Zo ?_; simp
 exact Zx
 refine W.seq ?_
 apply Zr; intros
 refine Zo ?_; simp
 exact Zx
 refine W.block ?_
 refine W.loopI [0] [] (fun k0 => [(3, .d (.lf (.int .i64 (k0 : Int))))]) (fun _ => []) l.length (fun k0 => ∀ j, j < k0 → ∀ y, l[j]? = some y → (fun s => !isNm s) y = false) rfl (by simp) (by simp) fun k0 hk0 hi0 T hT => ?_
 simp at hT; subst hT
 refine W.seq ?_
 apply Zr; intros
 iterate 4 (refine Zo ?_; simp)
 exact Zx
 refine Zc rfl ?_ ?_ <;> intro hb0 <;> try simp at hb0
 have hx := ixNext hb0 (by omega)
 refine W.skip ?_
 refine Zb ?_
 apply Zr; intros
 iterate 4 (refine Zo ?_ (by simp [hb0, hx] <;> omega); simp [hb0, hx])
 refine Zl [] rfl Tryz.func90 (sName_d l[k0] (hs _ (gm hb0)) _) ?_ (by simp [hb0, hx]); simp [hb0, hx]
 refine Zo ?_ (by simp [hb0, hx] <;> omega); simp [hb0, hx]
 exact Zx
 refine Zc rfl ?_ ?_ <;> intro hb1 <;> try simp at hb1
 have hres := anyP_yes (p := fun s => !isNm s) hb0 (by simpa using hb1)
 apply Zr; intros
 refine Zo ?_ (by simp [hb0, hx] <;> omega); simp [hb0, hx]
 exact Zx
 refine W.ret (Zq ?_)
 simp [Tryz.f159, nms, hres]
 refine W.skip ?_
 apply Zs; intros
 iterate 3 (refine Zo ?_ (by simp [hb0, hx] <;> omega); simp [hb0, hx])
 exact Zx
 refine ⟨hb0, noP_step (p := fun s => !isNm s) hi0 hb0 (by simpa using hb1), Wz.to rfl rfl rfl ?_⟩
 simp
 have hkl : k0 = l.length := by omega
 subst hkl
 have hres := anyP_no (p := fun s => !isNm s) hi0
 refine W.exit ?_
 apply Zr; intros
 refine Zo ?_; simp
 exact Zx
 refine W.ret (Zq ?_)
 simp [Tryz.f159, nms, hres]
theorem sDst_d (l : List ByteArray) (hm : l.length ≤ 134217728) (h : HP) : CS cx.P 45 [.d (.sl false .one (l.map dS))] h (.d (.lf (.bool (dst l)))) h := by
 refine Ze Tryz.func45 rfl 18 ?_
 apply Zr; intros
 refine Zo ?_; simp
 exact Zx
 refine W.seq ?_
 apply Zr; intros
 refine Zo ?_; simp
 exact Zx
 refine W.block ?_
 refine W.loopI [0] [] (fun k0 => [(3, .d (.lf (.int .i64 (k0 : Int))))]) (fun _ => []) l.length (fun k0 => ∀ j, j < k0 → dstAt l j = true) rfl (by simp) (by simp) fun k0 hk0 hi0 T hT => ?_
 simp at hT; subst hT
 refine W.seq ?_
 apply Zr; intros
 iterate 4 (refine Zo ?_; simp)
 exact Zx
 refine Zc rfl ?_ ?_ <;> intro hb0 <;> try simp at hb0
 have hx := ixNext hb0 (by omega)
 refine W.skip ?_
 refine Zb ?_
 apply Yr rfl; intro K hK
 iterate 2 (refine Yo ?_ (by simp [hb0, hx] <;> omega); simp [hb0, hx])
 refine DL.op [] rfl (ok_sliceSl (es := l.map dS) rfl (by simp) (by simp [cls]) (by simp [okO]) (by simp [okX, okO]) (by simp [okX, okO]) rfl rfl (by simp [hb0, hx]; rfl) rfl 0 k0 .i64 (by simp [loV, evT, cst]) (.inr ⟨_, by simp [evT]; rfl⟩) (by first | omega | (simp <;> omega)) (by simp <;> omega)) rfl ?_; simp [hb0, hx]
 iterate 4 (refine Yo ?_ (by simp [hb0, hx] <;> omega); simp [hb0, hx])
 refine Yl [] rfl Tryz.func92 (l1Has_d (l.take k0) l[k0] (by simp; omega)) ?_ (by simp [hb0, hx]); simp [hb0, hx]
 exact DL.nil rfl hK
 refine Zc rfl ?_ ?_ <;> intro hb1 <;> try simp at hb1
 have hres := dst_no hb0 hb1
 apply Zr; intros
 refine Zo ?_ (by simp [hb0, hx] <;> omega); simp [hb0, hx]
 exact Zx
 refine W.ret (Zq ?_)
 simp [Tryz.f45, hres]
 refine W.skip ?_
 apply Zs; intros
 iterate 3 (refine Zo ?_ (by simp [hb0, hx] <;> omega); simp [hb0, hx])
 exact Zx
 refine ⟨hb0, step_all hi0 (by simpa [dstAt_eq hb0] using hb1), Wz.to rfl rfl rfl ?_⟩
 simp
 have hkl : k0 = l.length := by omega
 subst hkl
 have hres := dst_yes hi0
 refine W.exit ?_
 apply Zr; intros
 refine Zo ?_; simp
 exact Zx
 refine W.ret (Zq ?_)
 simp [Tryz.f45, hres]
def words (l : List ByteArray) (most : Int) : Bool := decide ((l.length : Int) ≤ most) && nms l && dst l
theorem tvK_len0 (x : TType) (o : List ByteArray) {k : Nat} (h : k < x.fArgs.length) : (tvK x o k).length + tSize x.fArgs[k] ≤ o.length + tSize x := by
 have h1 := tvK_len x o k
 have h2 := tSzk_nx h
 have h3 := tSzk_le x (k + 1)
 omega
theorem l4Vars_a (x : TType) (out : List ByteArray) (hz : x.sz ≤ 134217728) (ho : out.length + tSize x ≤ 1073741824) (hc : ∀ y ∈ x.fArgs, ∀ out : List ByteArray, out.length + tSize y ≤ 1073741824 → ∀ h, CS cx.P 344 [.d (y.dd false), .d (.sl true .one (out.map dS))] h (.d (.sl true .one ((tvs y out).map dS))) h) (h : HP) : CS cx.P 344 [.d (x.dd false), .d (.sl true .one (out.map dS))] h (.d (.sl true .one ((tvs x out).map dS))) h := by
 have hz2 := x.sz_eq; unfold szs at hz2
 refine Ze Tryz.func344 rfl 36 ?_
 apply Zr; intros
 iterate 2 (refine Zo ?_; simp)
 exact Zx
 refine W.seq ?_
 refine W.seq ?_
 refine W.regJ (D := _) [1, 2] [2] [(15, .d (.lf (.bool (decide (x.fKind = 1) && !hasS out x.fName))))] [] rfl (fun _ K hD hK => ?_) fun T hT => ?_
 iterate 4 (refine Zo ?_; simp)
 refine WL.split 9 _ rfl (fun g9 => ?_) fun g9 => ?_ <;> try simp at g9
 simp
 iterate 3 (refine Zg hD rfl rfl ?_; simp)
 refine Zk hD rfl rfl [] rfl Tryz.func92 (l1Has_d out x.fName (by omega) _) ?_; simp
 refine Zg hD rfl rfl ?_; simp
 refine Zo ?_; simp
 refine WL.nil (hK _ (Wz.to rfl rfl rfl ?_))
 simp [g9]
 simp
 iterate 5 (refine Zn hD rfl rfl ?_; simp)
 refine Zo ?_; simp
 refine WL.nil (hK _ (Wz.to rfl rfl rfl ?_))
 simp [g9]
 simp at hT; subst hT
 refine W.join [2] [2] [(1, .d (.sl true .one ((tvS out x.fKind x.fName).map dS)))] [] ?_ fun T hT => ?_
 refine Zc rfl ?_ ?_ <;> intro hb0 <;> try simp at hb0
 have ht : tvS out x.fKind x.fName = out ++ [x.fName] := by unfold tvS; rw [if_pos (by simpa using hb0)]
 apply Zs; intros
 refine Zm [16] ?_; simp
 iterate 5 (refine Zo ?_; simp)
 exact Zx
 refine Wz.to rfl rfl rfl ?_
 simp [ht]
 have ht : tvS out x.fKind x.fName = out := by unfold tvS; rw [if_neg (by simpa using hb0)]
 refine W.skip ?_
 refine Wz.to rfl rfl rfl ?_
 simp [ht]
 simp at hT; subst hT
 refine W.seq ?_
 apply Zr; intros
 refine Zo ?_; simp
 exact Zx
 refine W.block ?_
 refine W.loopk [2] [2] (fun k0 => [(5, .d (.lf (.int .i64 (k0 : Int)))), (1, .d (.sl true .one ((tvK x out k0).map dS)))]) (fun _ => []) x.fArgs.length rfl (by simp [tvK_zero]) fun k0 hk0 T hT => ?_
 simp at hT; subst hT
 refine W.seq ?_
 apply Zr; intros
 iterate 5 (refine Zo ?_; simp)
 exact Zx
 refine Zc rfl ?_ ?_ <;> intro hb1 <;> try simp at hb1
 have hx := ixNext hb1 (by omega)
 have hl := tvK_len0 x out hb1
 refine W.skip ?_
 refine Zb ?_
 apply Zs; intros
 iterate 5 (refine Zo ?_ (by simp [hb1, hx] <;> omega); simp [hb1, hx])
 refine Zm [33] ?_ (by simp [hb1, hx] <;> omega); simp [hb1, hx]
 refine Zl [33] rfl Tryz.func344 (hc x.fArgs[k0] (gm hb1) (tvK x out k0) (by omega) _) ?_ (by simp [hb1, hx]); simp [hb1, hx]
 refine Zo ?_ (by simp [hb1, hx] <;> omega); simp [hb1, hx]
 exact Zx
 apply Zs; intros
 iterate 3 (refine Zo ?_ (by simp [hb1, hx] <;> omega); simp [hb1, hx])
 exact Zx
 refine ⟨hb1, Wz.to rfl rfl rfl ?_⟩
 have hs := tvK_step (o := out) hb1
 simp [hs]
 have hkl : k0 = x.fArgs.length := by omega
 subst hkl
 have hres := tvK_full x out
 refine W.exit ?_
 apply Zr; intros
 refine Zm [35] ?_; simp
 refine Zo ?_; simp
 exact Zx
 refine W.ret (Zq ?_)
 simp [Tryz.f344, hres]
theorem l4Vars_d (x : TType) (out : List ByteArray) (hz : x.sz ≤ 134217728) (ho : out.length + tSize x ≤ 1073741824) (h : HP) : CS cx.P 344 [.d (x.dd false), .d (.sl true .one (out.map dS))] h (.d (.sl true .one ((tvs x out).map dS))) h := l4Vars_a x out hz ho (fun y hy out ho h => l4Vars_d y out (by have h1 := szL_le TType.sz hy; have h2 := x.sz_eq; unfold szs at h2; omega) ho h) h
termination_by SizeOf.sizeOf x
decreasing_by have := List.sizeOf_lt_of_mem hy; have := x.lt_fArgs; omega
theorem sTv_d (x : TType) (hz : x.sz ≤ 134217728) (h : HP) : CS cx.P 277 [.d (x.dd false)] h (.d (.sl true .one ((tv x).map dS))) h := by
 refine Ze Tryz.func277 rfl 6 ?_
 apply Zr; intros
 iterate 2 (refine Zo ?_; simp)
 exact Zx
 apply Zr; intros
 iterate 2 (refine Zo ?_; simp)
 refine Zl [4] rfl Tryz.func344 (l4Vars_d x [] hz (by simp; have := tSize_le x; omega) _) ?_; simp
 refine Zo ?_; simp
 exact Zx
 refine W.ret (Zq ?_)
 simp [Tryz.f277, tv]
theorem sPj_a (x : TType) (hz : x.sz ≤ 134217728) (hc : ∀ y ∈ x.fArgs, ∀ h, CS cx.P 231 [.d (y.dd false)] h (.d (.lf (.bool (hasPj y)))) h) (h : HP) : CS cx.P 231 [.d (x.dd false)] h (.d (.lf (.bool (hasPj x)))) h := by
 have hz2 := x.sz_eq; unfold szs at hz2
 refine Ze Tryz.func231 rfl 20 ?_
 apply Zr; intros
 iterate 2 (refine Zo ?_; simp)
 exact Zx
 refine W.seq ?_
 apply Zr; intros
 refine Zo ?_; simp
 exact Zx
 refine W.block ?_
 refine W.loopI [1] [1] (fun k0 => [(3, .d (.lf (.int .i64 (k0 : Int))))]) (fun _ => []) x.fArgs.length (fun k0 => ∀ j, j < k0 → ∀ y, x.fArgs[j]? = some y → (hasPj) y = false) rfl (by simp) (by simp) fun k0 hk0 hi0 T hT => ?_
 simp at hT; subst hT
 refine W.seq ?_
 apply Zr; intros
 iterate 5 (refine Zo ?_; simp)
 exact Zx
 refine Zc rfl ?_ ?_ <;> intro hb0 <;> try simp at hb0
 have hx := ixNext hb0 (by omega)
 refine W.skip ?_
 refine Zb ?_
 apply Zr; intros
 iterate 5 (refine Zo ?_ (by simp [hb0, hx] <;> omega); simp [hb0, hx])
 refine Zl [] rfl Tryz.func231 (hc x.fArgs[k0] (gm hb0) _) ?_ (by simp [hb0, hx]); simp [hb0, hx]
 exact Zx
 refine Zc rfl ?_ ?_ <;> intro hb1 <;> try simp at hb1
 have hres := anyP_yes (p := hasPj) hb0 (by simpa using hb1)
 apply Zr; intros
 refine Zo ?_ (by simp [hb0, hx] <;> omega); simp [hb0, hx]
 exact Zx
 refine W.ret (Zq ?_)
 simp [Tryz.f231, hasPj_eq x, hres]
 refine W.skip ?_
 apply Zs; intros
 iterate 3 (refine Zo ?_ (by simp [hb0, hx] <;> omega); simp [hb0, hx])
 exact Zx
 refine ⟨hb0, noP_step (p := hasPj) hi0 hb0 (by simpa using hb1), Wz.to rfl rfl rfl ?_⟩
 simp
 have hkl : k0 = x.fArgs.length := by omega
 subst hkl
 have hres := anyP_no (p := hasPj) hi0
 refine W.exit ?_
 apply Zr; intros
 iterate 4 (refine Zo ?_; simp)
 exact Zx
 refine W.ret (Zq ?_)
 simp [Tryz.f231, hasPj_eq x, hres]
theorem sPj_d (x : TType) (hz : x.sz ≤ 134217728) (h : HP) : CS cx.P 231 [.d (x.dd false)] h (.d (.lf (.bool (hasPj x)))) h := sPj_a x hz (fun y hy h => sPj_d y (by have h1 := szL_le TType.sz hy; have h2 := x.sz_eq; unfold szs at h2; omega) h) h
termination_by SizeOf.sizeOf x
decreasing_by have := List.sizeOf_lt_of_mem hy; have := x.lt_fArgs; omega
def overs (l : List TType) (vars : List ByteArray) : Bool := !(l.any fun y => !tOver y vars)
def zeroT (x : TType) : Bool := decide (x.fKind = 0) && decide (x.fName.toList = []) && decide (x.fArgs = [])
def prims : List ByteArray := [⟨#[43]⟩, ⟨#[45]⟩, ⟨#[42]⟩, ⟨#[60]⟩, ⟨#[61]⟩]
theorem l11Zero_d (x : TType) (h : HP) : CS cx.P 234 [.d (x.dd false)] h (.d (.lf (.bool (zeroT x)))) h := by
 refine Ze Tryz.func234 rfl 17 ?_
 apply Zr; intros
 iterate 2 (refine Zo ?_; simp)
 exact Zx
 refine W.seq ?_
 refine W.regJ0 (D := _) rfl fun _ K hD hK => ?_
 iterate 4 (refine Zo ?_; simp)
 refine WL.split 6 _ rfl (fun g6 => ?_) fun g6 => ?_ <;> try simp at g6
 simp
 iterate 3 (refine Zg hD rfl rfl ?_; simp)
 iterate 2 (refine Zo ?_; simp)
 refine WL.split 11 _ rfl (fun g11 => ?_) fun g11 => ?_ <;> try simp at g11
 simp
 iterate 4 (refine Zg hD rfl rfl ?_; simp)
 iterate 2 (refine Zo ?_; simp)
 refine WL.nil (hK _ ?_)
 refine W.ret (Zq ?_)
 simp [Tryz.f234, zeroT, g6, g11]
 simp
 iterate 4 (refine Zn hD rfl rfl ?_; simp)
 iterate 2 (refine Zo ?_; simp)
 refine WL.nil (hK _ ?_)
 refine W.ret (Zq ?_)
 simp [Tryz.f234, zeroT, g6, g11]
 simp
 iterate 3 (refine Zn hD rfl rfl ?_; simp)
 iterate 2 (refine Zo ?_; simp)
 iterate 4 (refine Zn hD rfl rfl ?_; simp)
 iterate 2 (refine Zo ?_; simp)
 refine WL.nil (hK _ ?_)
 refine W.ret (Zq ?_)
 simp [Tryz.f234, zeroT, g6]
theorem iZeroT_d (x : TType) (h : HP) : CS cx.P 185 [.d (x.dd false)] h (.d (.lf (.bool (zeroT x)))) h := by
 refine Ze Tryz.func185 rfl 17 ?_
 apply Zr; intros
 iterate 2 (refine Zo ?_; simp)
 exact Zx
 refine W.seq ?_
 refine W.regJ0 (D := _) rfl fun _ K hD hK => ?_
 iterate 4 (refine Zo ?_; simp)
 refine WL.split 6 _ rfl (fun g6 => ?_) fun g6 => ?_ <;> try simp at g6
 simp
 iterate 3 (refine Zg hD rfl rfl ?_; simp)
 iterate 2 (refine Zo ?_; simp)
 refine WL.split 11 _ rfl (fun g11 => ?_) fun g11 => ?_ <;> try simp at g11
 simp
 iterate 4 (refine Zg hD rfl rfl ?_; simp)
 iterate 2 (refine Zo ?_; simp)
 refine WL.nil (hK _ ?_)
 refine W.ret (Zq ?_)
 simp [Tryz.f185, zeroT, g6, g11]
 simp
 iterate 4 (refine Zn hD rfl rfl ?_; simp)
 iterate 2 (refine Zo ?_; simp)
 refine WL.nil (hK _ ?_)
 refine W.ret (Zq ?_)
 simp [Tryz.f185, zeroT, g6, g11]
 simp
 iterate 3 (refine Zn hD rfl rfl ?_; simp)
 iterate 2 (refine Zo ?_; simp)
 iterate 4 (refine Zn hD rfl rfl ?_; simp)
 iterate 2 (refine Zo ?_; simp)
 refine WL.nil (hK _ ?_)
 refine W.ret (Zq ?_)
 simp [Tryz.f185, zeroT, g6]
theorem l11Prim_d (s : ByteArray) (h : HP) : CS cx.P 422 [.d (.lf (.string s))] h (.d (.lf (.bool (hasS prims s)))) h := by
 refine Ze Tryz.func422 rfl 6 ?_
 apply Zr; intros
 refine Zo ?_ (by simp [prims] <;> omega); simp [prims]
 exact Zx
 apply Zr; intros
 iterate 2 (refine Zo ?_ (by simp [prims] <;> omega); simp [prims])
 refine Zl [] rfl Tryz.func92 (l1Has_d prims s (by decide) _) ?_ (by simp [prims]); simp [prims]
 refine Zo ?_ (by simp [prims] <;> omega); simp [prims]
 exact Zx
 refine W.ret (Zq ?_)
 simp [Tryz.f422, prims]
end Go.Proofs.YtdooklofebdknaaGreat
