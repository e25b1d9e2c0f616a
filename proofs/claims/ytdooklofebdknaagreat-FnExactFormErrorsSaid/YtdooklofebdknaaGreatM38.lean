/- Walks by the Den rules; strings.IndexByte over a text. No condition but sizes. -/
import Derived.Test.YtdooklofebdknaaGreatM20
import Derived.Test.YtdooklofebdknaaGreatM23
import Derived.Test.YtdooklofebdknaaGreatM27
import Derived.Test.YtdooklofebdknaaGreatM36
import Derived.Test.YtdooklofebdknaaGreatM37
import Derived.Shelf.Strings.Search1
namespace Go.Proofs.YtdooklofebdknaaGreat
open Go.RowKit Go.Shelf
set_option maxRecDepth 100000
set_option linter.unusedSimpArgs false
set_option maxHeartbeats 4000000
theorem ef0T_d (l : List TType) (g : Nat) (h : HP) : CS cx.P 406 [.d (.sl false sh65 (l.map (TType.dd false))), .d (.sl false sh65 []), .fn g []] h (.d (.lf (.bool (decide (l = []))))) h := by
 refine Ze Tryz.func406 rfl 32 ?_
 apply Zr; intros
 refine Zo ?_; simp
 exact Zx
 refine W.seq ?_
 apply Zr; intros
 iterate 5 (refine Zo ?_; simp)
 exact Zx
 refine Zc rfl ?_ ?_ <;> intro hb0 <;> try simp at hb0
 have hres : ¬ l = [] := by simpa using hb0
 apply Zr; intros
 refine Zo ?_; simp
 exact Zx
 refine W.ret (Zq ?_)
 simp [Tryz.f406, hres]
 have hres : l = [] := by simpa using hb0
 refine W.skip ?_
 refine W.seq ?_
 apply Zr; intros
 iterate 3 (refine Zo ?_; simp)
 exact Zx
 refine W.block ?_
 refine W.loopk [1, 2, 15, 16] [] (fun k0 => [(17, .d (.lf (.int .i64 (k0 : Int))))]) (fun _ => []) 0 rfl (by simp) fun k0 hk0 T hT => ?_
 simp at hT; subst hT
 apply Zr; intros
 refine Zo ?_; simp
 exact Zx
 refine Zv rfl ?_ ?_ <;> intro hb1 <;> try simp at hb1
 exfalso; rw [hres] at hb1; simp at hb1
 refine W.exit ?_
 apply Zr; intros
 refine Zo ?_; simp
 exact Zx
 refine W.ret (Zq ?_)
 simp [Tryz.f406, hres]
theorem ef0X_d (l : List TExpr) (g : Nat) (h : HP) : CS cx.P 376 [.d (.sl false sh75 (l.map (TExpr.dd false))), .d (.sl false sh75 []), .fn g []] h (.d (.lf (.bool (decide (l = []))))) h := by
 refine Ze Tryz.func376 rfl 32 ?_
 apply Zr; intros
 refine Zo ?_; simp
 exact Zx
 refine W.seq ?_
 apply Zr; intros
 iterate 5 (refine Zo ?_; simp)
 exact Zx
 refine Zc rfl ?_ ?_ <;> intro hb0 <;> try simp at hb0
 have hres : ¬ l = [] := by simpa using hb0
 apply Zr; intros
 refine Zo ?_; simp
 exact Zx
 refine W.ret (Zq ?_)
 simp [Tryz.f376, hres]
 have hres : l = [] := by simpa using hb0
 refine W.skip ?_
 refine W.seq ?_
 apply Zr; intros
 iterate 3 (refine Zo ?_; simp)
 exact Zx
 refine W.block ?_
 refine W.loopk [1, 2, 15, 16] [] (fun k0 => [(17, .d (.lf (.int .i64 (k0 : Int))))]) (fun _ => []) 0 rfl (by simp) fun k0 hk0 T hT => ?_
 simp at hT; subst hT
 apply Zr; intros
 refine Zo ?_; simp
 exact Zx
 refine Zv rfl ?_ ?_ <;> intro hb1 <;> try simp at hb1
 exfalso; rw [hres] at hb1; simp at hb1
 refine W.exit ?_
 apply Zr; intros
 refine Zo ?_; simp
 exact Zx
 refine W.ret (Zq ?_)
 simp [Tryz.f376, hres]
theorem ef0A_d (l : List TArm) (g : Nat) (h : HP) : CS cx.P 377 [.d (.sl false sh172 (l.map (TArm.dd false))), .d (.sl false sh172 []), .fn g []] h (.d (.lf (.bool (decide (l = []))))) h := by
 refine Ze Tryz.func377 rfl 32 ?_
 apply Zr; intros
 refine Zo ?_; simp
 exact Zx
 refine W.seq ?_
 apply Zr; intros
 iterate 5 (refine Zo ?_; simp)
 exact Zx
 refine Zc rfl ?_ ?_ <;> intro hb0 <;> try simp at hb0
 have hres : ¬ l = [] := by simpa using hb0
 apply Zr; intros
 refine Zo ?_; simp
 exact Zx
 refine W.ret (Zq ?_)
 simp [Tryz.f377, hres]
 have hres : l = [] := by simpa using hb0
 refine W.skip ?_
 refine W.seq ?_
 apply Zr; intros
 iterate 3 (refine Zo ?_; simp)
 exact Zx
 refine W.block ?_
 refine W.loopk [1, 2, 15, 16] [] (fun k0 => [(17, .d (.lf (.int .i64 (k0 : Int))))]) (fun _ => []) 0 rfl (by simp) fun k0 hk0 T hT => ?_
 simp at hT; subst hT
 apply Zr; intros
 refine Zo ?_; simp
 exact Zx
 refine Zv rfl ?_ ?_ <;> intro hb1 <;> try simp at hb1
 exfalso; rw [hres] at hb1; simp at hb1
 refine W.exit ?_
 apply Zr; intros
 refine Zo ?_; simp
 exact Zx
 refine W.ret (Zq ?_)
 simp [Tryz.f377, hres]
theorem eqT0i_d (x : TType) (h : HP) : CS cx.P 359 [.d (x.dd false), .d (zT.dd false)] h (.d (.lf (.bool (zeroT x)))) h := by
 refine Ze Tryz.func359 rfl 24 ?_
 apply Zr; intros
 iterate 3 (refine Zo ?_ (by simp [zT] <;> omega); simp [zT])
 exact Zx
 refine W.seq ?_
 refine W.regJ0 (D := _) rfl fun _ K hD hK => ?_
 iterate 6 (refine Zo ?_ (by simp [zT] <;> omega); simp [zT])
 refine WL.split 10 _ rfl (fun g10 => ?_) fun g10 => ?_ <;> try simp at g10
 simp [zT]
 iterate 5 (refine Zg hD rfl rfl ?_ (by simp [zT] <;> omega); simp [zT])
 iterate 2 (refine Zo ?_ (by simp [zT] <;> omega); simp [zT])
 refine WL.split 17 _ rfl (fun g17 => ?_) fun g17 => ?_ <;> try simp at g17
 simp [zT]
 iterate 4 (refine Zg hD rfl rfl ?_ (by simp [zT] <;> omega); simp [zT])
 refine Zk hD rfl rfl [] rfl Tryz.func406 (ef0T_d x.fArgs 359 _) ?_ (by simp [zT]); simp [zT]
 iterate 2 (refine Zo ?_ (by simp [zT] <;> omega); simp [zT])
 refine WL.nil (hK _ ?_)
 refine W.ret (Zq ?_)
 simp [Tryz.f359, zeroT, g10, g17]
 simp [zT]
 iterate 5 (refine Zn hD rfl rfl ?_; simp [zT])
 iterate 2 (refine Zo ?_ (by simp [zT] <;> omega); simp [zT])
 refine WL.nil (hK _ ?_)
 refine W.ret (Zq ?_)
 simp [Tryz.f359, zeroT, g10, g17]
 simp [zT]
 iterate 5 (refine Zn hD rfl rfl ?_; simp [zT])
 iterate 2 (refine Zo ?_ (by simp [zT] <;> omega); simp [zT])
 iterate 5 (refine Zn hD rfl rfl ?_; simp [zT])
 iterate 2 (refine Zo ?_ (by simp [zT] <;> omega); simp [zT])
 refine WL.nil (hK _ ?_)
 refine W.ret (Zq ?_)
 simp [Tryz.f359, zeroT, g10]
theorem eqX0i_d (x : TExpr) (h : HP) : CS cx.P 320 [.d (x.dd false), .d (zX.dd false)] h (.d (.lf (.bool (isZX x)))) h := by
 refine Ze Tryz.func320 rfl 52 ?_
 apply Zr; intros
 iterate 3 (refine Zo ?_ (by simp [zX] <;> omega); simp [zX])
 exact Zx
 refine W.seq ?_
 refine W.regJ0 (D := _) rfl fun _ K hD hK => ?_
 iterate 6 (refine Zo ?_ (by simp [zX] <;> omega); simp [zX])
 refine WL.split 10 _ rfl (fun g10 => ?_) fun g10 => ?_ <;> try simp at g10
 simp [zX]
 iterate 5 (refine Zg hD rfl rfl ?_ (by simp [zX] <;> omega); simp [zX])
 iterate 2 (refine Zo ?_ (by simp [zX] <;> omega); simp [zX])
 refine WL.split 17 _ rfl (fun g17 => ?_) fun g17 => ?_ <;> try simp at g17
 simp [zX]
 iterate 5 (refine Zg hD rfl rfl ?_ (by simp [zX] <;> omega); simp [zX])
 iterate 2 (refine Zo ?_ (by simp [zX] <;> omega); simp [zX])
 refine WL.split 24 _ rfl (fun g24 => ?_) fun g24 => ?_ <;> try simp at g24
 simp [zX]
 iterate 5 (refine Zg hD rfl rfl ?_ (by simp [zX] <;> omega); simp [zX])
 iterate 2 (refine Zo ?_ (by simp [zX] <;> omega); simp [zX])
 refine WL.split 31 _ rfl (fun g31 => ?_) fun g31 => ?_ <;> try simp at g31
 simp [zX]
 iterate 4 (refine Zg hD rfl rfl ?_ (by simp [zX] <;> omega); simp [zX])
 refine Zk hD rfl rfl [] rfl Tryz.func359 (eqT0i_d x.fType _) ?_ (by simp [zX]); simp [zX]
 iterate 2 (refine Zo ?_ (by simp [zX] <;> omega); simp [zX])
 refine WL.split 38 _ rfl (fun g38 => ?_) fun g38 => ?_ <;> try simp at g38
 simp [zX]
 iterate 4 (refine Zg hD rfl rfl ?_ (by simp [zX] <;> omega); simp [zX])
 refine Zk hD rfl rfl [] rfl Tryz.func376 (ef0X_d x.fArgs 320 _) ?_ (by simp [zX]); simp [zX]
 iterate 2 (refine Zo ?_ (by simp [zX] <;> omega); simp [zX])
 refine WL.split 45 _ rfl (fun g45 => ?_) fun g45 => ?_ <;> try simp at g45
 simp [zX]
 iterate 4 (refine Zg hD rfl rfl ?_ (by simp [zX] <;> omega); simp [zX])
 refine Zk hD rfl rfl [] rfl Tryz.func377 (ef0A_d x.fArms 378 _) ?_ (by simp [zX]); simp [zX]
 iterate 2 (refine Zo ?_ (by simp [zX] <;> omega); simp [zX])
 refine WL.nil (hK _ ?_)
 refine W.ret (Zq ?_)
 simp [Tryz.f320, isZX, noS, g10, g17, g24, g31, g38, g45]
 simp [zX]
 iterate 5 (refine Zn hD rfl rfl ?_; simp [zX])
 iterate 2 (refine Zo ?_ (by simp [zX] <;> omega); simp [zX])
 refine WL.nil (hK _ ?_)
 refine W.ret (Zq ?_)
 simp [Tryz.f320, isZX, noS, g10, g17, g24, g31, g38, g45]
 simp [zX]
 iterate 5 (refine Zn hD rfl rfl ?_; simp [zX])
 iterate 2 (refine Zo ?_ (by simp [zX] <;> omega); simp [zX])
 iterate 5 (refine Zn hD rfl rfl ?_; simp [zX])
 iterate 2 (refine Zo ?_ (by simp [zX] <;> omega); simp [zX])
 refine WL.nil (hK _ ?_)
 refine W.ret (Zq ?_)
 simp [Tryz.f320, isZX, noS, g10, g17, g24, g31, g38]
 simp [zX]
 iterate 5 (refine Zn hD rfl rfl ?_; simp [zX])
 iterate 2 (refine Zo ?_ (by simp [zX] <;> omega); simp [zX])
 iterate 5 (refine Zn hD rfl rfl ?_; simp [zX])
 iterate 2 (refine Zo ?_ (by simp [zX] <;> omega); simp [zX])
 iterate 5 (refine Zn hD rfl rfl ?_; simp [zX])
 iterate 2 (refine Zo ?_ (by simp [zX] <;> omega); simp [zX])
 refine WL.nil (hK _ ?_)
 refine W.ret (Zq ?_)
 simp [Tryz.f320, isZX, noS, g10, g17, g24, g31]
 simp [zX]
 iterate 5 (refine Zn hD rfl rfl ?_; simp [zX])
 iterate 2 (refine Zo ?_ (by simp [zX] <;> omega); simp [zX])
 iterate 5 (refine Zn hD rfl rfl ?_; simp [zX])
 iterate 2 (refine Zo ?_ (by simp [zX] <;> omega); simp [zX])
 iterate 5 (refine Zn hD rfl rfl ?_; simp [zX])
 iterate 2 (refine Zo ?_ (by simp [zX] <;> omega); simp [zX])
 iterate 5 (refine Zn hD rfl rfl ?_; simp [zX])
 iterate 2 (refine Zo ?_ (by simp [zX] <;> omega); simp [zX])
 refine WL.nil (hK _ ?_)
 refine W.ret (Zq ?_)
 simp [Tryz.f320, isZX, noS, g10, g17, g24]
 simp [zX]
 iterate 5 (refine Zn hD rfl rfl ?_; simp [zX])
 iterate 2 (refine Zo ?_ (by simp [zX] <;> omega); simp [zX])
 iterate 5 (refine Zn hD rfl rfl ?_; simp [zX])
 iterate 2 (refine Zo ?_ (by simp [zX] <;> omega); simp [zX])
 iterate 5 (refine Zn hD rfl rfl ?_; simp [zX])
 iterate 2 (refine Zo ?_ (by simp [zX] <;> omega); simp [zX])
 iterate 5 (refine Zn hD rfl rfl ?_; simp [zX])
 iterate 2 (refine Zo ?_ (by simp [zX] <;> omega); simp [zX])
 iterate 5 (refine Zn hD rfl rfl ?_; simp [zX])
 iterate 2 (refine Zo ?_ (by simp [zX] <;> omega); simp [zX])
 refine WL.nil (hK _ ?_)
 refine W.ret (Zq ?_)
 simp [Tryz.f320, isZX, noS, g10, g17]
 simp [zX]
 iterate 5 (refine Zn hD rfl rfl ?_; simp [zX])
 iterate 2 (refine Zo ?_ (by simp [zX] <;> omega); simp [zX])
 iterate 5 (refine Zn hD rfl rfl ?_; simp [zX])
 iterate 2 (refine Zo ?_ (by simp [zX] <;> omega); simp [zX])
 iterate 5 (refine Zn hD rfl rfl ?_; simp [zX])
 iterate 2 (refine Zo ?_ (by simp [zX] <;> omega); simp [zX])
 iterate 5 (refine Zn hD rfl rfl ?_; simp [zX])
 iterate 2 (refine Zo ?_ (by simp [zX] <;> omega); simp [zX])
 iterate 5 (refine Zn hD rfl rfl ?_; simp [zX])
 iterate 2 (refine Zo ?_ (by simp [zX] <;> omega); simp [zX])
 iterate 5 (refine Zn hD rfl rfl ?_; simp [zX])
 iterate 2 (refine Zo ?_ (by simp [zX] <;> omega); simp [zX])
 refine WL.nil (hK _ ?_)
 refine W.ret (Zq ?_)
 simp [Tryz.f320, isZX, noS, g10]
theorem iZX_d (x : TExpr) (h : HP) : CS cx.P 251 [.d (x.dd false)] h (.d (.lf (.bool (isZX x)))) h := by
 refine Ze Tryz.func251 rfl 6 ?_
 apply Zr; intros
 iterate 2 (refine Zo ?_ (by simp [zX, zT] <;> omega); simp [zX, zT])
 exact Zx
 apply Zr; intros
 iterate 2 (refine Zo ?_ (by simp [zX, zT] <;> omega); simp [zX, zT])
 refine Zl [] rfl Tryz.func320 (eqX0i_d x _) ?_ (by simp [zX, zT]); simp [zX, zT]
 refine Zo ?_ (by simp [zX, zT] <;> omega); simp [zX, zT]
 exact Zx
 refine W.ret (Zq ?_)
 simp [Tryz.f251]
theorem iOver_d (x : TType) (v : List ByteArray) (hm : v.length ≤ 134217728) (hz : x.sz ≤ 134217728) (h : HP) : CS cx.P 181 [.d (x.dd false), .d (.sl false .one (v.map dS))] h (.d (.lf (.bool (tOver x v)))) h := by
 have hlen : (tv x).length ≤ 1 + x.sz := by have h1 := tvs_len x []; have h2 := tSize_le x; unfold tv; simp at h1; omega
 refine Ze Tryz.func181 rfl 13 ?_
 apply Zr; intros
 iterate 2 (refine Zo ?_; simp)
 exact Zx
 refine W.seq ?_
 refine W.regJ0 (D := _) rfl fun _ K hD hK => ?_
 refine Zo ?_; simp
 refine Zl [] rfl Tryz.func254 (iValidT_d x hz _) ?_; simp
 refine Zo ?_; simp
 refine WL.split 7 _ rfl (fun g7 => ?_) fun g7 => ?_ <;> try simp at g7
 simp
 refine Zg hD rfl rfl ?_; simp
 refine Zk hD rfl rfl [] rfl Tryz.func183 (iTv_d x hz _) ?_; simp
 refine Zg hD rfl rfl ?_; simp
 refine Zk hD rfl rfl [] rfl Tryz.func48 (areAmong_d (tv x) v (by omega) (by omega) _) ?_; simp
 iterate 2 (refine Zo ?_; simp)
 refine WL.nil (hK _ ?_)
 refine W.ret (Zq ?_)
 simp [Tryz.f181, tOver, g7]
 simp
 iterate 4 (refine Zn hD rfl rfl ?_; simp)
 iterate 2 (refine Zo ?_; simp)
 refine WL.nil (hK _ ?_)
 refine W.ret (Zq ?_)
 simp [Tryz.f181, tOver, g7]
theorem overClo_d (v : List ByteArray) (hm : v.length ≤ 134217728) (x : TType) (hz : x.sz ≤ 134217728) (lv k : Nat) (h : HP) (hcap : hpg h lv k = some (.d (.sl false .one (v.map dS)))) : CS cx.P 253 [.d (x.dd false), .pt lv k []] h (.d (.lf (.bool (!tOver x v)))) h := by
 have hc2 := hpgD hcap
 refine Ze Tryz.func253 rfl 8 ?_
 apply Zr; intros
 iterate 2 (refine Zo ?_ (by simp [hc2] <;> omega); simp [hc2])
 exact Zx
 apply Zr; intros
 iterate 2 (refine Zo ?_ (by simp [hc2] <;> omega); simp [hc2])
 refine Zl [] rfl Tryz.func181 (iOver_d x v hm hz _) ?_ (by simp [hc2]); simp [hc2]
 iterate 2 (refine Zo ?_ (by simp [hc2] <;> omega); simp [hc2])
 exact Zx
 refine W.ret (Zq ?_)
 simp [Tryz.f253]
theorem iOvers_d (l : List TType) (v : List ByteArray) (hm : v.length ≤ 134217728) (hl : l.length ≤ 134217728) (hs : ∀ y ∈ l, y.sz ≤ 134217728) (h : HP) : CS cx.P 180 [.d (.sl false sh65 (l.map (TType.dd false))), .d (.sl false .one (v.map dS))] h (.d (.lf (.bool (overs l v)))) h := by
 refine Ze Tryz.func180 rfl 9 ?_
 apply Zr; intros
 iterate 2 (refine Zo ?_; simp)
 exact Zx
 apply Zr; intros
 iterate 2 (refine Zo ?_; simp)
 refine Zl [] rfl Tryz.func252 (ContainsFuncTypeC_d l (by omega) 253 Tryz.f253 _ ⟨Tryz.func253, rfl, rfl⟩ (fun y => !tOver y v) 3 (.sl false .one (v.map dS)) 0 (fun y hy lv h hc => overClo_d v hm y (hs y hy) lv 3 h hc) _ (by simp)) ?_; simp
 iterate 2 (refine Zo ?_; simp)
 exact Zx
 refine W.ret (Zq ?_)
 simp [Tryz.f180, overs]
def acL (k : Int) : Int := if k = 4 ∨ k = 6 then 0 else if k = 5 then 1 else if k = 7 ∨ k = 11 ∨ k = 12 then 1 else if k = 8 ∨ k = 10 then 2 else if k = 9 then 3 else 0
def acH (k : Int) : Int := if k = 4 ∨ k = 6 then 300 else if k = 5 then 300 else if k = 7 ∨ k = 11 ∨ k = 12 then 1 else if k = 8 ∨ k = 10 then 2 else if k = 9 then 3 else 0
theorem ac_rng (k : Int) : 0 ≤ acL k ∧ acL k ≤ 3 ∧ 0 ≤ acH k ∧ acH k ≤ 300 := by
 unfold acL acH
 repeat' split
 all_goals omega
def if1 (x : TExpr) : Bool := within x.fKind 1 12 && decide (acL x.fKind ≤ x.fArgs.length) && decide ((x.fArgs.length : Int) ≤ acH x.fKind)
def ifT (x : TExpr) : Bool := if x.fKind = 5 ∨ x.fKind = 11 then isNm x.fTrait else noS x.fTrait
def ifN (x : TExpr) : Bool := if x.fKind = 3 ∨ x.fKind = 4 ∨ x.fKind = 6 ∨ x.fKind = 8 ∨ x.fKind = 5 then isNm x.fName else if x.fKind = 10 then hasS prims x.fName else noS x.fName
def ifI (x : TExpr) : Bool := if x.fKind = 1 then within x.fN (-999999) 999999 else if x.fKind = 2 then within x.fN 0 1 else decide (x.fN = 0)
def ifY (x : TExpr) : Bool := (decide (x.fKind = 12) != !zeroT x.fType) || (decide (x.fKind = 12) && !tValid x.fType)
def iF0 (x : TExpr) : Bool := if1 x && !ifY x && ifT x && ifN x && ifI x && (decide (x.fKind = 7) == decide (0 < x.fArms.length))
mutual
def iF : TExpr → Bool
 | ⟨k, t, n, i, y, al, rl⟩ => iF0 ⟨k, t, n, i, y, al, rl⟩ && iFs al && iFr rl
def iFs : List TExpr → Bool
 | [] => true
 | x :: l => iF x && iFs l
def iFa : TArm → Bool
 | ⟨c, vs, b⟩ => isNm c && (dst vs && nms vs) && iF b
def iFr : List TArm → Bool
 | [] => true
 | x :: l => iFa x && iFr l
end
theorem iFs_any : ∀ l : List TExpr, iFs l = !(l.any fun y => !iF y)
 | [] => rfl
 | x :: l => by simp only [iFs, iFs_any l, List.any_cons]; cases iF x <;> simp
theorem iFr_any : ∀ l : List TArm, iFr l = !(l.any fun y => !iFa y)
 | [] => rfl
 | x :: l => by simp only [iFr, iFr_any l, List.any_cons]; cases iFa x <;> simp
theorem iF_eq (x : TExpr) : iF x = (iF0 x && !(x.fArgs.any fun y => !iF y) && !(x.fArms.any fun y => !iFa y)) := by cases x; simp only [iF, iFs_any, iFr_any]
theorem iFa_eq (x : TArm) : iFa x = (isNm x.fConstructor && (dst x.fVars && nms x.fVars) && iF x.fBody) := by cases x; simp only [iFa]
theorem argc_d (n : Int) (h : HP) : CS cx.P 423 [.d (.lf (.int .i64 (n)))] h (.tp [.d (.lf (.int .i64 (acL n))), .d (.lf (.int .i64 (acH n)))]) h := by
 refine Ze Tryz.func423 rfl 19 ?_
 apply Zr; intros
 iterate 2 (refine Zo ?_; simp)
 exact Zx
 refine W.seq ?_
 apply Zr; intros
 refine Zo ?_; simp
 exact Zx
 refine W.block ?_
 refine W.seq ?_
 apply Zr; intros
 iterate 2 (refine Zo ?_; simp)
 exact Zx
 refine Zc rfl ?_ ?_ <;> intro hb0 <;> try simp at hb0
 refine W.skip ?_
 refine W.condT (by simp [hb0]) trivial ?_
 apply Zr; intros
 iterate 2 (refine Zo ?_; simp)
 exact Zx
 refine W.ret (Zq ?_)
 simp [Tryz.f423, acL, acH, hb0]
 apply Zs; intros
 iterate 2 (refine Zo ?_; simp)
 exact Zx
 refine Zc rfl ?_ ?_ <;> intro hb1 <;> try simp at hb1
 apply Zr; intros
 iterate 2 (refine Zo ?_; simp)
 exact Zx
 refine W.ret (Zq ?_)
 simp [Tryz.f423, acL, acH, hb0, hb1]
 apply Zr; intros
 iterate 2 (refine Zo ?_; simp)
 exact Zx
 refine Zc rfl ?_ ?_ <;> intro hb2 <;> try simp at hb2
 apply Zr; intros
 iterate 2 (refine Zo ?_; simp)
 exact Zx
 refine W.ret (Zq ?_)
 simp [Tryz.f423, acL, acH, hb0, hb1, hb2]
 refine W.seq ?_
 apply Zr; intros
 iterate 2 (refine Zo ?_; simp)
 exact Zx
 refine Zc rfl ?_ ?_ <;> intro hb3 <;> try simp at hb3
 refine W.skip ?_
 refine W.condT (by simp [hb3]) trivial ?_
 apply Zr; intros
 iterate 2 (refine Zo ?_; simp)
 exact Zx
 refine W.ret (Zq ?_)
 simp [Tryz.f423, acL, acH, hb0, hb1, hb2, hb3]
 apply Zr; intros
 iterate 2 (refine Zo ?_; simp)
 exact Zx
 refine Zc rfl ?_ ?_ <;> intro hb4 <;> try simp at hb4
 refine W.skip ?_
 refine W.condT (by simp [hb4]) trivial ?_
 apply Zr; intros
 iterate 2 (refine Zo ?_; simp)
 exact Zx
 refine W.ret (Zq ?_)
 simp [Tryz.f423, acL, acH, hb0, hb1, hb2, hb3, hb4]
 apply Zs; intros
 iterate 2 (refine Zo ?_; simp)
 exact Zx
 refine Zc rfl ?_ ?_ <;> intro hb5 <;> try simp at hb5
 apply Zr; intros
 iterate 2 (refine Zo ?_; simp)
 exact Zx
 refine W.ret (Zq ?_)
 simp [Tryz.f423, acL, acH, hb0, hb1, hb2, hb3, hb4, hb5]
 refine W.seq ?_
 apply Zr; intros
 iterate 2 (refine Zo ?_; simp)
 exact Zx
 refine Zc rfl ?_ ?_ <;> intro hb6 <;> try simp at hb6
 refine W.skip ?_
 refine W.condT (by simp [hb6]) trivial ?_
 apply Zr; intros
 iterate 2 (refine Zo ?_; simp)
 exact Zx
 refine W.ret (Zq ?_)
 simp [Tryz.f423, acL, acH, hb0, hb1, hb2, hb3, hb4, hb5, hb6]
 apply Zs; intros
 iterate 2 (refine Zo ?_; simp)
 exact Zx
 refine Zc rfl ?_ ?_ <;> intro hb7 <;> try simp at hb7
 apply Zr; intros
 iterate 2 (refine Zo ?_; simp)
 exact Zx
 refine W.ret (Zq ?_)
 simp [Tryz.f423, acL, acH, hb0, hb1, hb2, hb3, hb4, hb5, hb6, hb7]
 apply Zr; intros
 iterate 2 (refine Zo ?_; simp)
 exact Zx
 refine Zc rfl ?_ ?_ <;> intro hb8 <;> try simp at hb8
 apply Zr; intros
 iterate 2 (refine Zo ?_; simp)
 exact Zx
 refine W.ret (Zq ?_)
 simp [Tryz.f423, acL, acH, hb0, hb1, hb2, hb3, hb4, hb5, hb6, hb7, hb8]
 refine W.skip ?_
 apply Zr; intros
 iterate 2 (refine Zo ?_; simp)
 exact Zx
 refine W.ret (Zq ?_)
 simp [Tryz.f423, acL, acH, hb0, hb1, hb2, hb3, hb4, hb5, hb6, hb7, hb8]
theorem bndClo_d (v : List ByteArray) (hm : v.length ≤ 134217728) (x : TBound) (hz : x.sz ≤ 134217728) (lv k : Nat) (h : HP) (hcap : hpg h lv k = some (.d (.sl false .one (v.map dS)))) : CS cx.P 258 [.d (x.dd false), .pt lv k []] h (.d (.lf (.bool (bndBad x v)))) h := by
 have hc2 := hpgD hcap
 have hz2 := x.sz_eq
 have hlen : (tv x.fType).length ≤ 1 + x.fType.sz := by have h1 := tvs_len x.fType []; have h2 := tSize_le x.fType; unfold tv; simp at h1; omega
 refine Ze Tryz.func258 rfl 20 ?_
 apply Zr; intros
 iterate 2 (refine Zo ?_ (by simp [hc2] <;> omega); simp [hc2])
 exact Zx
 refine W.seq ?_
 refine W.regDJ0 (D := _) rfl rfl fun K hD hK => ?_
 refine Yo ?_ (by simp [hc2] <;> omega); simp [hc2]
 refine Yl [] rfl Tryz.func259 (iValidB_d x (by omega)) ?_ (by simp [hc2]); simp [hc2]
 iterate 2 (refine Yo ?_ (by simp [hc2] <;> omega); simp [hc2])
 refine DL.split 7 _ rfl (fun g7 => ?_) fun g7 => ?_ <;> try simp at g7
 simp [hc2]
 iterate 3 (refine Yn hD rfl rfl ?_; simp [hc2])
 iterate 2 (refine Yo ?_ (by simp [hc2] <;> omega); simp [hc2])
 iterate 6 (refine Yn hD rfl rfl ?_; simp [hc2])
 iterate 2 (refine Yo ?_ (by simp [hc2] <;> omega); simp [hc2])
 refine DL.nil rfl (hK _ ?_)
 refine W.ret (Zq ?_)
 simp [Tryz.f258, bndBad, tOver, g7] <;> grind
 simp [hc2]
 iterate 2 (refine Yg hD rfl rfl ?_ (by simp [hc2] <;> omega); simp [hc2])
 refine Yk hD rfl rfl [] rfl Tryz.func182 (iPj_d x.fType (by omega)) ?_ (by simp [hc2]); simp [hc2]
 iterate 2 (refine Yo ?_ (by simp [hc2] <;> omega); simp [hc2])
 refine DL.split 12 _ rfl (fun g12 => ?_) fun g12 => ?_ <;> try simp at g12
 simp [hc2]
 iterate 6 (refine Yn hD rfl rfl ?_; simp [hc2])
 iterate 2 (refine Yo ?_ (by simp [hc2] <;> omega); simp [hc2])
 refine DL.nil rfl (hK _ ?_)
 refine W.ret (Zq ?_)
 simp [Tryz.f258, bndBad, tOver, g7, g12] <;> grind
 simp [hc2]
 iterate 2 (refine Yg hD rfl rfl ?_ (by simp [hc2] <;> omega); simp [hc2])
 refine Yk hD rfl rfl [] rfl Tryz.func183 (iTv_d x.fType (by omega)) ?_ (by simp [hc2]); simp [hc2]
 refine DL.opGs [] hD 8 12 false rfl rfl (by simp) (by simp [hc2] <;> omega) rfl _ (sk_ldU hc2 rfl rfl rfl rfl) ?_; simp [hc2]
 refine Yk hD rfl rfl [] rfl Tryz.func48 (areAmong_d (tv x.fType) v (by omega) (by omega)) ?_ (by simp [hc2]); simp [hc2]
 refine Yg hD rfl rfl ?_ (by simp [hc2] <;> omega); simp [hc2]
 iterate 2 (refine Yo ?_ (by simp [hc2] <;> omega); simp [hc2])
 refine DL.nil rfl (hK _ ?_)
 refine W.ret (Zq ?_)
 simp [Tryz.f258, bndBad, tOver, g7, g12] <;> grind
theorem iWher_d (l : List TBound) (v : List ByteArray) (hm : v.length ≤ 134217728) (hl : l.length ≤ 134217728) (hs : ∀ y ∈ l, y.sz ≤ 134217728) (h : HP) : CS cx.P 184 [.d (.sl false sh174 (l.map (TBound.dd false))), .d (.sl false .one (v.map dS))] h (.d (.lf (.bool (wher l v)))) h := by
 refine Ze Tryz.func184 rfl 14 ?_
 apply Zr; intros
 iterate 2 (refine Zo ?_; simp)
 exact Zx
 refine W.seq ?_
 refine W.regJ0 (D := _) rfl fun _ K hD hK => ?_
 iterate 4 (refine Zo ?_; simp)
 refine WL.split 8 _ rfl (fun g8 => ?_) fun g8 => ?_ <;> try simp at g8
 simp
 iterate 2 (refine Zg hD rfl rfl ?_; simp)
 refine Zk hD rfl rfl [] rfl Tryz.func214 (ContainsFuncBoundC_d l (by omega) 258 Tryz.f258 _ ⟨Tryz.func258, rfl, rfl⟩ (fun y => bndBad y v) 3 (.sl false .one (v.map dS)) 0 (fun y hy lv h hc => bndClo_d v hm y (hs y hy) lv 3 h hc) _ (by simp)) ?_; simp
 refine Zg hD rfl rfl ?_; simp
 iterate 2 (refine Zo ?_; simp)
 refine WL.nil (hK _ ?_)
 refine W.ret (Zq ?_)
 simp [Tryz.f184, wher, g8] <;> first | omega | grind
 simp
 iterate 4 (refine Zn hD rfl rfl ?_; simp)
 iterate 2 (refine Zo ?_; simp)
 refine WL.nil (hK _ ?_)
 refine W.ret (Zq ?_)
 simp [Tryz.f184, wher, g8] <;> first | omega | grind
theorem idxByte0 (s : ByteArray) (c : Int) (w : World) : Calls Tryz.prog 444 #[.string s, .int .u8 c] w fun e w' => e = .returned (.int .i64 (Lib.indexByte s.data.toList c.toNat.toUInt8)) ∧ w' = w := by
 go_enter Tryz.func444, Tryz.ntmps444
 go_wp2
 rw [run_callFunc_extern Tryz.func448 (by kernel_rfl) (by kernel_rfl) (by kernel_rfl) (e := Extern.BytealgIndexByte.indexByte) (by kernel_rfl), Lib.run_indexByteString]
 simp only [Result.andThen]
 rw [Oper.upon_value]
 go_wp2
 go_ret
 exact ⟨rfl, rfl⟩
mutual
theorem szX_pos : ∀ x : TExpr, 0 < szX x
 | ⟨_, _, _, _, _, _, _⟩ => by simp only [szX]; omega
theorem szXs_len : ∀ l : List TExpr, l.length ≤ szXs l
 | [] => by simp
 | x :: l => by have := szX_pos x; have := szXs_len l; simp only [szXs, List.length_cons]; omega
end
theorem noS_ie (s : ByteArray) : noS s = s.toList.isEmpty := by unfold noS; cases s.toList <;> rfl
theorem nm_noS {s : ByteArray} (h : noS s = true) : isNm s = false := by
 unfold noS at h
 have h3 : s.toList = [] := by simpa using h
 have h4 := tl_len s
 rw [h3] at h4
 have h5 : s.size = 0 := by simpa using h4.symm
 unfold isNm within
 simp [h5]
theorem tV_zero {x : TType} (h : zeroT x = true) : tValid x = false := by
 unfold zeroT at h
 simp at h
 cases x with
 | mk k n l =>
  simp only at h
  obtain ⟨⟨h1, -⟩, -⟩ := h
  subst h1
  unfold tValid
  simp [tForm, hdOk]
theorem iF0_exH {x : TExpr} (h : x.fArgs.length ≤ 300) : iF0 x = exH x := by
 by_cases hr : 1 ≤ x.fKind ∧ x.fKind ≤ 12
 ·have ht := @nm_noS x.fTrait
  have hn := @nm_noS x.fName
  have hy := @tV_zero x.fType
  have hnl : x.fArgs = [] ↔ x.fArgs.length = 0 := List.length_eq_zero_iff.symm
  have hk : x.fKind = 1 ∨ x.fKind = 2 ∨ x.fKind = 3 ∨ x.fKind = 4 ∨ x.fKind = 5 ∨ x.fKind = 6 ∨ x.fKind = 7 ∨ x.fKind = 8 ∨ x.fKind = 9 ∨ x.fKind = 10 ∨ x.fKind = 11 ∨ x.fKind = 12 := by omega
  generalize hq1 : noS x.fTrait = q1 at *
  generalize hq2 : isNm x.fTrait = q2 at *
  generalize hq3 : noS x.fName = q3 at *
  generalize hq4 : isNm x.fName = q4 at *
  generalize hq5 : zeroT x.fType = q5 at *
  generalize hq6 : tValid x.fType = q6 at *
  generalize hq7 : hasS prims x.fName = q7 at *
  rcases hk with e | e | e | e | e | e | e | e | e | e | e | e <;> simp only [iF0, if1, ifT, ifN, ifI, ifY, exH, xf1, xf2, xf3, xf4, hasT, hasN, hasI, hasA, hasY, argN, acL, acH, within, hq1, hq2, hq3, hq4, hq5, hq6, hq7, e] <;> simp <;> grind
 ·have h1 : if1 x = false := by unfold if1 within; simp; omega
  have h2 : xf1 x = false := by unfold xf1 within; simp; omega
  unfold iF0 exH; rw [h1, h2]; simp
mutual
theorem iF_exF : ∀ x : TExpr, szX x ≤ 300 → iF x = exF x
 | ⟨k, t, n, i, y, al, rl⟩, h => by
  simp only [szX] at h
  have h1 := szXs_len al
  have h2 := iFs_exF al (by omega)
  have h3 := iFr_exF rl (by omega)
  have h4 := iF0_exH (x := ⟨k, t, n, i, y, al, rl⟩) (by show al.length ≤ 300; omega)
  simp only [iF, exF, h2, h3, h4]
theorem iFs_exF : ∀ l : List TExpr, szXs l ≤ 300 → iFs l = exFs l
 | [], _ => by simp only [iFs, exFs]
 | x :: l, h => by
  simp only [szXs] at h
  simp only [iFs, exFs, iF_exF x (by omega), iFs_exF l (by omega)]
theorem iFa_exF : ∀ x : TArm, szXa x ≤ 300 → iFa x = exFa x
 | ⟨c, vs, b⟩, h => by
  simp only [szXa] at h
  simp only [iFa, exFa, iF_exF b h]
  cases isNm c <;> cases dst vs <;> cases nms vs <;> rfl
theorem iFr_exF : ∀ l : List TArm, szXr l ≤ 300 → iFr l = exFr l
 | [], _ => by simp only [iFr, exFr]
 | x :: l, h => by
  simp only [szXr] at h
  simp only [iFr, exFr, iFa_exF x (by omega), iFr_exF l (by omega)]
end
theorem exV_iF (x : TExpr) : exV x = (decide (szX x ≤ 300) && iF x) := by
 unfold exV
 by_cases h : szX x ≤ 300
 ·rw [iF_exF x h]
 ·simp [h]
theorem iSzX_a (x : TExpr) (hz : x.sz ≤ 134217728) (hc : ∀ y ∈ x.fArgs, ∀ h, CS cx.P 325 [.d (y.dd false)] h (.d (.lf (.int .i64 ((szX y : Nat) : Int)))) h) (hc2 : ∀ a ∈ x.fArms, ∀ h, CS cx.P 325 [.d (a.fBody.dd false)] h (.d (.lf (.int .i64 ((szX a.fBody : Nat) : Int)))) h) (h : HP) : CS cx.P 325 [.d (x.dd false)] h (.d (.lf (.int .i64 ((szX x : Nat) : Int)))) h := by
 have hz2 := x.sz_eq; unfold szs at hz2
 have hsx := szX_le x
 have hx0 := xr_le x 0
 refine Ze Tryz.func325 rfl 34 ?_
 apply Zr; intros
 iterate 2 (refine Zo ?_; simp)
 exact Zx
 apply Zr; intros
 refine Zo ?_; simp
 exact Zx
 refine W.seq ?_
 apply Zr; intros
 iterate 4 (refine Zo ?_; simp)
 exact Zx
 refine W.block ?_
 refine W.loopk [1, 9, 10] [1] (fun k0 => [(11, .d (.lf (.int .i64 (k0 : Int)))), (3, .d (.lf (.int .i64 ((xk x k0 : Nat) : Int))))]) (fun _ => []) x.fArgs.length rfl (by simp [xk_zero]) fun k0 hk0 T hT => ?_
 simp at hT; subst hT
 apply Zr; intros
 refine Zo ?_; simp
 exact Zx
 refine Zv rfl ?_ ?_ <;> intro hb0 <;> try simp at hb0
 have hx := ixNext hb0 (by omega)
 have h3 := xk_nx hb0
 have h4 := xk_le x (k0 + 1)
 have hw : IntKind.i64.wrap ((xk x k0 : Int) + (szX x.fArgs[k0] : Int)) = (xk x (k0 + 1) : Int) := by rw [i64w (by omega) (by omega)]; omega
 refine W.skip ?_
 refine Zb ?_
 apply Zr; intros
 refine Zo ?_ (by simp [hb0, hx, hw] <;> omega); simp [hb0, hx, hw]
 refine Zm [14] ?_ (by simp [hb0, hx, hw] <;> omega); simp [hb0, hx, hw]
 iterate 2 (refine Zo ?_ (by simp [hb0, hx, hw] <;> omega); simp [hb0, hx, hw])
 exact Zx
 apply Zs; intros
 iterate 2 (refine Zo ?_ (by simp [hb0, hx, hw] <;> omega); simp [hb0, hx, hw])
 refine Zl [] rfl Tryz.func325 (hc x.fArgs[k0] (gm hb0) _) ?_ (by simp [hb0, hx, hw]); simp [hb0, hx, hw]
 iterate 2 (refine Zo ?_ (by simp [hb0, hx, hw] <;> omega); simp [hb0, hx, hw])
 exact Zx
 apply Zs; intros
 iterate 2 (refine Zo ?_ (by simp [hb0, hx, hw] <;> omega); simp [hb0, hx, hw])
 exact Zx
 refine ⟨hb0, Wz.to rfl rfl rfl ?_⟩
 simp [hw]
 have hkl : k0 = x.fArgs.length := by omega
 subst hkl
 refine W.exit ?_
 refine W.seq ?_
 apply Zr; intros
 iterate 4 (refine Zo ?_; simp)
 exact Zx
 refine W.block ?_
 refine W.loopk [21, 22] [] (fun k1 => [(23, .d (.lf (.int .i64 (k1 : Int)))), (3, .d (.lf (.int .i64 ((xr x k1 : Nat) : Int))))]) (fun _ => []) x.fArms.length rfl (by simp [xr_zero]) fun k1 hk1 T hT => ?_
 simp at hT; subst hT
 apply Zr; intros
 refine Zo ?_; simp
 exact Zx
 refine Zv rfl ?_ ?_ <;> intro hb1 <;> try simp at hb1
 have hx := ixNext hb1 (by omega)
 have h3 := xr_nx hb1
 have h4 := xr_le x (k1 + 1)
 have hw : IntKind.i64.wrap ((xr x k1 : Int) + (szX x.fArms[k1].fBody : Int)) = (xr x (k1 + 1) : Int) := by rw [i64w (by omega) (by omega)]; omega
 refine W.skip ?_
 refine Zb ?_
 apply Zr; intros
 refine Zo ?_ (by simp [hb1, hx, hw] <;> omega); simp [hb1, hx, hw]
 refine Zm [26] ?_ (by simp [hb1, hx, hw] <;> omega); simp [hb1, hx, hw]
 iterate 2 (refine Zo ?_ (by simp [hb1, hx, hw] <;> omega); simp [hb1, hx, hw])
 exact Zx
 apply Zs; intros
 iterate 3 (refine Zo ?_ (by simp [hb1, hx, hw] <;> omega); simp [hb1, hx, hw])
 refine Zl [] rfl Tryz.func325 (hc2 x.fArms[k1] (gm hb1) _) ?_ (by simp [hb1, hx, hw]); simp [hb1, hx, hw]
 iterate 2 (refine Zo ?_ (by simp [hb1, hx, hw] <;> omega); simp [hb1, hx, hw])
 exact Zx
 apply Zs; intros
 iterate 2 (refine Zo ?_ (by simp [hb1, hx, hw] <;> omega); simp [hb1, hx, hw])
 exact Zx
 refine ⟨hb1, Wz.to rfl rfl rfl ?_⟩
 simp [hw]
 have hkl : k1 = x.fArms.length := by omega
 subst hkl
 have hres := xr_full x
 refine W.exit ?_
 apply Zr; intros
 iterate 2 (refine Zo ?_; simp)
 exact Zx
 refine W.ret (Zq ?_)
 simp [Tryz.f325, hres]
theorem iSzX_d (x : TExpr) (hz : x.sz ≤ 134217728) (h : HP) : CS cx.P 325 [.d (x.dd false)] h (.d (.lf (.int .i64 ((szX x : Nat) : Int)))) h := iSzX_a x hz (fun y hy h => iSzX_d y (by have h1 := szL_le TExpr.sz hy; have h2 := x.sz_eq; unfold szs at h2; omega) h) (fun a ha h => iSzX_d a.fBody (by have h1 := szL_le TArm.sz ha; have h2 := x.sz_eq; have h3 := a.sz_eq; unfold szs at h2; omega) h) h
termination_by SizeOf.sizeOf x
decreasing_by
 ·have := List.sizeOf_lt_of_mem hy; have := x.lt_fArgs; omega
 ·have := List.sizeOf_lt_of_mem ha; have := x.lt_fArms; have := a.lt_fBody; omega
end Go.Proofs.YtdooklofebdknaaGreat
