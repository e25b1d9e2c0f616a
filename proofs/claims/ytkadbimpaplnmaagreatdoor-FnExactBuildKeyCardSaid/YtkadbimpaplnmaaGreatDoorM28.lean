/- Walks by the Den rules. No condition but sizes. -/
import Derived.Test.YtkadbimpaplnmaaGreatDoorM16
import Derived.Test.YtkadbimpaplnmaaGreatDoorM18
import Derived.Test.YtkadbimpaplnmaaGreatDoorM21
namespace Go.Proofs.YtkadbimpaplnmaaGreatDoor
open Go.RowKit
set_option maxRecDepth 10000
set_option linter.unusedSimpArgs false
set_option maxHeartbeats 4000000
theorem IndexFuncTypeC_d (l : List TType) (hm : l.length ≤ 1073741824) (g : Nat) (fn : Func) (body : Code) (hg : FnOk cx.P g fn body) (p : TType → Bool) (k : Nat) (c : DD) (lv : Nat) (hp : ∀ y ∈ l, ∀ lv : Nat, ∀ h, hpg h lv k = some (.d c) → CS cx.P g [.d (TType.dd false y), .pt lv k []] h (.d (.lf (.bool (p y)))) h) (h : HP) (hcap : hpg h lv k = some (.d c)) : CS cx.P 254 [.d (.sl false sh88 (l.map (TType.dd false))), .fn g [.pt lv k []]] h (.d (.lf (.int .i64 (idxP l p)))) h := by
 refine Ze Tryz.func254 rfl 19 ?_
 apply Zr; intros
 refine Zo ?_; simp
 exact Zx
 refine W.seq ?_
 apply Zr; intros
 iterate 3 (refine Zo ?_; simp)
 exact Zx
 refine W.block ?_
 refine W.loopI [0, 1, 7] [] (fun k0 => [(8, .d (.lf (.int .i64 (k0 : Int))))]) (fun _ => []) l.length (fun k0 => ∀ j, j < k0 → ∀ y, l[j]? = some y → p y = false) rfl (by simp) (by simp) fun k0 hk0 hi0 T hT => ?_
 simp at hT; subst hT
 apply Zr; intros
 refine Zo ?_; simp
 exact Zx
 refine Zv rfl ?_ ?_ <;> intro hb0 <;> try simp at hb0
 have hx := ixNext hb0 (by omega)
 refine W.skip ?_
 refine Zb ?_
 apply Zr; intros
 iterate 2 (refine Zo ?_ (by simp [hb0, hx] <;> omega); simp [hb0, hx])
 exact Zx
 apply Zr; intros
 iterate 5 (refine Zo ?_ (by simp [hb0, hx] <;> omega); simp [hb0, hx])
 refine WL.call [] _ _ _ rfl rfl (by simp) (g := g) (caps := [.pt (lv + 1) k []]) (by simp) (by simp) hg rfl (by simp [hb0, hx]) (by simp) (by simp [hb0, hx]) (hp l[k0] (gm hb0) (lv + 1) _ (by simpa using hpgD hcap)) rfl ?_; simp [hb0, hx]
 exact Zx
 refine Zc rfl ?_ ?_ <;> intro hb1 <;> try simp at hb1
 have hres := idxP_at hi0 hb0 hb1
 apply Zr; intros
 iterate 2 (refine Zo ?_ (by simp [hb0, hx] <;> omega); simp [hb0, hx])
 exact Zx
 refine W.ret (Zq ?_)
 simp [Tryz.f254, hres]
 refine W.skip ?_
 apply Zs; intros
 iterate 2 (refine Zo ?_ (by simp [hb0, hx] <;> omega); simp [hb0, hx])
 exact Zx
 refine ⟨hb0, noP_step hi0 hb0 hb1, Wz.to rfl rfl rfl ?_⟩
 simp
 have hkl : k0 = l.length := by omega
 subst hkl
 have hres := idxP_no hi0
 refine W.exit ?_
 apply Zr; intros
 refine Zo ?_; simp
 exact Zx
 refine W.ret (Zq ?_)
 simp [Tryz.f254, hres]
theorem ContainsFuncTypeC_d (l : List TType) (hm : l.length ≤ 1073741824) (g : Nat) (fn : Func) (body : Code) (hg : FnOk cx.P g fn body) (p : TType → Bool) (k : Nat) (c : DD) (lv : Nat) (hp : ∀ y ∈ l, ∀ lv : Nat, ∀ h, hpg h lv k = some (.d c) → CS cx.P g [.d (TType.dd false y), .pt lv k []] h (.d (.lf (.bool (p y)))) h) (h : HP) (hcap : hpg h lv k = some (.d c)) : CS cx.P 217 [.d (.sl false sh88 (l.map (TType.dd false))), .fn g [.pt lv k []]] h (.d (.lf (.bool (l.any p)))) h := by
 refine Ze Tryz.func217 rfl 9 ?_
 apply Zr; intros
 refine Zo ?_; simp
 exact Zx
 apply Zr; intros
 iterate 2 (refine Zo ?_; simp)
 refine Zl [] rfl Tryz.func254 (IndexFuncTypeC_d l hm g fn body hg p k c (lv + 1) hp _ (by simpa using hpgD hcap)) ?_; simp
 iterate 2 (refine Zo ?_; simp)
 exact Zx
 refine W.ret (Zq ?_)
 simp [Tryz.f217, ← idxP_any]
theorem IndexFuncStr_d (l : List ByteArray) (hm : l.length ≤ 1073741824) (g : Nat) (fn : Func) (body : Code) (hg : FnOk cx.P g fn body) (p : ByteArray → Bool) (hp : ∀ y ∈ l, ∀ h, CS cx.P g [.d (dS y)] h (.d (.lf (.bool (p y)))) h) (h : HP) : CS cx.P 215 [.d (.sl false .one (l.map (dS))), .fn g []] h (.d (.lf (.int .i64 (idxP l p)))) h := by
 refine Ze Tryz.func215 rfl 19 ?_
 apply Zr; intros
 refine Zo ?_; simp
 exact Zx
 refine W.seq ?_
 apply Zr; intros
 iterate 3 (refine Zo ?_; simp)
 exact Zx
 refine W.block ?_
 refine W.loopI [0, 1, 7] [] (fun k0 => [(8, .d (.lf (.int .i64 (k0 : Int))))]) (fun _ => []) l.length (fun k0 => ∀ j, j < k0 → ∀ y, l[j]? = some y → p y = false) rfl (by simp) (by simp) fun k0 hk0 hi0 T hT => ?_
 simp at hT; subst hT
 apply Zr; intros
 refine Zo ?_; simp
 exact Zx
 refine Zv rfl ?_ ?_ <;> intro hb0 <;> try simp at hb0
 have hx := ixNext hb0 (by omega)
 refine W.skip ?_
 refine Zb ?_
 apply Zr; intros
 iterate 2 (refine Zo ?_ (by simp [hb0, hx] <;> omega); simp [hb0, hx])
 exact Zx
 apply Zr; intros
 iterate 5 (refine Zo ?_ (by simp [hb0, hx] <;> omega); simp [hb0, hx])
 refine WL.call [] _ _ _ rfl rfl (by simp) (g := g) (caps := []) (by simp) (by simp) hg rfl (by simp [hb0, hx]) (by simp) (by simp [hb0, hx]) (hp l[k0] (gm hb0) _) rfl ?_; simp [hb0, hx]
 exact Zx
 refine Zc rfl ?_ ?_ <;> intro hb1 <;> try simp at hb1
 have hres := idxP_at hi0 hb0 hb1
 apply Zr; intros
 iterate 2 (refine Zo ?_ (by simp [hb0, hx] <;> omega); simp [hb0, hx])
 exact Zx
 refine W.ret (Zq ?_)
 simp [Tryz.f215, hres]
 refine W.skip ?_
 apply Zs; intros
 iterate 2 (refine Zo ?_ (by simp [hb0, hx] <;> omega); simp [hb0, hx])
 exact Zx
 refine ⟨hb0, noP_step hi0 hb0 hb1, Wz.to rfl rfl rfl ?_⟩
 simp
 have hkl : k0 = l.length := by omega
 subst hkl
 have hres := idxP_no hi0
 refine W.exit ?_
 apply Zr; intros
 refine Zo ?_; simp
 exact Zx
 refine W.ret (Zq ?_)
 simp [Tryz.f215, hres]
theorem ContainsFuncStr_d (l : List ByteArray) (hm : l.length ≤ 1073741824) (g : Nat) (fn : Func) (body : Code) (hg : FnOk cx.P g fn body) (p : ByteArray → Bool) (hp : ∀ y ∈ l, ∀ h, CS cx.P g [.d (dS y)] h (.d (.lf (.bool (p y)))) h) (h : HP) : CS cx.P 158 [.d (.sl false .one (l.map (dS))), .fn g []] h (.d (.lf (.bool (l.any p)))) h := by
 refine Ze Tryz.func158 rfl 9 ?_
 apply Zr; intros
 refine Zo ?_; simp
 exact Zx
 apply Zr; intros
 iterate 2 (refine Zo ?_; simp)
 refine Zl [] rfl Tryz.func215 (IndexFuncStr_d l hm g fn body hg p hp _) ?_; simp
 iterate 2 (refine Zo ?_; simp)
 exact Zx
 refine W.ret (Zq ?_)
 simp [Tryz.f158, ← idxP_any]
theorem IndexFuncStrC_d (l : List ByteArray) (hm : l.length ≤ 1073741824) (g : Nat) (fn : Func) (body : Code) (hg : FnOk cx.P g fn body) (p : ByteArray → Bool) (k : Nat) (c : DD) (lv : Nat) (hp : ∀ y ∈ l, ∀ lv : Nat, ∀ h, hpg h lv k = some (.d c) → CS cx.P g [.d (dS y), .pt lv k []] h (.d (.lf (.bool (p y)))) h) (h : HP) (hcap : hpg h lv k = some (.d c)) : CS cx.P 215 [.d (.sl false .one (l.map (dS))), .fn g [.pt lv k []]] h (.d (.lf (.int .i64 (idxP l p)))) h := by
 refine Ze Tryz.func215 rfl 19 ?_
 apply Zr; intros
 refine Zo ?_; simp
 exact Zx
 refine W.seq ?_
 apply Zr; intros
 iterate 3 (refine Zo ?_; simp)
 exact Zx
 refine W.block ?_
 refine W.loopI [0, 1, 7] [] (fun k0 => [(8, .d (.lf (.int .i64 (k0 : Int))))]) (fun _ => []) l.length (fun k0 => ∀ j, j < k0 → ∀ y, l[j]? = some y → p y = false) rfl (by simp) (by simp) fun k0 hk0 hi0 T hT => ?_
 simp at hT; subst hT
 apply Zr; intros
 refine Zo ?_; simp
 exact Zx
 refine Zv rfl ?_ ?_ <;> intro hb0 <;> try simp at hb0
 have hx := ixNext hb0 (by omega)
 refine W.skip ?_
 refine Zb ?_
 apply Zr; intros
 iterate 2 (refine Zo ?_ (by simp [hb0, hx] <;> omega); simp [hb0, hx])
 exact Zx
 apply Zr; intros
 iterate 5 (refine Zo ?_ (by simp [hb0, hx] <;> omega); simp [hb0, hx])
 refine WL.call [] _ _ _ rfl rfl (by simp) (g := g) (caps := [.pt (lv + 1) k []]) (by simp) (by simp) hg rfl (by simp [hb0, hx]) (by simp) (by simp [hb0, hx]) (hp l[k0] (gm hb0) (lv + 1) _ (by simpa using hpgD hcap)) rfl ?_; simp [hb0, hx]
 exact Zx
 refine Zc rfl ?_ ?_ <;> intro hb1 <;> try simp at hb1
 have hres := idxP_at hi0 hb0 hb1
 apply Zr; intros
 iterate 2 (refine Zo ?_ (by simp [hb0, hx] <;> omega); simp [hb0, hx])
 exact Zx
 refine W.ret (Zq ?_)
 simp [Tryz.f215, hres]
 refine W.skip ?_
 apply Zs; intros
 iterate 2 (refine Zo ?_ (by simp [hb0, hx] <;> omega); simp [hb0, hx])
 exact Zx
 refine ⟨hb0, noP_step hi0 hb0 hb1, Wz.to rfl rfl rfl ?_⟩
 simp
 have hkl : k0 = l.length := by omega
 subst hkl
 have hres := idxP_no hi0
 refine W.exit ?_
 apply Zr; intros
 refine Zo ?_; simp
 exact Zx
 refine W.ret (Zq ?_)
 simp [Tryz.f215, hres]
theorem ContainsFuncStrC_d (l : List ByteArray) (hm : l.length ≤ 1073741824) (g : Nat) (fn : Func) (body : Code) (hg : FnOk cx.P g fn body) (p : ByteArray → Bool) (k : Nat) (c : DD) (lv : Nat) (hp : ∀ y ∈ l, ∀ lv : Nat, ∀ h, hpg h lv k = some (.d c) → CS cx.P g [.d (dS y), .pt lv k []] h (.d (.lf (.bool (p y)))) h) (h : HP) (hcap : hpg h lv k = some (.d c)) : CS cx.P 158 [.d (.sl false .one (l.map (dS))), .fn g [.pt lv k []]] h (.d (.lf (.bool (l.any p)))) h := by
 refine Ze Tryz.func158 rfl 9 ?_
 apply Zr; intros
 refine Zo ?_; simp
 exact Zx
 apply Zr; intros
 iterate 2 (refine Zo ?_; simp)
 refine Zl [] rfl Tryz.func215 (IndexFuncStrC_d l hm g fn body hg p k c (lv + 1) hp _ (by simpa using hpgD hcap)) ?_; simp
 iterate 2 (refine Zo ?_; simp)
 exact Zx
 refine W.ret (Zq ?_)
 simp [Tryz.f158, ← idxP_any]
theorem IndexFuncBoundC_d (l : List TBound) (hm : l.length ≤ 1073741824) (g : Nat) (fn : Func) (body : Code) (hg : FnOk cx.P g fn body) (p : TBound → Bool) (k : Nat) (c : DD) (lv : Nat) (hp : ∀ y ∈ l, ∀ lv : Nat, ∀ h, hpg h lv k = some (.d c) → CS cx.P g [.d (TBound.dd false y), .pt lv k []] h (.d (.lf (.bool (p y)))) h) (h : HP) (hcap : hpg h lv k = some (.d c)) : CS cx.P 259 [.d (.sl false sh206 (l.map (TBound.dd false))), .fn g [.pt lv k []]] h (.d (.lf (.int .i64 (idxP l p)))) h := by
 refine Ze Tryz.func259 rfl 19 ?_
 apply Zr; intros
 refine Zo ?_; simp
 exact Zx
 refine W.seq ?_
 apply Zr; intros
 iterate 3 (refine Zo ?_; simp)
 exact Zx
 refine W.block ?_
 refine W.loopI [0, 1, 7] [] (fun k0 => [(8, .d (.lf (.int .i64 (k0 : Int))))]) (fun _ => []) l.length (fun k0 => ∀ j, j < k0 → ∀ y, l[j]? = some y → p y = false) rfl (by simp) (by simp) fun k0 hk0 hi0 T hT => ?_
 simp at hT; subst hT
 apply Zr; intros
 refine Zo ?_; simp
 exact Zx
 refine Zv rfl ?_ ?_ <;> intro hb0 <;> try simp at hb0
 have hx := ixNext hb0 (by omega)
 refine W.skip ?_
 refine Zb ?_
 apply Zr; intros
 iterate 2 (refine Zo ?_ (by simp [hb0, hx] <;> omega); simp [hb0, hx])
 exact Zx
 apply Zr; intros
 iterate 5 (refine Zo ?_ (by simp [hb0, hx] <;> omega); simp [hb0, hx])
 refine WL.call [] _ _ _ rfl rfl (by simp) (g := g) (caps := [.pt (lv + 1) k []]) (by simp) (by simp) hg rfl (by simp [hb0, hx]) (by simp) (by simp [hb0, hx]) (hp l[k0] (gm hb0) (lv + 1) _ (by simpa using hpgD hcap)) rfl ?_; simp [hb0, hx]
 exact Zx
 refine Zc rfl ?_ ?_ <;> intro hb1 <;> try simp at hb1
 have hres := idxP_at hi0 hb0 hb1
 apply Zr; intros
 iterate 2 (refine Zo ?_ (by simp [hb0, hx] <;> omega); simp [hb0, hx])
 exact Zx
 refine W.ret (Zq ?_)
 simp [Tryz.f259, hres]
 refine W.skip ?_
 apply Zs; intros
 iterate 2 (refine Zo ?_ (by simp [hb0, hx] <;> omega); simp [hb0, hx])
 exact Zx
 refine ⟨hb0, noP_step hi0 hb0 hb1, Wz.to rfl rfl rfl ?_⟩
 simp
 have hkl : k0 = l.length := by omega
 subst hkl
 have hres := idxP_no hi0
 refine W.exit ?_
 apply Zr; intros
 refine Zo ?_; simp
 exact Zx
 refine W.ret (Zq ?_)
 simp [Tryz.f259, hres]
theorem ContainsFuncBoundC_d (l : List TBound) (hm : l.length ≤ 1073741824) (g : Nat) (fn : Func) (body : Code) (hg : FnOk cx.P g fn body) (p : TBound → Bool) (k : Nat) (c : DD) (lv : Nat) (hp : ∀ y ∈ l, ∀ lv : Nat, ∀ h, hpg h lv k = some (.d c) → CS cx.P g [.d (TBound.dd false y), .pt lv k []] h (.d (.lf (.bool (p y)))) h) (h : HP) (hcap : hpg h lv k = some (.d c)) : CS cx.P 224 [.d (.sl false sh206 (l.map (TBound.dd false))), .fn g [.pt lv k []]] h (.d (.lf (.bool (l.any p)))) h := by
 refine Ze Tryz.func224 rfl 9 ?_
 apply Zr; intros
 refine Zo ?_; simp
 exact Zx
 apply Zr; intros
 iterate 2 (refine Zo ?_; simp)
 refine Zl [] rfl Tryz.func259 (IndexFuncBoundC_d l hm g fn body hg p k c (lv + 1) hp _ (by simpa using hpgD hcap)) ?_; simp
 iterate 2 (refine Zo ?_; simp)
 exact Zx
 refine W.ret (Zq ?_)
 simp [Tryz.f224, ← idxP_any]
theorem IndexFuncExpr_d (l : List TExpr) (hm : l.length ≤ 1073741824) (g : Nat) (fn : Func) (body : Code) (hg : FnOk cx.P g fn body) (p : TExpr → Bool) (hp : ∀ y ∈ l, ∀ h, CS cx.P g [.d (TExpr.dd false y)] h (.d (.lf (.bool (p y)))) h) (h : HP) : CS cx.P 289 [.d (.sl false sh98 (l.map (TExpr.dd false))), .fn g []] h (.d (.lf (.int .i64 (idxP l p)))) h := by
 refine Ze Tryz.func289 rfl 19 ?_
 apply Zr; intros
 refine Zo ?_; simp
 exact Zx
 refine W.seq ?_
 apply Zr; intros
 iterate 3 (refine Zo ?_; simp)
 exact Zx
 refine W.block ?_
 refine W.loopI [0, 1, 7] [] (fun k0 => [(8, .d (.lf (.int .i64 (k0 : Int))))]) (fun _ => []) l.length (fun k0 => ∀ j, j < k0 → ∀ y, l[j]? = some y → p y = false) rfl (by simp) (by simp) fun k0 hk0 hi0 T hT => ?_
 simp at hT; subst hT
 apply Zr; intros
 refine Zo ?_; simp
 exact Zx
 refine Zv rfl ?_ ?_ <;> intro hb0 <;> try simp at hb0
 have hx := ixNext hb0 (by omega)
 refine W.skip ?_
 refine Zb ?_
 apply Zr; intros
 iterate 2 (refine Zo ?_ (by simp [hb0, hx] <;> omega); simp [hb0, hx])
 exact Zx
 apply Zr; intros
 iterate 5 (refine Zo ?_ (by simp [hb0, hx] <;> omega); simp [hb0, hx])
 refine WL.call [] _ _ _ rfl rfl (by simp) (g := g) (caps := []) (by simp) (by simp) hg rfl (by simp [hb0, hx]) (by simp) (by simp [hb0, hx]) (hp l[k0] (gm hb0) _) rfl ?_; simp [hb0, hx]
 exact Zx
 refine Zc rfl ?_ ?_ <;> intro hb1 <;> try simp at hb1
 have hres := idxP_at hi0 hb0 hb1
 apply Zr; intros
 iterate 2 (refine Zo ?_ (by simp [hb0, hx] <;> omega); simp [hb0, hx])
 exact Zx
 refine W.ret (Zq ?_)
 simp [Tryz.f289, hres]
 refine W.skip ?_
 apply Zs; intros
 iterate 2 (refine Zo ?_ (by simp [hb0, hx] <;> omega); simp [hb0, hx])
 exact Zx
 refine ⟨hb0, noP_step hi0 hb0 hb1, Wz.to rfl rfl rfl ?_⟩
 simp
 have hkl : k0 = l.length := by omega
 subst hkl
 have hres := idxP_no hi0
 refine W.exit ?_
 apply Zr; intros
 refine Zo ?_; simp
 exact Zx
 refine W.ret (Zq ?_)
 simp [Tryz.f289, hres]
theorem ContainsFuncExpr_d (l : List TExpr) (hm : l.length ≤ 1073741824) (g : Nat) (fn : Func) (body : Code) (hg : FnOk cx.P g fn body) (p : TExpr → Bool) (hp : ∀ y ∈ l, ∀ h, CS cx.P g [.d (TExpr.dd false y)] h (.d (.lf (.bool (p y)))) h) (h : HP) : CS cx.P 278 [.d (.sl false sh98 (l.map (TExpr.dd false))), .fn g []] h (.d (.lf (.bool (l.any p)))) h := by
 refine Ze Tryz.func278 rfl 9 ?_
 apply Zr; intros
 refine Zo ?_; simp
 exact Zx
 apply Zr; intros
 iterate 2 (refine Zo ?_; simp)
 refine Zl [] rfl Tryz.func289 (IndexFuncExpr_d l hm g fn body hg p hp _) ?_; simp
 iterate 2 (refine Zo ?_; simp)
 exact Zx
 refine W.ret (Zq ?_)
 simp [Tryz.f278, ← idxP_any]
theorem IndexFuncArm_d (l : List TArm) (hm : l.length ≤ 1073741824) (g : Nat) (fn : Func) (body : Code) (hg : FnOk cx.P g fn body) (p : TArm → Bool) (hp : ∀ y ∈ l, ∀ h, CS cx.P g [.d (TArm.dd false y)] h (.d (.lf (.bool (p y)))) h) (h : HP) : CS cx.P 290 [.d (.sl false sh198 (l.map (TArm.dd false))), .fn g []] h (.d (.lf (.int .i64 (idxP l p)))) h := by
 refine Ze Tryz.func290 rfl 19 ?_
 apply Zr; intros
 refine Zo ?_; simp
 exact Zx
 refine W.seq ?_
 apply Zr; intros
 iterate 3 (refine Zo ?_; simp)
 exact Zx
 refine W.block ?_
 refine W.loopI [0, 1, 7] [] (fun k0 => [(8, .d (.lf (.int .i64 (k0 : Int))))]) (fun _ => []) l.length (fun k0 => ∀ j, j < k0 → ∀ y, l[j]? = some y → p y = false) rfl (by simp) (by simp) fun k0 hk0 hi0 T hT => ?_
 simp at hT; subst hT
 apply Zr; intros
 refine Zo ?_; simp
 exact Zx
 refine Zv rfl ?_ ?_ <;> intro hb0 <;> try simp at hb0
 have hx := ixNext hb0 (by omega)
 refine W.skip ?_
 refine Zb ?_
 apply Zr; intros
 iterate 2 (refine Zo ?_ (by simp [hb0, hx] <;> omega); simp [hb0, hx])
 exact Zx
 apply Zr; intros
 iterate 5 (refine Zo ?_ (by simp [hb0, hx] <;> omega); simp [hb0, hx])
 refine WL.call [] _ _ _ rfl rfl (by simp) (g := g) (caps := []) (by simp) (by simp) hg rfl (by simp [hb0, hx]) (by simp) (by simp [hb0, hx]) (hp l[k0] (gm hb0) _) rfl ?_; simp [hb0, hx]
 exact Zx
 refine Zc rfl ?_ ?_ <;> intro hb1 <;> try simp at hb1
 have hres := idxP_at hi0 hb0 hb1
 apply Zr; intros
 iterate 2 (refine Zo ?_ (by simp [hb0, hx] <;> omega); simp [hb0, hx])
 exact Zx
 refine W.ret (Zq ?_)
 simp [Tryz.f290, hres]
 refine W.skip ?_
 apply Zs; intros
 iterate 2 (refine Zo ?_ (by simp [hb0, hx] <;> omega); simp [hb0, hx])
 exact Zx
 refine ⟨hb0, noP_step hi0 hb0 hb1, Wz.to rfl rfl rfl ?_⟩
 simp
 have hkl : k0 = l.length := by omega
 subst hkl
 have hres := idxP_no hi0
 refine W.exit ?_
 apply Zr; intros
 refine Zo ?_; simp
 exact Zx
 refine W.ret (Zq ?_)
 simp [Tryz.f290, hres]
theorem ContainsFuncArm_d (l : List TArm) (hm : l.length ≤ 1073741824) (g : Nat) (fn : Func) (body : Code) (hg : FnOk cx.P g fn body) (p : TArm → Bool) (hp : ∀ y ∈ l, ∀ h, CS cx.P g [.d (TArm.dd false y)] h (.d (.lf (.bool (p y)))) h) (h : HP) : CS cx.P 280 [.d (.sl false sh198 (l.map (TArm.dd false))), .fn g []] h (.d (.lf (.bool (l.any p)))) h := by
 refine Ze Tryz.func280 rfl 9 ?_
 apply Zr; intros
 refine Zo ?_; simp
 exact Zx
 apply Zr; intros
 iterate 2 (refine Zo ?_; simp)
 refine Zl [] rfl Tryz.func290 (IndexFuncArm_d l hm g fn body hg p hp _) ?_; simp
 iterate 2 (refine Zo ?_; simp)
 exact Zx
 refine W.ret (Zq ?_)
 simp [Tryz.f280, ← idxP_any]
theorem IndexFuncPackageC_d (l : List TPackage) (hm : l.length ≤ 1073741824) (g : Nat) (fn : Func) (body : Code) (hg : FnOk cx.P g fn body) (p : TPackage → Bool) (k : Nat) (c : DD) (lv : Nat) (hp : ∀ y ∈ l, ∀ lv : Nat, ∀ h, hpg h lv k = some (.d c) → CS cx.P g [.d (TPackage.dd false y), .pt lv k []] h (.d (.lf (.bool (p y)))) h) (h : HP) (hcap : hpg h lv k = some (.d c)) : CS cx.P 52 [.d (.sl false sh44 (l.map (TPackage.dd false))), .fn g [.pt lv k []]] h (.d (.lf (.int .i64 (idxP l p)))) h := by
 refine Ze Tryz.func52 rfl 19 ?_
 apply Zr; intros
 refine Zo ?_; simp
 exact Zx
 refine W.seq ?_
 apply Zr; intros
 iterate 3 (refine Zo ?_; simp)
 exact Zx
 refine W.block ?_
 refine W.loopI [0, 1, 7] [] (fun k0 => [(8, .d (.lf (.int .i64 (k0 : Int))))]) (fun _ => []) l.length (fun k0 => ∀ j, j < k0 → ∀ y, l[j]? = some y → p y = false) rfl (by simp) (by simp) fun k0 hk0 hi0 T hT => ?_
 simp at hT; subst hT
 apply Zr; intros
 refine Zo ?_; simp
 exact Zx
 refine Zv rfl ?_ ?_ <;> intro hb0 <;> try simp at hb0
 have hx := ixNext hb0 (by omega)
 refine W.skip ?_
 refine Zb ?_
 apply Zr; intros
 iterate 2 (refine Zo ?_ (by simp [hb0, hx] <;> omega); simp [hb0, hx])
 exact Zx
 apply Zr; intros
 iterate 5 (refine Zo ?_ (by simp [hb0, hx] <;> omega); simp [hb0, hx])
 refine WL.call [] _ _ _ rfl rfl (by simp) (g := g) (caps := [.pt (lv + 1) k []]) (by simp) (by simp) hg rfl (by simp [hb0, hx]) (by simp) (by simp [hb0, hx]) (hp l[k0] (gm hb0) (lv + 1) _ (by simpa using hpgD hcap)) rfl ?_; simp [hb0, hx]
 exact Zx
 refine Zc rfl ?_ ?_ <;> intro hb1 <;> try simp at hb1
 have hres := idxP_at hi0 hb0 hb1
 apply Zr; intros
 iterate 2 (refine Zo ?_ (by simp [hb0, hx] <;> omega); simp [hb0, hx])
 exact Zx
 refine W.ret (Zq ?_)
 simp [Tryz.f52, hres]
 refine W.skip ?_
 apply Zs; intros
 iterate 2 (refine Zo ?_ (by simp [hb0, hx] <;> omega); simp [hb0, hx])
 exact Zx
 refine ⟨hb0, noP_step hi0 hb0 hb1, Wz.to rfl rfl rfl ?_⟩
 simp
 have hkl : k0 = l.length := by omega
 subst hkl
 have hres := idxP_no hi0
 refine W.exit ?_
 apply Zr; intros
 refine Zo ?_; simp
 exact Zx
 refine W.ret (Zq ?_)
 simp [Tryz.f52, hres]
theorem sAt_d (s : ByteArray) (h : HP) : CS cx.P 38 [.d (.lf (.string s))] h (.d (TSExpr.dd true ⟨s, []⟩)) h := by
 refine Ze Tryz.func38 rfl 5 ?_
 apply Zr; intros
 refine Zo ?_; simp
 exact Zx
 apply Zr; intros
 iterate 3 (refine Zo ?_; simp)
 exact Zx
 refine W.ret (Zq ?_)
 simp [Tryz.f38]
theorem iAt_d (s : ByteArray) (h : HP) : CS cx.P 56 [.d (.lf (.string s))] h (.d (TSExpr.dd true ⟨s, []⟩)) h := by
 refine Ze Tryz.func56 rfl 5 ?_
 apply Zr; intros
 refine Zo ?_; simp
 exact Zx
 apply Zr; intros
 iterate 3 (refine Zo ?_; simp)
 exact Zx
 refine W.ret (Zq ?_)
 simp [Tryz.f56]
theorem iList_d (l : List TSExpr) (h : HP) : CS cx.P 64 [.d (.sl true sh61 (l.map (TSExpr.dd true)))] h (.d (TSExpr.dd true ⟨⟨#[]⟩, l⟩)) h := by
 refine Ze Tryz.func64 rfl 5 ?_
 apply Zr; intros
 refine Zo ?_; simp
 exact Zx
 apply Zr; intros
 refine Zm [3] ?_; simp
 iterate 2 (refine Zo ?_; simp)
 exact Zx
 refine W.ret (Zq ?_)
 simp [Tryz.f64]
theorem sList_d (l : List TSExpr) (hm : l.length ≤ 134217728) (h : HP) : CS cx.P 37 [.d (.sl true sh61 (l.map (TSExpr.dd true)))] h (.d (TSExpr.dd true ⟨⟨#[]⟩, l⟩)) h := by
 refine Ze Tryz.func37 rfl 7 ?_
 apply Zr; intros
 refine Zo ?_; simp
 exact Zx
 apply Zr; intros
 refine Zo ?_; simp
 refine Zm [4] ?_; simp
 iterate 3 (refine Zo ?_; simp)
 exact Zx
 refine W.ret (Zq ?_)
 simp [Tryz.f37]
def encD (x : TType) : DD := (encT x).dd true
theorem encD_eq (x : TType) : encD x = (encT x).dd true := rfl
attribute [simp] encD_eq
theorem enc_1 {x : TType} (h : x.fKind = 1) : encT x = ⟨⟨#[39]⟩ ++ x.fName, []⟩ := by cases x; simp only [encT]; exact if_pos h
theorem enc_4 {x : TType} (h : x.fKind = 4) : encT x = ⟨⟨#[]⟩, [⟨⟨#[100, 121, 110]⟩, []⟩, ⟨x.fName, []⟩]⟩ := by
 cases x; simp only at h; subst h; simp only [encT]; rfl
theorem enc_3 {x : TType} (h : x.fKind = 3) : encT x = ⟨⟨#[]⟩, ⟨⟨#[97, 115, 115, 111, 99]⟩, []⟩ :: ⟨x.fName, []⟩ :: x.fArgs.map encT⟩ := by
 rw [← encTs_eq]; cases x; simp only at h; subst h; simp only [encT]; rfl
theorem enc_n {x : TType} (h1 : ¬ x.fKind = 1) (h4 : ¬ x.fKind = 4) (h3 : ¬ x.fKind = 3) (h : x.fArgs = []) : encT x = ⟨x.fName, []⟩ := by
 cases x; simp only at h h1 h4 h3; simp only [encT, if_neg h1, if_neg h4, if_neg h3, if_pos h]
theorem enc_a {x : TType} (h1 : ¬ x.fKind = 1) (h4 : ¬ x.fKind = 4) (h3 : ¬ x.fKind = 3) (h : ¬ x.fArgs = []) : encT x = ⟨⟨#[]⟩, ⟨x.fName, []⟩ :: x.fArgs.map encT⟩ := by
 rw [← encTs_eq]; cases x; simp only at h h1 h4 h3; simp only [encT, if_neg h1, if_neg h4, if_neg h3, if_neg h]
theorem form_one {x : TType} (hf : tForm x = true) (h : x.fKind = 3) : x.fArgs.length = 1 := by
 obtain ⟨k, n, l⟩ := x
 simp only at h; subst h
 simp [tForm, hdOk] at hf
 exact hf.1.2
theorem form_enc3 {x : TType} (hf : tForm x = true) (h : x.fKind = 3) (h0 : 0 < x.fArgs.length) : encT x = ⟨⟨#[]⟩, [⟨⟨#[97, 115, 115, 111, 99]⟩, []⟩, ⟨x.fName, []⟩, encT x.fArgs[0]]⟩ := by
 have h1 := form_one hf h
 rw [enc_3 h]
 obtain ⟨k, n, l⟩ := x
 match l, h1 with
 | [y], _ => rfl
theorem form_args {x : TType} (hf : tForm x = true) : ∀ y ∈ x.fArgs, tForm y = true := by
 intro y hy
 have h := tForm_any x
 rw [hf] at h
 have h2 : (x.fArgs.any fun y => !tForm y) = false := by
  cases q : x.fArgs.any fun y => !tForm y with
  | false => rfl
  | true => rw [q] at h; simp at h
 have := List.any_eq_false.1 h2 y hy
 simpa using this
def encP (x : TType) : List TSExpr := if x.fKind = 3 then [⟨⟨#[97, 115, 115, 111, 99]⟩, []⟩] else []
def l5p (x : TType) : List DD := (encP x).map (TSExpr.dd true)
def l5k (x : TType) (k : Nat) : List DD := l5p x ++ [TSExpr.dd true ⟨x.fName, []⟩] ++ tk encD x.fArgs k
theorem l5p_len (x : TType) : (l5p x).length ≤ 1 := by unfold l5p encP; split <;> simp
theorem l5k_zero (x : TType) : l5p x ++ [TSExpr.dd true ⟨x.fName, []⟩] = l5k x 0 := by unfold l5k; rw [tk_zero, List.append_nil]
theorem l5k_snoc {x : TType} {k : Nat} (h : k < x.fArgs.length) : l5k x k ++ [(encT x.fArgs[k]).dd true] = l5k x (k + 1) := by unfold l5k; rw [List.append_assoc, ← encD_eq, tk_snoc h]
theorem l5k_len {x : TType} {k : Nat} (h : k ≤ x.fArgs.length) : (l5k x k).length ≤ k + 2 := by
 have := l5p_len x
 unfold l5k; rw [List.length_append, List.length_append, tk_len h]; simp; omega
theorem l5k_full {x : TType} (hf : tForm x = true) (h1 : ¬ x.fKind = 1) (h4 : ¬ x.fKind = 4) (h2 : x.fKind = 2 → ¬ x.fArgs = []) : encT x = ⟨⟨#[]⟩, encP x ++ [⟨x.fName, []⟩] ++ x.fArgs.map encT⟩ := by
 by_cases h3 : x.fKind = 3
 ·rw [enc_3 h3]; simp [encP, h3]
 ·have hk : x.fKind = 2 := by
   obtain ⟨k, n, l⟩ := x
   simp only at h1 h4 h3 ⊢
   simp [tForm, hdOk, h1, h4, h3] at hf
   exact hf.1.1
  rw [enc_a h1 h4 h3 (h2 hk)]; simp [encP, h3]
theorem l5k_dd (x : TType) : l5k x x.fArgs.length = (encP x ++ [(⟨x.fName, []⟩ : TSExpr)] ++ x.fArgs.map encT).map (TSExpr.dd true) := by
 unfold l5k l5p; rw [tk_full, List.map_append, List.map_append, List.map_map]; rfl
theorem l5p_yes {x : TType} (h : x.fKind = 3) : l5p x = [TSExpr.dd true ⟨⟨#[97, 115, 115, 111, 99]⟩, []⟩] := by unfold l5p encP; rw [if_pos h]; rfl
theorem l5p_no {x : TType} (h : ¬ x.fKind = 3) : l5p x = [] := by unfold l5p encP; rw [if_neg h]; rfl
theorem encodeTypes_a (l : List TType) (hz : l.length ≤ 134217728) (hc : ∀ y ∈ l, ∀ h, CS cx.P 111 [.d (y.dd false)] h (.d ((encT y).dd true)) h) (h : HP) : CS cx.P 110 [.d (.sl false sh88 (l.map (TType.dd false)))] h (.d (.sl true sh61 (l.map encD))) h := by
 refine Ze Tryz.func110 rfl 20 ?_
 apply Zr; intros
 refine Zo ?_; simp
 exact Zx
 apply Zr; intros
 iterate 2 (refine Zo ?_; simp)
 exact Zx
 refine W.seq ?_
 apply Zr; intros
 iterate 3 (refine Zo ?_; simp)
 exact Zx
 refine W.block ?_
 refine W.loopk [7, 8] [] (fun k0 => [(9, .d (.lf (.int .i64 (k0 : Int)))), (3, .d (.sl true sh61 (tk encD l k0)))]) (fun _ => []) l.length rfl (by simp) fun k0 hk0 T hT => ?_
 simp at hT; subst hT
 have hl := tk_len (f := encD) hk0
 apply Zr; intros
 refine Zo ?_ (by simp [hl] <;> omega); simp [hl]
 exact Zx
 refine Zv rfl ?_ ?_ <;> intro hb0 <;> try simp at hb0
 have hx := ixNext hb0 (by omega)
 refine W.skip ?_
 refine Zb ?_
 apply Zr; intros
 refine Zo ?_ (by simp [hl, hb0, hx] <;> omega); simp [hl, hb0, hx]
 refine Zm [12] ?_ (by simp [hl, hb0, hx] <;> omega); simp [hl, hb0, hx]
 iterate 2 (refine Zo ?_ (by simp [hl, hb0, hx] <;> omega); simp [hl, hb0, hx])
 exact Zx
 apply Zs; intros
 refine Zm [13] ?_ (by simp [hl, hb0, hx] <;> omega); simp [hl, hb0, hx]
 refine Zo ?_ (by simp [hl, hb0, hx] <;> omega); simp [hl, hb0, hx]
 refine Zl [] rfl Tryz.func111 (hc l[k0] (gm hb0) _) ?_ (by simp [hl, hb0, hx]); simp [hl, hb0, hx]
 iterate 3 (refine Zo ?_ (by simp [hl, hb0, hx] <;> omega); simp [hl, hb0, hx])
 exact Zx
 apply Zs; intros
 iterate 2 (refine Zo ?_ (by simp [hl, hb0, hx] <;> omega); simp [hl, hb0, hx])
 exact Zx
 refine ⟨hb0, Wz.to rfl rfl rfl ?_⟩
 have hs := tk_snoc (f := encD) hb0
 simp at hs
 simp [hs]
 have hkl : k0 = l.length := by omega
 subst hkl
 simp only [tk_full]
 refine W.exit ?_
 apply Zr; intros
 refine Zm [19] ?_ (by simp [hl] <;> omega); simp [hl]
 refine Zo ?_ (by simp [hl] <;> omega); simp [hl]
 exact Zx
 refine W.ret (Zq ?_)
 simp [Tryz.f110]
theorem encodeType_a (x : TType) (hz : x.sz ≤ 134217728) (hf : tForm x = true) (hc : ∀ y ∈ x.fArgs, ∀ h, CS cx.P 111 [.d (y.dd false)] h (.d ((encT y).dd true)) h) (h : HP) : CS cx.P 111 [.d (x.dd false)] h (.d ((encT x).dd true)) h := by
 have hz2 := x.sz_eq; unfold szs at hz2
 refine Ze Tryz.func111 rfl 48 ?_
 apply Zr; intros
 iterate 2 (refine Zo ?_; simp)
 exact Zx
 refine W.seq ?_
 apply Zr; intros
 iterate 2 (refine Zo ?_; simp)
 exact Zx
 refine W.block ?_
 apply Zr; intros
 iterate 2 (refine Zo ?_; simp)
 exact Zx
 refine Zc rfl ?_ ?_ <;> intro hb0 <;> try simp at hb0
 have hres := enc_1 hb0
 apply Zr; intros
 iterate 3 (refine Zo ?_; simp)
 refine Zl [] rfl Tryz.func56 (iAt_d (⟨#[39]⟩ ++ x.fName) _) ?_; simp
 refine Zo ?_; simp
 exact Zx
 refine W.ret (Zq ?_)
 simp [Tryz.f111, hres]
 apply Zr; intros
 iterate 2 (refine Zo ?_; simp)
 exact Zx
 refine Zc rfl ?_ ?_ <;> intro hb1 <;> try simp at hb1
 have hres := enc_4 hb1
 apply Yr rfl; intro K hK
 refine Yl [] rfl Tryz.func56 (iAt_d ⟨#[100, 121, 110]⟩) ?_; simp
 iterate 2 (refine Yo ?_; simp)
 refine Yl [] rfl Tryz.func56 (iAt_d x.fName) ?_; simp
 refine Yo ?_; simp
 refine Yl [17] rfl Tryz.func64 (iList_d [⟨⟨#[100, 121, 110]⟩, []⟩, ⟨x.fName, []⟩]) ?_; simp
 refine Yo ?_; simp
 exact DL.nil rfl hK
 refine W.ret (Zq ?_)
 simp [Tryz.f111, hres]
 apply Zr; intros
 iterate 2 (refine Zo ?_; simp)
 exact Zx
 refine Zc rfl ?_ ?_ <;> intro hb2 <;> try simp at hb2
 have h1 := form_one hf hb2
 have h0 : 0 < x.fArgs.length := by omega
 have hres := form_enc3 hf hb2 h0
 apply Yr rfl; intro K hK
 refine Yl [] rfl Tryz.func56 (iAt_d ⟨#[97, 115, 115, 111, 99]⟩) ?_ (by simp [h1]); simp [h1]
 iterate 2 (refine Yo ?_ (by simp [h1] <;> omega); simp [h1])
 refine Yl [] rfl Tryz.func56 (iAt_d x.fName) ?_ (by simp [h1]); simp [h1]
 iterate 4 (refine Yo ?_ (by simp [h1] <;> omega); simp [h1])
 refine Yl [] rfl Tryz.func111 (hc x.fArgs[0] (gm h0)) ?_ (by simp [h1]); simp [h1]
 refine Yo ?_ (by simp [h1] <;> omega); simp [h1]
 refine Yl [30] rfl Tryz.func64 (iList_d [⟨⟨#[97, 115, 115, 111, 99]⟩, []⟩, ⟨x.fName, []⟩, encT x.fArgs[0]]) ?_ (by simp [h1]); simp [h1]
 refine Yo ?_ (by simp [h1] <;> omega); simp [h1]
 exact DL.nil rfl hK
 refine W.ret (Zq ?_)
 simp [Tryz.f111, hres]
 refine W.skip ?_
 refine W.seq ?_
 apply Zr; intros
 iterate 4 (refine Zo ?_; simp)
 exact Zx
 refine Zc rfl ?_ ?_ <;> intro hb3 <;> try simp at hb3
 have hres := enc_n hb0 hb1 hb2 hb3
 apply Zr; intros
 iterate 2 (refine Zo ?_; simp)
 refine Zl [] rfl Tryz.func56 (iAt_d x.fName _) ?_; simp
 refine Zo ?_; simp
 exact Zx
 refine W.ret (Zq ?_)
 simp [Tryz.f111, hres]
 have hres := enc_a hb0 hb1 hb2 hb3
 refine W.skip ?_
 apply Yr rfl; intro K hK
 iterate 2 (refine Yo ?_; simp)
 refine Yl [] rfl Tryz.func56 (iAt_d x.fName) ?_; simp
 iterate 3 (refine Yo ?_; simp)
 refine Yl [] rfl Tryz.func110 (encodeTypes_a x.fArgs (by omega) hc) ?_; simp
 refine Yo ?_; simp
 refine Yl [46] rfl Tryz.func64 (iList_d (⟨x.fName, []⟩ :: x.fArgs.map encT)) ?_; simp
 refine Yo ?_; simp
 exact DL.nil rfl hK
 refine W.ret (Zq ?_)
 simp [Tryz.f111, hres]
theorem l5Sx_a (x : TType) (hz : x.sz ≤ 134217728) (hf : tForm x = true) (hc : ∀ y ∈ x.fArgs, ∀ h, CS cx.P 86 [.d (y.dd false)] h (.d ((encT y).dd true)) h) (h : HP) : CS cx.P 86 [.d (x.dd false)] h (.d ((encT x).dd true)) h := by
 have hz2 := x.sz_eq; unfold szs at hz2
 have hp := l5p_len x
 have hq := l5k_zero x; simp at hq
 refine Ze Tryz.func86 rfl 73 ?_
 apply Zr; intros
 iterate 2 (refine Zo ?_; simp)
 exact Zx
 refine Zb ?_
 apply Zr; intros
 iterate 4 (refine Zo ?_; simp)
 exact Zx
 refine Zc rfl ?_ ?_ <;> intro hb0 <;> try simp at hb0
 have hres := enc_1 hb0
 apply Zr; intros
 iterate 3 (refine Zo ?_; simp)
 refine Zl [] rfl Tryz.func38 (sAt_d (⟨#[39]⟩ ++ x.fName) _) ?_; simp
 refine Zo ?_; simp
 exact Zx
 refine W.ret (Zq ?_)
 simp [Tryz.f86, hres, hd]
 apply Zr; intros
 iterate 4 (refine Zo ?_; simp)
 exact Zx
 refine Zc rfl ?_ ?_ <;> intro hb1 <;> try simp at hb1
 have hres := enc_4 hb1
 apply Yr rfl; intro K hK
 refine Yl [] rfl Tryz.func38 (sAt_d ⟨#[100, 121, 110]⟩) ?_; simp
 iterate 2 (refine Yo ?_; simp)
 refine Yl [] rfl Tryz.func38 (sAt_d x.fName) ?_; simp
 refine Yo ?_; simp
 refine Yl [21] rfl Tryz.func37 (sList_d [⟨⟨#[100, 121, 110]⟩, []⟩, ⟨x.fName, []⟩] (by simp)) ?_; simp
 refine Yo ?_; simp
 exact DL.nil rfl hK
 refine W.ret (Zq ?_)
 simp [Tryz.f86, hres, hd]
 refine W.seq ?_
 refine W.regJ (D := _) [1, 2] [1, 2] [(23, .d (.lf (.bool (decide (x.fKind = 2) && decide (x.fArgs = [])))))] [] rfl (fun _ K hD hK => ?_) fun T hT => ?_
 iterate 4 (refine Zo ?_; simp)
 refine WL.split 27 _ rfl (fun g27 => ?_) fun g27 => ?_ <;> try simp at g27
 simp
 iterate 4 (refine Zg hD rfl rfl ?_; simp)
 iterate 2 (refine Zo ?_; simp)
 refine WL.nil (hK _ (Wz.to rfl rfl rfl ?_))
 simp [g27]
 simp
 iterate 4 (refine Zn hD rfl rfl ?_; simp)
 iterate 2 (refine Zo ?_; simp)
 refine WL.nil (hK _ (Wz.to rfl rfl rfl ?_))
 simp [g27]
 simp at hT; subst hT
 refine Zc rfl ?_ ?_ <;> intro hb2 <;> try simp at hb2
 have hres := enc_n hb0 hb1 (by omega) hb2.2
 apply Zr; intros
 iterate 2 (refine Zo ?_; simp)
 refine Zl [] rfl Tryz.func38 (sAt_d x.fName _) ?_; simp
 refine Zo ?_; simp
 exact Zx
 refine W.ret (Zq ?_)
 simp [Tryz.f86, hres, hd]
 refine W.skip ?_
 apply Zr; intros
 iterate 3 (refine Zo ?_; simp)
 exact Zx
 refine W.seq ?_
 apply Zr; intros
 iterate 3 (refine Zo ?_; simp)
 exact Zx
 refine W.join [1, 2, 3] [1, 2] [] [(3, .d (.st [.lf (.string ⟨#[]⟩), .sl true sh61 (l5p x)]))] ?_ fun T hT => ?_
 refine Zc rfl ?_ ?_ <;> intro hb3 <;> try simp at hb3
 apply W.regSD rfl; intro K hK
 refine Yo ?_; simp
 refine Ym [41] ?_; simp
 refine Yl [] rfl Tryz.func38 (sAt_d ⟨#[97, 115, 115, 111, 99]⟩) ?_; simp
 iterate 4 (refine Yo ?_; simp)
 exact DL.nil rfl hK
 refine Wz.to rfl rfl rfl ?_
 simp [l5p_yes, l5p_no, hb0, hb1, hb2, hb3]
 refine W.skip ?_
 refine Wz.to rfl rfl rfl ?_
 simp [l5p_yes, l5p_no, hb0, hb1, hb2, hb3]
 simp at hT; subst hT
 apply Yr rfl; intro K hK
 refine Yo ?_; simp
 refine Ym [47] ?_; simp
 iterate 2 (refine Yo ?_; simp)
 refine Yl [] rfl Tryz.func38 (sAt_d x.fName) ?_; simp
 iterate 4 (refine Yo ?_; simp)
 exact DL.nil rfl hK
 refine W.seq ?_
 apply Zr; intros
 refine Zo ?_; simp
 exact Zx
 refine W.block ?_
 refine W.loopk [1, 2, 3] [1, 2] (fun k0 => [(4, .d (.lf (.int .i64 (k0 : Int))))]) (fun k0 => [(3, .d (.st [.lf (.string ⟨#[]⟩), .sl true sh61 (l5k x k0)]))]) x.fArgs.length rfl (by simp [hq]) fun k0 hk0 T hT => ?_
 simp at hT; subst hT
 have hl := l5k_len hk0
 refine W.seq ?_
 apply Zr; intros
 iterate 5 (refine Zo ?_; simp)
 exact Zx
 refine Zc rfl ?_ ?_ <;> intro hb4 <;> try simp at hb4
 have hx := ixNext hb4 (by omega)
 refine W.skip ?_
 refine Zb ?_
 apply W.regSD rfl; intro K hK
 refine Yo ?_ (by simp [hb4, hx] <;> omega); simp [hb4, hx]
 refine Ym [62] ?_ (by simp [hb4, hx] <;> omega); simp [hb4, hx]
 iterate 5 (refine Yo ?_ (by simp [hb4, hx] <;> omega); simp [hb4, hx])
 refine Yl [] rfl Tryz.func86 (hc x.fArgs[k0] (gm hb4)) ?_ (by simp [hb4, hx]); simp [hb4, hx]
 iterate 4 (refine Yo ?_ (by simp [hb4, hx] <;> omega); simp [hb4, hx])
 exact DL.nil rfl hK
 apply Zs; intros
 iterate 3 (refine Zo ?_ (by simp [hb4, hx] <;> omega); simp [hb4, hx])
 exact Zx
 refine ⟨hb4, Wz.to rfl rfl rfl ?_⟩
 have hs := l5k_snoc hb4
 simp at hs
 simp [hs]
 have hkl : k0 = x.fArgs.length := by omega
 subst hkl
 have hres := l5k_full hf hb0 hb1 hb2
 have hd := l5k_dd x
 refine W.exit ?_
 apply Zr; intros
 refine Zm [72] ?_; simp
 refine Zo ?_; simp
 exact Zx
 refine W.ret (Zq ?_)
 simp [Tryz.f86, hres, hd]
theorem encodeType_d (x : TType) (hz : x.sz ≤ 134217728) (hf : tForm x = true) (h : HP) : CS cx.P 111 [.d (x.dd false)] h (.d ((encT x).dd true)) h := encodeType_a x hz hf (fun y hy h => encodeType_d y (by have h1 := szL_le TType.sz hy; have h2 := x.sz_eq; unfold szs at h2; omega) (form_args hf y hy) h) h
termination_by SizeOf.sizeOf x
decreasing_by have := List.sizeOf_lt_of_mem hy; have := x.lt_fArgs; omega
theorem l5Sx_d (x : TType) (hz : x.sz ≤ 134217728) (hf : tForm x = true) (h : HP) : CS cx.P 86 [.d (x.dd false)] h (.d ((encT x).dd true)) h := l5Sx_a x hz hf (fun y hy h => l5Sx_d y (by have h1 := szL_le TType.sz hy; have h2 := x.sz_eq; unfold szs at h2; omega) (form_args hf y hy) h) h
termination_by SizeOf.sizeOf x
decreasing_by have := List.sizeOf_lt_of_mem hy; have := x.lt_fArgs; omega
end Go.Proofs.YtkadbimpaplnmaaGreatDoor
