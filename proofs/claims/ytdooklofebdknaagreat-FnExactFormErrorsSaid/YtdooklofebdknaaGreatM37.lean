/- Walks by the Den rules; Contracts whose result is a view, or memory of the call's own; slices.Grow onto nothing. No condition but sizes. -/
import Derived.Test.YtdooklofebdknaaGreatM19
import Derived.Test.YtdooklofebdknaaGreatM20
import Derived.Test.YtdooklofebdknaaGreatM21
import Derived.Test.YtdooklofebdknaaGreatM24
import Derived.Test.YtdooklofebdknaaGreatM36
import Derived.Lib.AppendZeros
import Derived.Lib.SmallJoins
namespace Go.Proofs.YtdooklofebdknaaGreat
open Go.RowKit
set_option maxRecDepth 10000
set_option linter.unusedSimpArgs false
set_option maxHeartbeats 4000000
theorem namesClo_d (s : ByteArray) (hs : s.size ≤ 134217728) (h : HP) : CS cx.P 177 [.d (.lf (.string s))] h (.d (.lf (.bool (!isNm s)))) h := by
 refine Ze Tryz.func177 rfl 6 ?_
 apply Zr; intros
 refine Zo ?_; simp
 exact Zx
 apply Zr; intros
 refine Zo ?_; simp
 refine Zl [] rfl Tryz.func106 (iName_d s hs _) ?_; simp
 iterate 2 (refine Zo ?_; simp)
 exact Zx
 refine W.ret (Zq ?_)
 simp [Tryz.f177]
theorem areNames_d (l : List ByteArray) (hs : ∀ s ∈ l, s.size ≤ 134217728) (hm : l.length ≤ 134217728) (h : HP) : CS cx.P 107 [.d (.sl false .one (l.map dS))] h (.d (.lf (.bool (dst l && nms l)))) h := by
 refine Ze Tryz.func107 rfl 10 ?_
 apply Zr; intros
 refine Zo ?_; simp
 exact Zx
 refine W.seq ?_
 refine W.regJ0 (D := _) rfl fun _ K hD hK => ?_
 refine Zo ?_; simp
 refine Zl [] rfl Tryz.func49 (iDst_d l hm _) ?_; simp
 refine Zo ?_; simp
 refine WL.split 5 _ rfl (fun g5 => ?_) fun g5 => ?_ <;> try simp at g5
 simp
 refine Zg hD rfl rfl ?_; simp
 refine Zk hD rfl rfl [] rfl Tryz.func113 (ContainsFuncStr_d l (by omega) 177 Tryz.f177 _ ⟨Tryz.func177, rfl, rfl⟩ (fun s => !isNm s) (fun y hy h => namesClo_d y (hs y hy) h) _) ?_; simp
 refine Zg hD rfl rfl ?_; simp
 iterate 2 (refine Zo ?_; simp)
 refine WL.nil (hK _ ?_)
 refine W.ret (Zq ?_)
 simp [Tryz.f107, nms, g5]
 simp
 iterate 3 (refine Zn hD rfl rfl ?_; simp)
 iterate 2 (refine Zo ?_; simp)
 refine WL.nil (hK _ ?_)
 refine W.ret (Zq ?_)
 simp [Tryz.f107, nms, g5]
theorem amongClo_d (all : List ByteArray) (hm : all.length ≤ 4294967296) (s : ByteArray) (lv k : Nat) (h : HP) (hcap : hpg h lv k = some (.d (.sl false .one (all.map dS)))) : CS cx.P 114 [.d (.lf (.string s)), .pt lv k []] h (.d (.lf (.bool (!hasS all s)))) h := by
 have hc2 := hpgD hcap
 refine Ze Tryz.func114 rfl 8 ?_
 apply Zr; intros
 refine Zo ?_ (by simp [hc2] <;> omega); simp [hc2]
 exact Zx
 apply Zr; intros
 iterate 2 (refine Zo ?_ (by simp [hc2] <;> omega); simp [hc2])
 refine Zl [] rfl Tryz.func115 (Contains_d all s hm _) ?_ (by simp [hc2]); simp [hc2]
 iterate 2 (refine Zo ?_ (by simp [hc2] <;> omega); simp [hc2])
 exact Zx
 refine W.ret (Zq ?_)
 simp [Tryz.f114]
theorem areAmong_d (l all : List ByteArray) (hl : l.length ≤ 1073741824) (hm : all.length ≤ 4294967296) (h : HP) : CS cx.P 48 [.d (.sl false .one (l.map dS)), .d (.sl false .one (all.map dS))] h (.d (.lf (.bool (sub l all)))) h := by
 refine Ze Tryz.func48 rfl 9 ?_
 apply Zr; intros
 iterate 2 (refine Zo ?_; simp)
 exact Zx
 apply Zr; intros
 iterate 2 (refine Zo ?_; simp)
 refine Zl [] rfl Tryz.func113 (ContainsFuncStrC_d l hl 114 Tryz.f114 _ ⟨Tryz.func114, rfl, rfl⟩ (fun s => !hasS all s) 3 (.sl false .one (all.map dS)) 0 (fun y hy lv h hc => amongClo_d all hm y lv 3 h hc) _ (by simp)) ?_; simp
 iterate 2 (refine Zo ?_; simp)
 exact Zx
 refine W.ret (Zq ?_)
 simp [Tryz.f48, sub]
mutual
def ev {α : Type} (step : TType → α → α) : TType → α → α
 | ⟨k, n, l⟩, c => evs step l (step ⟨k, n, l⟩ c)
def evs {α : Type} (step : TType → α → α) : List TType → α → α
 | [], c => c
 | x :: l, c => evs step l (ev step x c)
end
theorem evs_app {α : Type} (step : TType → α → α) : ∀ (a b : List TType) (c : α), evs step (a ++ b) c = evs step b (evs step a c)
 | [], b, c => rfl
 | x :: a, b, c => by simp only [List.cons_append, evs, evs_app step a b]
def evK {α : Type} (step : TType → α → α) (x : TType) (c : α) (k : Nat) : α := evs step (x.fArgs.take k) (step x c)
theorem evK_zero {α : Type} (step : TType → α → α) (x : TType) (c : α) : evK step x c 0 = step x c := rfl
theorem evK_full {α : Type} (step : TType → α → α) (x : TType) (c : α) : evK step x c x.fArgs.length = ev step x c := by cases x; simp [evK, ev]
theorem evK_step {α : Type} {step : TType → α → α} {x : TType} {c : α} {k : Nat} (h : k < x.fArgs.length) : ev step x.fArgs[k] (evK step x c k) = evK step x c (k + 1) := by
 unfold evK
 rw [List.take_succ_eq_append_getElem h, evs_app]; rfl
mutual
theorem ev_sz {α : Type} {step : TType → α → α} {sz : α → Nat} (hsz : ∀ y c, sz (step y c) ≤ sz c + 1) : ∀ (x : TType) (c : α), sz (ev step x c) ≤ sz c + tSize x
 | ⟨k, n, l⟩, c => by
  have h1 := evs_sz hsz l (step ⟨k, n, l⟩ c)
  have h2 := hsz ⟨k, n, l⟩ c
  simp only [ev, tSize]; omega
theorem evs_sz {α : Type} {step : TType → α → α} {sz : α → Nat} (hsz : ∀ y c, sz (step y c) ≤ sz c + 1) : ∀ (l : List TType) (c : α), sz (evs step l c) ≤ sz c + tSizes l
 | [], c => by simp [evs, tSizes]
 | x :: l, c => by
  have h1 := evs_sz hsz l (ev step x c)
  have h2 := ev_sz hsz x c
  simp only [evs, tSizes]; omega
end
theorem evK_sz {α : Type} {step : TType → α → α} {sz : α → Nat} (hsz : ∀ y c, sz (step y c) ≤ sz c + 1) {x : TType} {c : α} {k : Nat} (h : k < x.fArgs.length) : sz (evK step x c k) + tSize x.fArgs[k] ≤ sz c + tSize x := by
 have h1 := evs_sz hsz (x.fArgs.take k) (step x c)
 have h2 := hsz x c
 have h3 := tSzk_nx h
 have h4 := tSzk_le x (k + 1)
 unfold tSzk at h3 h4
 unfold evK; omega
def Visit {α : Type} (g : Nat) (k : Nat) (val : α → DD) (step : TType → α → α) (sz : α → Nat) : Prop := ∀ y : TType, y.sz ≤ 134217728 → ∀ c : α, sz c < 1073741824 → ∀ (lv : Nat) (h : HP), hpg h lv k = some (.d (val c)) → CS cx.P g [.d (y.dd false), .pt lv k []] h (.tp []) (hps h lv k (some (.d (val (step y c)))))
def pjS (y : TType) (b : Bool) : Bool := b || decide (y.fKind = 3)
def tvS2 (y : TType) (o : List ByteArray) : List ByteArray := tvS o y.fKind y.fName
mutual
theorem ev_pj : ∀ (x : TType) (b : Bool), ev pjS x b = (b || hasPj x)
 | ⟨k, n, l⟩, b => by simp only [ev, evs_pj l, hasPj, pjS]; cases b <;> cases hasPjs l <;> simp
theorem evs_pj : ∀ (l : List TType) (b : Bool), evs pjS l b = (b || hasPjs l)
 | [], b => by simp [evs, hasPjs]
 | x :: l, b => by simp only [evs, hasPjs, ev_pj x, evs_pj l, Bool.or_assoc]
end
mutual
theorem ev_tv : ∀ (x : TType) (o : List ByteArray), ev tvS2 x o = tvs x o
 | ⟨k, n, l⟩, o => by simp only [ev, evs_tv l, tvs, tvS2]
theorem evs_tv : ∀ (l : List TType) (o : List ByteArray), evs tvS2 l o = tvss l o
 | [], o => rfl
 | x :: l, o => by simp only [evs, tvss, ev_tv x, evs_tv l]
end
theorem eachType_a {α : Type} (x : TType) (hz : x.sz ≤ 134217728) (g : Nat) (fn : Func) (body : Code) (hg : FnOk cx.P g fn body) (k : Nat) (val : α → DD) (step : TType → α → α) (sz : α → Nat) (hsz : ∀ y c, sz (step y c) ≤ sz c + 1) (hv : Visit g k val step sz) (c : α) (hc : sz c + tSize x ≤ 1073741824) (lv : Nat) (ih : ∀ y ∈ x.fArgs, ∀ c, sz c + tSize y ≤ 1073741824 → ∀ (lv : Nat) (h : HP), hpg h lv k = some (.d (val c)) → CS cx.P 255 [.d (y.dd false), .fn g [.pt lv k []]] h (.tp []) (hps h lv k (some (.d (val (ev step y c)))))) (h : HP) (hcap : hpg h lv k = some (.d (val c))) : CS cx.P 255 [.d (x.dd false), .fn g [.pt lv k []]] h (.tp []) (hps h lv k (some (.d (val (ev step x c))))) := by
 have hz2 := x.sz_eq; unfold szs at hz2
 have hc2 := hpgD hcap
 have hts : 0 < tSize x := by cases x; simp only [tSize]; omega
 refine Ze Tryz.func255 rfl 20 ?_
 apply Zr; intros
 refine Zo ?_; simp
 exact Zx
 apply Zr; intros
 iterate 2 (refine Zo ?_; simp)
 refine WL.call [] _ _ _ rfl rfl (by simp) (g := g) (caps := [.pt (lv + 1) k []]) (by simp) (by simp) hg rfl (by simp) (by simp) (by simp) (hv x hz c (by omega) (lv + 1) _ (by simpa using hc2)) rfl ?_; simp
 exact Zx
 apply Zr; intros
 iterate 4 (refine Zo ?_; simp)
 exact Zx
 refine W.block ?_
 refine W.loopT [1, 10, 11] [] (fun k0 => [(12, .d (.lf (.int .i64 (k0 : Int))))]) (fun _ => []) x.fArgs.length (fun k0 => hps h lv k (some (.d (val (evK step x c k0))))) (by simp [evK_zero]) (by simp) fun k0 hk0 T hT => ?_
 simp at hT; subst hT
 apply Zr; intros
 refine Zo ?_; simp
 exact Zx
 refine Zv rfl ?_ ?_ <;> intro hb0 <;> try simp at hb0
 have hx := ixNext hb0 (by omega)
 have hs := evK_step (step := step) (c := c) hb0
 refine W.skip ?_
 refine Zb ?_
 apply Zr; intros
 refine Zo ?_ (by simp [hb0, hx] <;> omega); simp [hb0, hx]
 refine Zm [15] ?_ (by simp [hb0, hx] <;> omega); simp [hb0, hx]
 iterate 2 (refine Zo ?_ (by simp [hb0, hx] <;> omega); simp [hb0, hx])
 exact Zx
 apply Zs; intros
 iterate 2 (refine Zo ?_ (by simp [hb0, hx] <;> omega); simp [hb0, hx])
 refine Zl [] rfl Tryz.func255 (ih x.fArgs[k0] (gm hb0) (evK step x c k0) (by have := evK_sz hsz (c := c) hb0; omega) (lv + 1) _ (by simpa using hpgD (hpg_self hcap))) ?_ (by simp [hb0, hx]); simp [hb0, hx]
 exact Zx
 apply Zs; intros
 iterate 2 (refine Zo ?_ (by simp [hb0, hx] <;> omega); simp [hb0, hx])
 exact Zx
 refine ⟨hb0, Wz.toT (by simp [hs]) rfl ?_⟩
 simp
 have hkl : k0 = x.fArgs.length := by omega
 subst hkl
 simp only [evK_full]
 refine W.exit ?_
 refine ⟨.inl rfl, ⟨_, rfl⟩, ?_⟩
 simp [Tryz.f255]
theorem eachType_d {α : Type} (x : TType) (hz : x.sz ≤ 134217728) (g : Nat) (fn : Func) (body : Code) (hg : FnOk cx.P g fn body) (k : Nat) (val : α → DD) (step : TType → α → α) (sz : α → Nat) (hsz : ∀ y c, sz (step y c) ≤ sz c + 1) (hv : Visit g k val step sz) (c : α) (hc : sz c + tSize x ≤ 1073741824) (lv : Nat) (h : HP) (hcap : hpg h lv k = some (.d (val c))) : CS cx.P 255 [.d (x.dd false), .fn g [.pt lv k []]] h (.tp []) (hps h lv k (some (.d (val (ev step x c))))) := eachType_a x hz g fn body hg k val step sz hsz hv c hc lv (fun y hy c hc lv h hcap => eachType_d y (by have h1 := szL_le TType.sz hy; have h2 := x.sz_eq; unfold szs at h2; omega) g fn body hg k val step sz hsz hv c hc lv h hcap) h hcap
termination_by SizeOf.sizeOf x
decreasing_by have := List.sizeOf_lt_of_mem hy; have := x.lt_fArgs; omega
theorem pjClo_d (y : TType) (b : Bool) (lv k : Nat) (h : HP) (hcap : hpg h lv k = some (.d (.lf (.bool (b))))) : CS cx.P 256 [.d (y.dd false), .pt lv k []] h (.tp []) (hps h lv k (some (.d (.lf (.bool (pjS y b)))))) := by
 have hc2 := hpgD hcap
 refine Ze Tryz.func256 rfl 9 ?_
 apply Zr; intros
 refine Zo ?_ (by simp [hc2] <;> omega); simp [hc2]
 exact Zx
 refine W.regJ0 (D := _) rfl fun _ K hD hK => ?_
 iterate 2 (refine Zo ?_ (by simp [hc2] <;> omega); simp [hc2])
 refine WL.split 4 _ rfl (fun g4 => ?_) fun g4 => ?_ <;> try simp at g4
 simp [hc2]
 iterate 3 (refine Zn hD rfl rfl ?_; simp [hc2])
 iterate 2 (refine Zo ?_ (by simp [hc2] <;> omega); simp [hc2])
 refine WL.nil (hK _ ?_)
 refine ⟨.inl rfl, ⟨_, congrArg (List.cons _) (by simp [pjS, g4])⟩, ?_⟩
 simp [Tryz.f256, g4]
 simp [hc2]
 iterate 3 (refine Zg hD rfl rfl ?_ (by simp [hc2] <;> omega); simp [hc2])
 iterate 2 (refine Zo ?_ (by simp [hc2] <;> omega); simp [hc2])
 refine WL.nil (hK _ ?_)
 refine ⟨.inl rfl, ⟨_, congrArg (List.cons _) (by simp [pjS, g4])⟩, ?_⟩
 simp [Tryz.f256, g4]
theorem iPj_d (x : TType) (hz : x.sz ≤ 134217728) (h : HP) : CS cx.P 182 [.d (x.dd false)] h (.d (.lf (.bool (hasPj x)))) h := by
 have hts := tSize_le x
 have he := ev_pj x false
 refine Ze Tryz.func182 rfl 8 ?_
 apply Zr; intros
 iterate 2 (refine Zo ?_; simp)
 exact Zx
 apply Zr; intros
 iterate 2 (refine Zo ?_; simp)
 exact Zx
 apply Zr; intros
 iterate 2 (refine Zo ?_; simp)
 refine Zl [] rfl Tryz.func255 (eachType_d x hz 256 Tryz.f256 _ ⟨Tryz.func256, rfl, rfl⟩ 3 (fun b => .lf (.bool b)) pjS (fun _ => 0) (fun _ _ => by omega) (fun y _ c _ lv h hc => pjClo_d y c lv 3 h hc) false (by omega) 0 _ (by simp)) ?_; simp
 exact Zx
 apply Zr; intros
 iterate 2 (refine Zo ?_; simp)
 exact Zx
 refine W.ret (Zq ?_)
 simp [Tryz.f182, he]
theorem tvClo_d (y : TType) (o : List ByteArray) (ho : o.length < 1073741824) (lv k : Nat) (h : HP) (hcap : hpg h lv k = some (.d (.sl true .one (o.map dS)))) : CS cx.P 324 [.d (y.dd false), .pt lv k []] h (.tp []) (hps h lv k (some (.d (.sl true .one ((tvS2 y o).map dS))))) := by
 have hc2 := hpgD hcap
 have hc3 : ∀ x : DD, hpg (upH (hps h lv k (some (.d x)))) lv k = some (.d x) := fun x => hpgD (hpg_self hcap)
 refine Ze Tryz.func324 rfl 18 ?_
 apply Zr; intros
 refine Zo ?_ (by simp [hc2, hc3] <;> omega); simp [hc2, hc3]
 exact Zx
 refine W.seq ?_
 refine W.regJ (D := _) [1, 2] [2] [(12, .d (.lf (.bool (decide (y.fKind = 1) && !hasS o y.fName))))] [] rfl (fun _ K hD hK => ?_) fun T hT => ?_
 iterate 4 (refine Zo ?_ (by simp [hc2, hc3] <;> omega); simp [hc2, hc3])
 refine WL.split 6 _ rfl (fun g6 => ?_) fun g6 => ?_ <;> try simp at g6
 simp [hc2, hc3]
 iterate 3 (refine Zg hD rfl rfl ?_ (by simp [hc2, hc3] <;> omega); simp [hc2, hc3])
 refine Zk hD rfl rfl [] rfl Tryz.func115 (Contains_d o y.fName (by omega) _) ?_ (by simp [hc2, hc3]); simp [hc2, hc3]
 refine Zg hD rfl rfl ?_ (by simp [hc2, hc3] <;> omega); simp [hc2, hc3]
 refine Zo ?_ (by simp [hc2, hc3] <;> omega); simp [hc2, hc3]
 refine WL.nil (hK _ (Wz.to rfl rfl rfl ?_))
 simp [g6]
 simp [hc2, hc3]
 iterate 5 (refine Zn hD rfl rfl ?_; simp [hc2, hc3])
 refine Zo ?_ (by simp [hc2, hc3] <;> omega); simp [hc2, hc3]
 refine WL.nil (hK _ (Wz.to rfl rfl rfl ?_))
 simp [g6]
 simp at hT; subst hT
 refine Zc rfl ?_ ?_ <;> intro hb0 <;> try simp at hb0
 have ht : tvS2 y o = o ++ [y.fName] := by unfold tvS2 tvS; rw [if_pos (by simpa using hb0)]
 have hsm : True := trivial
 apply Zs; intros
 refine Zm [13] ?_ (by simp [hc2, hc3] <;> omega); simp [hc2, hc3]
 iterate 5 (refine Zo ?_ (by simp [hc2, hc3] <;> omega); simp [hc2, hc3])
 exact Zx
 refine ⟨.inl rfl, ⟨_, congrArg (List.cons _) (by simp [ht, hsm])⟩, ?_⟩
 simp [Tryz.f324, ht]
 have ht : tvS2 y o = o := by unfold tvS2 tvS; rw [if_neg (by simpa using hb0)]
 have hsm := hps_same _ _ _ _ hcap
 refine W.skip ?_
 refine ⟨.inl rfl, ⟨_, congrArg (List.cons _) (by simp [ht, hsm])⟩, ?_⟩
 simp [Tryz.f324, ht]
def tvK2 (l : List TType) (k : Nat) : List ByteArray := tvss (l.take k) []
theorem tvK2_zero (l : List TType) : tvK2 l 0 = [] := rfl
theorem tvK2_full (l : List TType) : tvK2 l l.length = tvss l [] := by unfold tvK2; rw [List.take_length]
theorem tvK2_step {l : List TType} {k : Nat} (h : k < l.length) : tvs l[k] (tvK2 l k) = tvK2 l (k + 1) := by
 unfold tvK2
 rw [List.take_succ_eq_append_getElem h, tvss_app]; rfl
theorem tvK2_len {l : List TType} {k : Nat} (h : k < l.length) : (tvK2 l k).length + tSize l[k] ≤ tSizes l := by
 have h1 := tvss_len (l.take k) []
 have h2 := tSizes_app (l.take (k + 1)) (l.drop (k + 1))
 rw [List.take_append_drop, List.take_succ_eq_append_getElem h, tSizes_app] at h2
 simp only [tSizes, List.length_nil] at h1 h2
 unfold tvK2; omega
theorem variablesOf_d (l : List TType) (hl : l.length ≤ 134217728) (hs : ∀ y ∈ l, y.sz ≤ 134217728) (hsz : tSizes l ≤ 1073741824) (h : HP) : CS cx.P 257 [.d (.sl false sh65 (l.map (TType.dd false)))] h (.d (.sl true .one ((tvss l []).map dS))) h := by
 refine Ze Tryz.func257 rfl 18 ?_
 apply Zr; intros
 refine Zo ?_; simp
 exact Zx
 apply Zr; intros
 iterate 3 (refine Zo ?_; simp)
 exact Zx
 refine W.seq ?_
 apply Zr; intros
 iterate 3 (refine Zo ?_; simp)
 exact Zx
 refine W.block ?_
 refine W.loopk [3, 7, 8] [] (fun k0 => [(9, .d (.lf (.int .i64 (k0 : Int))))]) (fun k0 => [(3, .d (.sl true .one ((tvK2 l k0).map dS)))]) l.length rfl (by simp [tvK2_zero]) fun k0 hk0 T hT => ?_
 simp at hT; subst hT
 apply Zr; intros
 refine Zo ?_; simp
 exact Zx
 refine Zv rfl ?_ ?_ <;> intro hb0 <;> try simp at hb0
 have hx := ixNext hb0 (by omega)
 have hl2 := tvK2_len hb0
 refine W.skip ?_
 refine Zb ?_
 apply Zr; intros
 refine Zo ?_ (by simp [hb0, hx] <;> omega); simp [hb0, hx]
 refine Zm [12] ?_ (by simp [hb0, hx] <;> omega); simp [hb0, hx]
 iterate 2 (refine Zo ?_ (by simp [hb0, hx] <;> omega); simp [hb0, hx])
 exact Zx
 apply Zs; intros
 iterate 2 (refine Zo ?_ (by simp [hb0, hx] <;> omega); simp [hb0, hx])
 refine Zl [] rfl Tryz.func255 (eachType_d l[k0] (hs _ (gm hb0)) 324 Tryz.f324 _ ⟨Tryz.func324, rfl, rfl⟩ 3 (fun o => .sl true .one (o.map dS)) tvS2 List.length (fun y c => tvS_len c y.fKind y.fName) (fun y _ c hc lv h hcap => tvClo_d y c hc lv 3 h hcap) (tvK2 l k0) (by omega) 0 _ (by simp)) ?_ (by simp [hb0, hx]); simp [hb0, hx]
 exact Zx
 apply Zs; intros
 iterate 2 (refine Zo ?_ (by simp [hb0, hx] <;> omega); simp [hb0, hx])
 exact Zx
 refine ⟨hb0, Wz.to rfl rfl rfl ?_⟩
 have hs := tvK2_step hb0
 simp [ev_tv, hs]
 have hkl : k0 = l.length := by omega
 subst hkl
 have hres := tvK2_full l
 refine W.exit ?_
 apply Zr; intros
 refine Zm [17] ?_; simp
 refine Zo ?_; simp
 exact Zx
 refine W.ret (Zq ?_)
 simp [Tryz.f257, hres]
theorem iTv_d (x : TType) (hz : x.sz ≤ 134217728) (h : HP) : CS cx.P 183 [.d (x.dd false)] h (.d (.sl true .one ((tv x).map dS))) h := by
 have hts := tSize_le x
 refine Ze Tryz.func183 rfl 6 ?_
 apply Zr; intros
 iterate 2 (refine Zo ?_; simp)
 exact Zx
 apply Zr; intros
 refine Zm [3] ?_; simp
 refine Zo ?_; simp
 refine Zl [] rfl Tryz.func257 (variablesOf_d [x] (by simp) (by simpa using hz) (by simp [tSizes]; omega) _) ?_; simp
 refine Zo ?_; simp
 exact Zx
 refine W.ret (Zq ?_)
 simp [Tryz.f183, tv, tvss]
/-- a result may be read only -/
theorem CS.view {P : Program} {f : Nat} {args : List AV} {h h' : HP} {r : AV} (k : CS P f args h r h') : CS P f args h r.vw h' := by
 intro w F Θ own vs hR
 refine (k w F Θ own vs hR).mono fun e w' ⟨v, F', own', h1, h2, h3⟩ => ?_
 let own2 : Who → List Nat := fun
  | .t _ => []
  | .h lv k => own' (.h lv k)
  | .l lv k => own' (.l lv k)
 have hsub : ∀ x b, b ∈ own2 x → b ∈ own' x := fun x b hb => by
  cases x with
  | t t => simp [own2] at hb
  | h lv k => exact hb
  | l lv k => exact hb
 refine ⟨v, F', own2, h1, ⟨h2.n, h2.df, fun t => ?_, fun lv k q => h2.hn lv k q, fun lv k cn q => h2.hs lv k cn q, fun x => ?_, fun x z hxz b hb hz => h2.dj x z hxz b (hsub x b hb) (hsub z b hz), fun x b hb => h2.lt x b (hsub x b hb), h2.top, h2.gl⟩, ⟨h3.ks, fun x b hb => h3.fr x b (hsub x b hb), h3.ty⟩⟩
 ·have ht := h2.tm t
  simp only [retS] at ht ⊢
  by_cases h0 : t = 0
  ·rw [if_pos h0] at ht ⊢
   exact rv.view _ _ _ ht
  ·rw [if_neg h0] at ht ⊢
   simp only [rv]; rfl
 ·cases x with
  | t t => exact List.nodup_nil
  | h lv k => exact h2.nd _
  | l lv k => exact h2.nd _
/-- what hands back memory of its own and keeps all that was there -/
theorem CSP.ofFresh {c : Cx} {f : Nat} {args : List DD} {y : DD} {p : List Value → Prop} (hc : ∀ (w : World) (vs : List Value) (F : Nat → Nat), p vs → (∀ b, w.heap.size ≤ b → F b = 0) → Gl w F → vs.length = args.length → (∀ (i : Nat) (d : DD), args[i]? = some d → ∃ cs, rp w F d.vw cs [] ∧ vs[i]? = some (d.mk cs)) →
   Calls c.P f vs.toArray w fun e w' => ∃ cs bs, e = .returned (y.mk cs) ∧ rp w' F y cs bs ∧ bs.Nodup ∧ (∀ b ∈ bs, w.heap.size ≤ b ∧ b < w'.heap.size) ∧ Below w.heap.size w w') (h : HP) :
  CSP c.P f p (args.map .d) h (.d y) h := by
 intro w F Θ own vs hpv hR
 have hlen : vs.length = args.length := by have := hR.n; simpa [entS] using this
 refine (hc w vs F hpv hR.top hR.gl hlen (fun i d hd => ?_)).mono fun e w' ⟨cs, bs, h1, k1, k2, k3, h2⟩ => ?_
 ·have h1 := hR.tm i
  have hi : i < args.length := (List.getElem?_eq_some_iff.1 hd).1
  have e1 : (entS (args.map AV.d) h).tm i = .d d := by
   simp only [entS, List.getD_eq_getElem?_getD, List.getElem?_map, hd, Option.map_some, Option.getD_some]
  rw [e1] at h1
  have h3 := rv.view _ _ _ h1
  simp only [AV.vw, rv] at h3
  obtain ⟨cs, h4, h5⟩ := h3
  refine ⟨cs, h4, ?_⟩
  rw [DD.mk_vw] at h5
  have hi2 : i < vs.length := by omega
  simp only [Array.getD_eq_getD_getElem?, List.getElem?_toArray, List.getElem?_eq_getElem hi2, Option.getD_some] at h5
  rw [List.getElem?_eq_getElem hi2, h5]
 ·have hF : ∀ b, w.heap.size ≤ b → F b = 0 := hR.top
  have kp : ∀ bs : List Nat, (∀ b ∈ bs, b < w.heap.size) → Kp w F w' F bs := fun bs hbs => by
   refine ⟨fun b o ho => ?_, fun _ => Nat.le_refl _, fun b hb => ⟨h2.block b (hbs b hb), rfl⟩⟩
   have hb : b < w.heap.size := by
    rcases Nat.lt_or_ge b w.heap.size with q | q
    ·exact q
    ·have := hF b q; omega
   exact World.cell?_of_block (a := ⟨b, o, none⟩) (h2.block b hb)
  let own' : Who → List Nat := fun
   | .t 0 => bs
   | .t (_ + 1) => []
   | .h lv k => own (.h lv k)
   | .l lv k => own (.l lv k)
  have hsub : ∀ x b, b ∈ own' x → x = .t 0 ∧ b ∈ bs ∨ x ≠ .t 0 ∧ b ∈ own x := fun x b hb => by
   cases x with
   | t t =>
    cases t with
    | zero => exact .inl ⟨rfl, hb⟩
    | succ t => simp [own'] at hb
   | h lv k => exact .inr ⟨nofun, hb⟩
   | l lv k => exact .inr ⟨nofun, hb⟩
  refine ⟨y.mk cs, F, own', h1, ⟨rfl, rfl, fun t => ?_, fun lv k q => ?_, fun lv k cn q => ?_, fun x => ?_, fun x z hxz b hb hz => ?_, fun x b hb => ?_, fun b hb => hF b (Nat.le_trans h2.size hb), fun p hp => ⟨(hR.gl p hp).1, ((kp [] (by simp)).cell _ _ (hR.gl p hp).1).trans (hR.gl p hp).2⟩⟩, ⟨⟨h2.os, h2.tape, h2.output, h2.size, fun b o ho => (kp [] (by simp)).cell b o ho, fun _ => Nat.le_refl _, fun b hb _ => ⟨h2.block b hb, rfl⟩⟩, fun x b hb => ?_, fun _ _ => rfl⟩⟩
  ·cases t with
   | zero =>
    show rv w' F Θ (if (0 : Nat) = 0 then AV.d y else .un) _ _
    rw [if_pos rfl]
    simp only [rv]
    exact ⟨cs, k1, rfl⟩
   | succ t =>
    show rv w' F Θ (if t + 1 = 0 then AV.d y else .un) _ _
    rw [if_neg (by omega)]
    simp only [rv]; rfl
  ·exact hR.hn lv k q
  ·obtain ⟨b, s, cur, ty, g1, g2, g3, g4, g5, g6⟩ := hR.hs lv k cn q
   have hb : b < w.heap.size := hR.lt _ b (by rw [g2]; simp)
   exact ⟨b, s, cur, ty, g1, g2, g3, g4, (h2.block b hb).trans g5, rc.keep (fun _ _ _ e => e) _ _ _ g6 (kp _ fun x hx => hR.lt _ x hx)⟩
  ·cases x with
   | t t =>
    cases t with
    | zero => exact k2
    | succ t => exact List.nodup_nil
   | h lv k => exact hR.nd _
   | l lv k => exact hR.nd _
  ·rcases hsub x b hb with ⟨rfl, q⟩ | ⟨n, q⟩ <;> rcases hsub z b hz with ⟨rfl, p⟩ | ⟨m, p⟩
   ·exact hxz rfl
   ·have := (k3 b q).1; have := hR.lt _ b p; omega
   ·have := (k3 b p).1; have := hR.lt _ b q; omega
   ·exact hR.dj x z hxz b q p
  ·rcases hsub x b hb with ⟨rfl, q⟩ | ⟨n, q⟩
   ·exact (k3 b q).2
   ·exact Nat.lt_of_lt_of_le (hR.lt x b q) h2.size
  ·rcases hsub x b hb with ⟨rfl, q⟩ | ⟨n, q⟩
   ·exact .inr (k3 b q).1
   ·exact .inl ⟨x, q⟩
/-- what slices.Grow gives onto nothing -/
def Grown0 (w w' : World) (W : Nat) (e : Ending) : Prop := Below w.heap.size w w' ∧ (e = .returned (.slice none 0 0) ∨ ∃ cur t cap, e = .returned (.slice (some ⟨w.heap.size, 0, none⟩) 0 cap) ∧ w'.heap[w.heap.size]? = some (.cells cur t (0, 0)) ∧ cap * W ≤ cur.size ∧ cap ≤ maxLen)
theorem drew_below (w : World) (o : Obj) : Below w.heap.size w (w.drew.alloc o) := by
 refine ⟨rfl, rfl, rfl, ?_, ?_⟩
 ·show w.heap.size ≤ (w.heap.push o).size
  simp
 ·intro b hb
  show (w.heap.push o)[b]? = _
  rw [Array.getElem?_push_lt hb, Array.getElem?_eq_getElem hb]
set_option maxRecDepth 100000 in
set_option maxHeartbeats 1000000 in
theorem grow_S (n : Nat) (hn : n ≤ 1073741824) (w : World) : Calls Tryz.prog 426 #[.slice none 0 0, .int .i64 (n : Int)] w fun e w' => Grown0 w w' 1 e := by
 obtain ⟨i0, hi, hz0, hz1, hz2⟩ := info_parts (P := Tryz.prog) (e := 9) (by kernel_rfl : _ = some (some (Value.string ⟨#[]⟩), 1, 16))
 go_enter Tryz.func426, Tryz.ntmps426
 by_cases h0 : n = 0
 ·subst h0
  go_wp2
  go_ret
  exact ⟨Below.refl _ _, .inl rfl⟩
 ·have hr := Lib.run_append_nil_zeros (P := Tryz.prog) w 43 3 43 9 i0 (Value.string ⟨#[]⟩) .i64 .i64 Tryz.underlying43 Tryz.underlying3 hi hz0 n (by omega) (by rw [hz1]; omega) (by omega) (by rw [hz2]; omega)
  have hc1 := grownCap_ge w n 0 9
  have hc2 := grownCap_le_maxLen w n 0 9 (by unfold maxLen; omega)
  generalize hcp : grownCap w n 0 9 = cap at hr hc1 hc2
  have hsz : (Builtin.zeroCells (Value.string ⟨#[]⟩).cells n ++ Builtin.zeroCells (Value.string ⟨#[]⟩).cells (cap - n)).size = cap * 1 := by
   rw [Array.size_append, size_zeroCells, size_zeroCells]
   have : (Value.string ⟨#[]⟩).cells.size = 1 := by first | rfl | simp [Value.cells]
   rw [this]; omega
  generalize Builtin.zeroCells (Value.string ⟨#[]⟩).cells n ++ Builtin.zeroCells (Value.string ⟨#[]⟩).cells (cap - n) = arr at hr hsz
  have h1 : (0 : Int) < n := by omega
  go_wp2_with (at_builtin; refine Lib.wpList_append_run _ rfl _ _ _ _ rfl _ _ rfl rfl _ _ hr ?_)
  go_ret
  refine ⟨drew_below _ _, .inr ⟨arr, 9, cap, rfl, ?_, by omega, hc2⟩⟩
  exact heap_alloc_new w.drew (.cells arr 9)
set_option maxRecDepth 100000 in
set_option maxHeartbeats 1000000 in
def headNil (vs : List Value) : Prop := vs[0]? = some (.slice none 0 0)
theorem Grow_of {f : Nat} (s : Sh) (hp : 0 < s.w) (n : Nat) (hg : ∀ w, Calls cx.P f #[.slice none 0 0, .int .i64 (n : Int)] w fun e w' => Grown0 w w' s.w e) (h : HP) : CSP cx.P f headNil [.d (.sl true s []), .d (.lf (.int .i64 (n : Int)))] h (.d (.sl true s [])) h := by
 refine CSP.ofFresh (c := cx) (args := [.sl true s [], .lf (.int .i64 (n : Int))]) (fun w vs F hpv hF _ hl hv => ?_) h
 obtain ⟨c1, h1, e1⟩ := hv 1 _ rfl
 simp only [DD.vw, rp] at h1
 obtain ⟨rfl, -, -⟩ := h1
 match vs, hl, hpv, e1 with
 | [u, v], _, hpv, e1 =>
  have hu : u = .slice none 0 0 := by unfold headNil at hpv; simpa using hpv
  have hvv : v = .int .i64 (n : Int) := by simpa [DD.mk] using e1
  subst hu; subst hvv
  refine (hg w).mono fun e w' ⟨hB, k⟩ => ?_
  rcases k with rfl | ⟨cur, t, cap, rfl, k1, k2, k3⟩
  ·refine ⟨[.slice none 0 0], [], rfl, ?_, List.nodup_nil, by simp, hB⟩
   simp only [rp]
   exact ⟨by simp, hp, none, 0, rfl, Nat.le_refl _, by unfold maxLen; omega, fun _ => rfl, .inl ⟨trivial, trivial, fun _ => rfl⟩⟩
  ·have hlt : w.heap.size < w'.heap.size := (Array.getElem?_eq_some_iff.1 k1).1
   refine ⟨[.slice (some ⟨w.heap.size, 0, none⟩) 0 cap], [w.heap.size], rfl, ?_, by simp, by simpa using hlt, hB⟩
   have hF0 := hF w.heap.size (Nat.le_refl _)
   simp only [rp]
   refine ⟨by simp, hp, some ⟨w.heap.size, 0, none⟩, cap, rfl, Nat.zero_le _, k3, nofun, .inr ⟨w.heap.size, 0, [], rfl, by simp [rpE], by simp [hF0], .inr ⟨trivial, rfl, rfl, by simp [hF0], cur, t, k1, k2⟩⟩⟩
theorem GrowS_d (n : Nat) (hn : n ≤ 1073741824) (h : HP) : CSP cx.P 426 headNil [.d (.sl true .one []), .d (.lf (.int .i64 (n : Int)))] h (.d (.sl true .one [])) h := Grow_of .one (by decide) n (grow_S n hn) h
theorem CloneStr_d (l : List ByteArray) (hm : l.length ≤ 1073741824) (h : HP) : CS cx.P 386 [.d (.sl false .one (l.map (dS)))] h (.d (.sl true .one (l.map (dS)))) h := by
 refine Ze Tryz.func386 rfl 8 ?_
 apply Zr; intros
 refine Zo ?_; simp
 exact Zx
 refine W.seq ?_
 refine W.seq ?_
 refine W.regJ0 (D := _) rfl fun _ K hD hK => ?_
 refine Zo ?_; simp
 refine WL.opNil rfl 43 43 4 _ rfl rfl (by simp) Tryz.underlying43 rfl trivial fun b4 hnil4 => ?_; simp
 refine WL.nil (hK _ ?_)
 refine Zc rfl ?_ ?_ <;> intro hb0 <;> try simp at hb0
 have hl : l = [] := by have := hnil4 hb0; simpa using this
 subst hl
 apply Zr; intros
 refine Zo ?_; simp
 exact Zx
 refine W.ret (Zq ?_)
 simp [Tryz.f386]
 refine W.skip ?_
 apply Zr; intros
 refine Zo ?_; simp
 refine Zm [6] ?_; simp
 iterate 2 (refine Zo ?_; simp)
 exact Zx
 refine W.ret (Zq ?_)
 simp [Tryz.f386]
def lenK {α : Type} (L : List (List α)) (k : Nat) : Nat := ((L.take k).map List.length).sum
def catK {α : Type} (L : List (List α)) (k : Nat) : List α := (L.take k).flatten
theorem lenK_zero {α : Type} (L : List (List α)) : lenK L 0 = 0 := rfl
theorem catK_zero {α : Type} (L : List (List α)) : catK L 0 = [] := rfl
theorem lenK_nx {α : Type} {L : List (List α)} {k : Nat} (h : k < L.length) : lenK L (k + 1) = lenK L k + L[k].length := by
 unfold lenK; rw [List.take_succ_eq_append_getElem h]; simp only [List.map_append, List.map_cons, List.map_nil, List.sum_append, List.sum_cons, List.sum_nil, Nat.add_zero]
theorem catK_nx {α : Type} {L : List (List α)} {k : Nat} (h : k < L.length) : catK L k ++ L[k] = catK L (k + 1) := by
 unfold catK; rw [List.take_succ_eq_append_getElem h]; simp only [List.flatten_append, List.flatten_cons, List.flatten_nil, List.append_nil]
theorem catK_full {α : Type} (L : List (List α)) : catK L L.length = L.flatten := by unfold catK; rw [List.take_length]
theorem catK_len {α : Type} (L : List (List α)) (k : Nat) : (catK L k).length = lenK L k := by unfold catK lenK; rw [List.length_flatten]
theorem lenK_le {α : Type} (L : List (List α)) (k : Nat) : lenK L k ≤ lenK L L.length := by
 have h : L.flatten = (L.take k).flatten ++ (L.drop k).flatten := by rw [← List.flatten_append, List.take_append_drop]
 have h2 := congrArg List.length h
 rw [List.length_append, ← catK_full, catK_len] at h2
 have := catK_len L k
 unfold catK at this
 omega
def rwStr (l : List ByteArray) : DD := .sl false .one (l.map (dS))
theorem rwStr_eq (l : List ByteArray) : rwStr l = .sl false .one (l.map (dS)) := rfl
theorem vws_rwStr (L : List (List ByteArray)) : DD.vws (L.map rwStr) = L.map rwStr := vws_map (fun x => by simp [rwStr_eq]) L
attribute [simp] rwStr_eq vws_rwStr
theorem ConcatStr_d (L : List (List ByteArray)) (hm : L.length ≤ 134217728) (hs : lenK L L.length ≤ 1073741824) (h : HP) : CS cx.P 387 [.d (.sl false .one (L.map rwStr))] h (.d (.sl true .one (L.flatten.map (dS)))) h := by
 refine Ze Tryz.func387 rfl 36 ?_
 apply Zr; intros
 refine Zo ?_; simp
 exact Zx
 apply Zr; intros
 refine Zo ?_; simp
 exact Zx
 refine W.seq ?_
 apply Zr; intros
 iterate 3 (refine Zo ?_; simp)
 exact Zx
 refine W.block ?_
 refine W.loopk [0, 9, 10] [] (fun k0 => [(11, .d (.lf (.int .i64 (k0 : Int)))), (3, .d (.lf (.int .i64 ((lenK L k0 : Nat) : Int))))]) (fun _ => []) L.length rfl (by simp [lenK_zero]) fun k0 hk0 T hT => ?_
 simp at hT; subst hT
 apply Zr; intros
 refine Zo ?_; simp
 exact Zx
 refine Zv rfl ?_ ?_ <;> intro hb0 <;> try simp at hb0
 have hx := ixNext hb0 (by omega)
 have hnx := lenK_nx hb0
 have hle := lenK_le L (k0 + 1)
 have hw := i64w (n := (lenK L k0 : Int) + L[k0].length) (by omega) (by omega)
 have hw2 : (lenK L (k0 + 1) : Int) = (lenK L k0 : Int) + L[k0].length := by omega
 refine W.skip ?_
 refine Zb ?_
 apply Zr; intros
 iterate 3 (refine Zo ?_ (by simp [hb0, hx, hw, hw2] <;> omega); simp [hb0, hx, hw, hw2])
 exact Zx
 apply Zr; intros
 iterate 5 (refine Zo ?_ (by simp [hb0, hx, hw, hw2] <;> omega); simp [hb0, hx, hw, hw2])
 exact Zx
 apply Zr; intros
 iterate 2 (refine Zo ?_ (by simp [hb0, hx, hw, hw2] <;> omega); simp [hb0, hx, hw, hw2])
 exact Zx
 refine Zc rfl ?_ ?_ <;> intro hb1 <;> try simp at hb1
 exfalso; omega
 refine W.skip ?_
 apply Zs; intros
 iterate 2 (refine Zo ?_ (by simp [hb0, hx, hw, hw2] <;> omega); simp [hb0, hx, hw, hw2])
 exact Zx
 refine ⟨hb0, Wz.to rfl rfl rfl ?_⟩
 simp [hw2]
 have hkl : k0 = L.length := by omega
 subst hkl
 refine W.exit ?_
 apply Zr; intros
 refine Zo ?_; simp
 refine WL.callP [] _ _ _ rfl rfl (by simp) (g := 426) (caps := []) (by simp) (by simp) (fn := Tryz.f426) ⟨Tryz.func426, rfl, rfl⟩ rfl (by simp) (by simp) (by simp) (headNil) (fun _ _ => rfl) (GrowS_d (lenK L L.length) hs _) rfl ?_; simp
 refine Zo ?_; simp
 exact Zx
 refine W.seq ?_
 apply Zr; intros
 iterate 3 (refine Zo ?_; simp)
 exact Zx
 refine W.block ?_
 refine W.loopk [25, 26] [] (fun k1 => [(27, .d (.lf (.int .i64 (k1 : Int)))), (6, .d (.sl true .one ((catK L k1).map (dS))))]) (fun _ => []) L.length rfl (by simp [catK_zero]) fun k1 hk1 T hT => ?_
 simp at hT; subst hT
 apply Zr; intros
 refine Zo ?_; simp
 exact Zx
 refine Zv rfl ?_ ?_ <;> intro hb2 <;> try simp at hb2
 have hx1 := ixNext hb2 (by omega)
 have hnx1 := lenK_nx hb2
 have hle1 := lenK_le L (k1 + 1)
 have hcl := catK_len L k1
 refine W.skip ?_
 refine Zb ?_
 apply Zr; intros
 refine Zo ?_ (by simp [hb2, hx1] <;> omega); simp [hb2, hx1]
 refine Zm [30] ?_ (by simp [hb2, hx1] <;> omega); simp [hb2, hx1]
 refine Zo ?_ (by simp [hb2, hx1] <;> omega); simp [hb2, hx1]
 exact Zx
 apply Zs; intros
 refine Zm [31] ?_ (by simp [hb2, hx1] <;> omega); simp [hb2, hx1]
 refine Zm [32] ?_ (by simp [hb2, hx1] <;> omega); simp [hb2, hx1]
 iterate 2 (refine Zo ?_ (by simp [hb2, hx1] <;> omega); simp [hb2, hx1])
 exact Zx
 apply Zs; intros
 iterate 2 (refine Zo ?_ (by simp [hb2, hx1] <;> omega); simp [hb2, hx1])
 exact Zx
 refine ⟨hb2, Wz.to rfl rfl rfl ?_⟩
 have hs := catK_nx hb2
 rw [← hs]
 simp
 have hkl : k1 = L.length := by omega
 subst hkl
 simp only [catK_full]
 refine W.exit ?_
 apply Zr; intros
 refine Zm [35] ?_; simp
 refine Zo ?_; simp
 exact Zx
 refine W.ret (Zq ?_)
 simp [Tryz.f387]
end Go.Proofs.YtdooklofebdknaaGreat
