/- Walks by the Den rules. No condition but sizes. -/
import Derived.Test.YtdooklofebdknaaGreatM20
import Derived.Test.YtdooklofebdknaaGreatM28
import Derived.Test.YtdooklofebdknaaGreatM31
import Derived.Test.YtdooklofebdknaaGreatM33
import Derived.Test.YtdooklofebdknaaGreatM36
import Derived.Test.YtdooklofebdknaaGreatM40
import Derived.Test.YtdooklofebdknaaGreatM44
namespace Go.Proofs.YtdooklofebdknaaGreat
open Go.RowKit
set_option maxRecDepth 10000
set_option linter.unusedSimpArgs false
set_option maxHeartbeats 4000000
theorem pIxClo_d (x : TPackage) (s : ByteArray) (lv k : Nat) (h : HP) (hcap : hpg h lv k = some (.d (.lf (.string s)))) : CS cx.P 190 [.d ((x).dd false), .pt lv k []] h (.d (.lf (.bool (decide (x.fName = s))))) h := by
 have hc2 := hpgD hcap
 refine Ze Tryz.func190 rfl 8 ?_
 apply Zr; intros
 iterate 2 (refine Zo ?_ (by simp [hc2] <;> omega); simp [hc2])
 exact Zx
 apply Zr; intros
 iterate 5 (refine Zo ?_ (by simp [hc2] <;> omega); simp [hc2])
 exact Zx
 refine W.ret (Zq ?_)
 simp [Tryz.f190]
theorem iPIx_d (x : TProgram) (s : ByteArray) (hz : x.sz ≤ 134217728) (h : HP) : CS cx.P 116 [.d ((x).dd false), .d (.lf (.string s))] h (.d (.lf (.int .i64 (pIx x s)))) h := by
 have hz2 := x.sz_eq; unfold szs at hz2
 have hpi : idxP x.fPackages (fun q => decide (q.fName = s)) = pIx x s := rfl
 refine Ze Tryz.func116 rfl 9 ?_
 apply Zr; intros
 iterate 3 (refine Zo ?_; simp)
 exact Zx
 apply Zr; intros
 iterate 3 (refine Zo ?_; simp)
 refine Zl [] rfl Tryz.func189 (IndexFuncPackageC_d x.fPackages (by omega) 190 Tryz.f190 _ ⟨Tryz.func190, rfl, rfl⟩ (fun q => decide (q.fName = s)) 3 (.lf (.string s)) 0 (fun y hy lv h hc => pIxClo_d y s lv 3 h hc) _ (by simp)) ?_; simp
 refine Zo ?_; simp
 exact Zx
 refine W.ret (Zq ?_)
 simp [Tryz.f116, hpi]
def rowB (f : Nat → Bool) (n : Nat) : List DD := (List.range n).map fun j => .lf (.bool (f j))
theorem rowB_get {f : Nat → Bool} {n j : Nat} (h : j < n) : (rowB f n)[j]? = some (.lf (.bool (f j))) := by unfold rowB; simp [h]
theorem shs_rowB (f : Nat → Bool) (n : Nat) : DD.shs (rowB f n) = List.replicate n .one := by unfold rowB; rw [shs_map (s := .one) (fun _ => rfl)]; simp
theorem vws_rowB (f : Nat → Bool) (n : Nat) : DD.vws (rowB f n) = rowB f n := vws_map (fun _ => rfl) _
theorem rowB_len (f : Nat → Bool) (n : Nat) : (rowB f n).length = n := by unfold rowB; simp
attribute [simp] shs_rowB vws_rowB rowB_len
theorem rowB_set {f g : Nat → Bool} {n j : Nat} (h : ∀ i, g i = (f i || decide (i = j))) : (rowB f n).set j (.lf (.bool true)) = rowB g n := by
 unfold rowB
 refine List.ext_getElem? fun i => ?_
 rw [List.getElem?_set]
 simp only [List.getElem?_map, List.length_map, List.length_range]
 by_cases hij : j = i
 ·subst hij
  by_cases hj : j < n
  ·simp [hj, h]
  ·simp [hj]
 ·have e : g i = f i := by rw [h]; simp [Ne.symm hij]
  by_cases hi : i < n
  ·simp [hij, e, hi]
  ·simp [hij, hi]
theorem rowB_at {f : Nat → Bool} {n j : Nat} (h : j < (rowB f n).length) : (rowB f n)[j] = .lf (.bool (f j)) := by rw [List.getElem_eq_iff]; exact rowB_get (by simpa using h)
theorem shs_repB (n : Nat) (v : Value) : DD.shs (List.replicate n (.lf v)) = List.replicate n .one := by rw [DD.shs_eq, List.map_replicate]; rfl
attribute [simp] rowB_at shs_repB
theorem rowB_rep (n j : Nat) : (List.replicate n (DD.lf (.bool false))).set j (.lf (.bool true)) = rowB (fun i => decide (i = j)) n := by
 have e : List.replicate n (DD.lf (.bool false)) = rowB (fun _ => false) n := by
  unfold rowB
  refine List.ext_getElem? fun i => ?_
  simp only [List.getElem?_replicate, List.getElem?_map]
  by_cases hi : i < n <;> simp [hi]
 rw [e]; exact rowB_set fun i => by simp
def hitB (x : TProgram) (q : Nat) (s : ByteArray) : Bool := decide (0 ≤ pIx x s) && decide (pIx x s < (q : Int))
def snD (x : TProgram) (f : Nat → Bool) (L : List ByteArray) (q d : Nat) : Nat → Bool := fun j => f j || (L.take d).any fun s => hitB x q s && decide (pIx x s = (j : Int))
theorem snD_zero (x : TProgram) (f : Nat → Bool) (L : List ByteArray) (q : Nat) : snD x f L q 0 = f := by funext j; simp [snD]
theorem snD_no {x : TProgram} {f : Nat → Bool} {L : List ByteArray} {q d : Nat} (h : d < L.length) (hh : hitB x q L[d] = false) : snD x f L q (d + 1) = snD x f L q d := by
 funext j; unfold snD; rw [List.take_succ_eq_append_getElem h, List.any_append]; simp [hh]
theorem snD_yes {x : TProgram} {f : Nat → Bool} {L : List ByteArray} {q d j : Nat} (h : d < L.length) (hh : hitB x q L[d] = true) (hj : pIx x L[d] = (j : Int)) (n : Nat) : (rowB (snD x f L q d) n).set j (.lf (.bool true)) = rowB (snD x f L q (d + 1)) n :=
 rowB_set fun i => by
  unfold snD; rw [List.take_succ_eq_append_getElem h, List.any_append]
  simp only [List.any_cons, List.any_nil, Bool.or_false, hh, Bool.true_and, hj, Bool.or_assoc]
  congr 2
  by_cases hi : j = i
  ·simp [hi]
  ·simp [hi, Ne.symm hi] <;> omega
def sn (x : TProgram) (n : Nat) : Nat → Nat → Bool
 | 0 => fun j => decide (j = n)
 | r + 1 => if sn x n r (n - r) = true then snD x (sn x n r) (depsAt x (n - r)) (n - r) (depsAt x (n - r)).length else sn x n r
theorem sn_zero (x : TProgram) (n : Nat) : sn x n 0 = fun j => decide (j = n) := rfl
def tI (n k : Nat) : Int := (n : Int) - k
theorem tI_zero (n : Nat) : tI n 0 = n := by unfold tI; simp
def vf (x : TProgram) (n k : Nat) : List Nat := (List.range k).filter (sn x n (n + 1))
theorem vf_zero (x : TProgram) (n : Nat) : vf x n 0 = [] := rfl
theorem vf_len (x : TProgram) (n k : Nat) : (vf x n k).length ≤ k := by have := List.length_filter_le (sn x n (n + 1)) (List.range k); simpa [vf] using this
theorem vf_yes {x : TProgram} {n k : Nat} (h : sn x n (n + 1) k = true) : (vf x n k).map dN ++ [.lf (.int .i64 (k : Int))] = (vf x n (k + 1)).map dN := by
 unfold vf; rw [List.range_succ, List.filter_append, List.map_append]; simp [h]
theorem vf_no {x : TProgram} {n k : Nat} (h : sn x n (n + 1) k = false) : vf x n (k + 1) = vf x n k := by
 unfold vf; rw [List.range_succ, List.filter_append]; simp [h]
theorem sn_mono {x : TProgram} {n r j : Nat} (h : sn x n r j = true) : sn x n (r + 1) j = true := by
 unfold sn
 split
 ·unfold snD; simp [h]
 ·exact h
theorem sn_le {x : TProgram} {n r j : Nat} (h : sn x n r j = true) : ∀ d, sn x n (r + d) j = true
 | 0 => h
 | d + 1 => sn_mono (sn_le h d)
theorem sn_mem {x : TProgram} {f : Nat → Bool} {L : List ByteArray} {q j : Nat} : snD x f L q L.length j = true ↔ f j = true ∨ ∃ s ∈ L, hitB x q s = true ∧ pIx x s = (j : Int) := by
 unfold snD; rw [List.take_length]; simp
theorem sn_src {x : TProgram} {n : Nat} : ∀ (r j : Nat), r ≤ n + 1 → sn x n r j = true → j = n ∨ ∃ r', r' < r ∧ sn x n r' (n - r') = true ∧ ∃ s ∈ depsAt x (n - r'), hitB x (n - r') s = true ∧ pIx x s = (j : Int)
 | 0, j, _, h => .inl (by simpa [sn] using h)
 | r + 1, j, hr, h => by
  unfold sn at h
  split at h
  ·rename_i hq
   rcases sn_mem.1 h with h1 | ⟨s, h1, h2, h3⟩
   ·rcases sn_src r j (by omega) h1 with e | ⟨r', e, e2⟩
    ·exact .inl e
    ·exact .inr ⟨r', by omega, e2⟩
   ·exact .inr ⟨r, by omega, hq, s, h1, h2, h3⟩
  ·rcases sn_src r j (by omega) h with e | ⟨r', e, e2⟩
   ·exact .inl e
   ·exact .inr ⟨r', by omega, e2⟩
/-- what has been reached is reached before its own round -/
theorem sn_early {x : TProgram} {n j : Nat} (hj : j ≤ n) (h : sn x n (n + 1) j = true) : sn x n (n - j) j = true := by
 rcases sn_src (n + 1) j (Nat.le_refl _) h with e | ⟨r', h1, h2, s, h3, h4, h5⟩
 ·subst e; simp [sn]
 ·have hlt : j < n - r' := by
   unfold hitB at h4
   simp at h4
   omega
  have h6 : sn x n (r' + 1) j = true := by
   unfold sn
   rw [if_pos h2]
   exact sn_mem.2 (.inr ⟨s, h3, h4, h5⟩)
  have := sn_le h6 (n - j - (r' + 1))
  rwa [show r' + 1 + (n - j - (r' + 1)) = n - j by omega] at this
theorem sn_edge {x : TProgram} {n p j : Nat} (hp : p ≤ n) (h : sn x n (n + 1) p = true) {s : ByteArray} (hs : s ∈ depsAt x p) (hh : hitB x p s = true) (hj : pIx x s = (j : Int)) : sn x n (n + 1) j = true := by
 have h1 := sn_early hp h
 have h2 : sn x n (n - p + 1) j = true := by
  unfold sn
  have e : n - (n - p) = p := by omega
  rw [e, if_pos h1]
  exact sn_mem.2 (.inr ⟨s, hs, hh, hj⟩)
 have := sn_le h2 p
 rwa [show n - p + 1 + p = n + 1 by omega] at this
def inV (x : TProgram) (p j : Nat) : Prop := j ∈ (visA x (p + 1)).getD p []
theorem inV_iff {x : TProgram} {p j : Nat} : inV x p j ↔ j = p ∨ (j < p ∧ ∃ s ∈ depsAt x p, ∃ q : Nat, pIx x s = (q : Int) ∧ q < p ∧ inV x q j) := by
 unfold inV
 rw [List.getD_eq_getElem?_getD, visA_at x (Nat.lt_succ_self p)]
 simp only [Option.getD_some, List.mem_append, List.mem_singleton]
 unfold visO
 rw [List.mem_filter, List.mem_range, List.any_eq_true]
 have key : ∀ s, hit x (visA x p) p j s = true ↔ ∃ q : Nat, pIx x s = (q : Int) ∧ q < p ∧ j ∈ (visA x (q + 1)).getD q [] := by
  intro s
  unfold hit hasK
  constructor
  ·intro h
   simp only [Bool.and_eq_true, decide_eq_true_eq] at h
   obtain ⟨⟨h1, h2⟩, h3⟩ := h
   have hq : (pIx x s).toNat < p := by omega
   refine ⟨(pIx x s).toNat, by omega, hq, ?_⟩
   rw [List.getD_eq_getElem?_getD, visA_at x hq] at h3
   rw [List.getD_eq_getElem?_getD, visA_at x (Nat.lt_succ_self _)]
   exact h3
  ·rintro ⟨q, h1, h2, h3⟩
   rw [h1]
   simp only [Bool.and_eq_true, decide_eq_true_eq, Int.toNat_natCast]
   refine ⟨⟨by omega, by omega⟩, ?_⟩
   rw [List.getD_eq_getElem?_getD, visA_at x h2]
   rw [List.getD_eq_getElem?_getD, visA_at x (Nat.lt_succ_self _)] at h3
   exact h3
 constructor
 ·rintro (⟨h1, s, h2, h3⟩ | h)
  ·exact .inr ⟨h1, s, h2, (key s).1 h3⟩
  ·exact .inl h
 ·rintro (h | ⟨h1, s, h2, h3⟩)
  ·exact .inr h
  ·exact .inl ⟨h1, s, h2, (key s).2 h3⟩
theorem inV_le {x : TProgram} {p j : Nat} (h : inV x p j) : j ≤ p := by
 rcases inV_iff.1 h with e | ⟨e, -⟩ <;> omega
theorem inV_edge {x : TProgram} : ∀ (p q j : Nat), inV x p q → ∀ s ∈ depsAt x q, pIx x s = (j : Int) → j < q → inV x p j := by
 intro p
 induction p using Nat.strongRecOn with
 | ind p ih =>
  intro q j h s hs hj hlt
  rcases inV_iff.1 h with e | ⟨h1, t, h2, r, h3, h4, h5⟩
  ·subst e
   exact inV_iff.2 (.inr ⟨hlt, s, hs, j, hj, hlt, inV_iff.2 (.inl rfl)⟩)
  ·have h6 := ih r h4 q j h5 s hs hj hlt
   exact inV_iff.2 (.inr ⟨by have := inV_le h6; omega, t, h2, r, h3, h4, h6⟩)
theorem sn_of_inV {x : TProgram} {n : Nat} : ∀ (p j : Nat), p ≤ n → sn x n (n + 1) p = true → inV x p j → sn x n (n + 1) j = true := by
 intro p
 induction p using Nat.strongRecOn with
 | ind p ih =>
  intro j hp h hv
  rcases inV_iff.1 hv with e | ⟨h1, s, h2, q, h3, h4, h5⟩
  ·subst e; exact h
  ·have h6 : sn x n (n + 1) q = true := sn_edge hp h h2 (by unfold hitB; rw [h3]; simp; omega) h3
   exact ih q h4 j (by omega) h6 h5
theorem inV_of_sn {x : TProgram} {n : Nat} : ∀ (m j : Nat), n - j ≤ m → j ≤ n → sn x n (n + 1) j = true → inV x n j
 | 0, j, h, hj, _ => inV_iff.2 (.inl (by omega))
 | m + 1, j, h, hj, hs => by
  rcases sn_src (n + 1) j (Nat.le_refl _) hs with e | ⟨r', h1, h2, s, h3, h4, h5⟩
  ·exact inV_iff.2 (.inl e)
  ·have hlt : j < n - r' := by unfold hitB at h4; simp at h4; omega
   have h6 := sn_le h2 (n + 1 - r')
   rw [show r' + (n + 1 - r') = n + 1 by omega] at h6
   exact inV_edge n (n - r') j (inV_of_sn m (n - r') (by omega) (by omega) h6) s h3 h5 hlt
theorem vf_vis {x : TProgram} {n : Nat} (h : n < x.fPackages.length) : vf x n (n + 1) = vis x (n : Int) := by
 have e : vis x (n : Int) = visO x (visA x n) n n ++ [n] := by
  unfold vis
  rw [if_pos (by omega), Int.toNat_natCast, List.getD_eq_getElem?_getD, visA_at x (Nat.lt_succ_self n)]; rfl
 have hv : ∀ j, inV x n j ↔ j ∈ visO x (visA x n) n n ++ [n] := fun j => by
  unfold inV; rw [List.getD_eq_getElem?_getD, visA_at x (Nat.lt_succ_self n)]; rfl
 rw [e]
 have hn : sn x n (n + 1) n = true := by have := sn_le (x := x) (n := n) (r := 0) (j := n) (by simp [sn]) (n + 1); simpa using this
 unfold vf visO
 rw [List.range_succ, List.filter_append]
 simp only [List.filter_cons, hn, if_true, List.filter_nil]
 congr 1
 refine List.filter_congr fun j hj => ?_
 have hjn : j < n := by simpa using hj
 have h2 := hv j
 unfold visO at h2
 rw [List.mem_append, List.mem_filter, List.mem_range, List.mem_singleton] at h2
 rw [Bool.eq_iff_iff]
 constructor
 ·intro hs
  rcases h2.1 (inV_of_sn (n - j) j (Nat.le_refl _) (by omega) hs) with q | q
  ·exact q.2
  ·omega
 ·intro hs
  exact sn_of_inV n j (Nat.le_refl _) hn (h2.2 (.inl ⟨hjn, hs⟩))
theorem iVis_d (x : TProgram) (i : Int) (hz : x.sz ≤ 134217728) (h : HP) : CS cx.P 50 [.d ((x).dd false), .d (.lf (.int .i64 (i)))] h (.d (.sl true .one ((vis x i).map dN))) h := by
 have hz2 := x.sz_eq; unfold szs at hz2
 refine Ze Tryz.func50 rfl 78 ?_
 apply Zr; intros
 iterate 2 (refine Zo ?_; simp)
 exact Zx
 refine W.seq ?_
 refine W.seq ?_
 refine W.regJ (D := _) [1, 2] [2] [(21, .d (.lf (.bool (!decide (0 ≤ i ∧ i < (x.fPackages.length : Int))))))] [] rfl (fun _ K hD hK => ?_) fun T hT => ?_
 iterate 3 (refine Zo ?_; simp)
 refine WL.split 15 _ rfl (fun g15 => ?_) fun g15 => ?_ <;> try simp at g15
 simp
 iterate 5 (refine Zn hD rfl rfl ?_; simp)
 refine Zo ?_; simp
 refine WL.nil (hK _ (Wz.to rfl rfl rfl ?_))
 simp [g15] <;> first | omega | (intros; omega) | grind
 simp
 iterate 5 (refine Zg hD rfl rfl ?_; simp)
 refine Zo ?_; simp
 refine WL.nil (hK _ (Wz.to rfl rfl rfl ?_))
 simp [g15] <;> first | omega | (intros; omega) | grind
 simp at hT; subst hT
 refine Zc rfl ?_ ?_ <;> intro hb0 <;> try simp at hb0
 have hno : ¬ (0 ≤ i ∧ i < (x.fPackages.length : Int)) := by omega
 have hres : vis x i = [] := by unfold vis; exact if_neg hno
 apply Zr; intros
 refine Zo ?_; simp
 exact Zx
 refine W.ret (Zq ?_)
 simp [Tryz.f50, hres]
 have hin : 0 ≤ i ∧ i < (x.fPackages.length : Int) := by omega
 obtain ⟨n, hn⟩ : ∃ n : Nat, i = (n : Int) := ⟨_, (Int.toNat_of_nonneg hin.1).symm⟩
 subst hn
 have hnl : n < x.fPackages.length := by omega
 have hwn := i64w (n := (n : Int) + 1) (by omega) (by omega)
 have htn : ((n : Int) + 1).toNat = n + 1 := by omega
 have hi0 : n < n + 1 := by omega
 refine W.skip ?_
 apply Zr; intros
 iterate 4 (refine Zo ?_ (by simp [hnl, hwn, htn, hi0] <;> omega); simp [hnl, hwn, htn, hi0])
 exact Zx
 apply Zr; intros
 iterate 4 (refine Zo ?_ (by simp [hnl, hwn, htn, hi0] <;> omega); simp [hnl, hwn, htn, hi0])
 exact Zx
 refine W.seq ?_
 apply Zr; intros
 iterate 2 (refine Zo ?_ (by simp [hnl, hwn, htn, hi0] <;> omega); simp [hnl, hwn, htn, hi0])
 exact Zx
 refine W.block ?_
 refine W.loopk [2, 5] [2] (fun k0 => [(6, .d (.lf (.int .i64 (tI n k0))))]) (fun k0 => [(24, .d (.st (rowB (sn x n k0) (n + 1))))]) (n + 1) rfl (by simp [tI_zero, rowB_rep, sn_zero]) fun k0 hk0 T hT => ?_
 simp at hT; subst hT
 refine W.seq ?_
 apply Zr; intros
 iterate 2 (refine Zo ?_ (by simp [hnl, hwn, htn, hi0] <;> omega); simp [hnl, hwn, htn, hi0])
 exact Zx
 refine Zc rfl ?_ ?_ <;> intro hb1 <;> try simp at hb1
 have hlt0 : k0 < n + 1 := by unfold tI at hb1; omega
 obtain ⟨q, hqn⟩ : ∃ q : Nat, q = n - k0 := ⟨_, rfl⟩
 have hq : tI n k0 = (q : Int) := by unfold tI; omega
 have hql : q < x.fPackages.length := by omega
 have hqn1 : q < n + 1 := by omega
 have hw1 : IntKind.i64.wrap ((q : Int) - 1) = tI n (k0 + 1) := by rw [i64w (by omega) (by omega)]; unfold tI; omega
 have hrd := rowB_get (f := sn x n k0) hqn1
 have hdp := depsAt_eq hql
 have hdy := szL_le TPackage.sz (gm hql)
 have hdy2 := x.fPackages[q].sz_eq; unfold szs at hdy2
 refine W.skip ?_
 refine Zb ?_
 refine W.seq ?_
 apply Zr; intros
 iterate 5 (refine Zo ?_ (by simp [hnl, hwn, htn, hi0, hq, hql, hqn1, hw1, hrd] <;> omega); simp [hnl, hwn, htn, hi0, hq, hql, hqn1, hw1, hrd])
 exact Zx
 refine Zc rfl ?_ ?_ <;> intro hb2 <;> try simp at hb2
 have hst : sn x n (k0 + 1) = sn x n k0 := by rw [sn, ← hqn, if_neg (by simp [hb2])]
 refine W.exit ?_
 apply Zs; intros
 iterate 3 (refine Zo ?_ (by simp [hnl, hwn, htn, hi0, hq, hql, hqn1, hw1, hrd] <;> omega); simp [hnl, hwn, htn, hi0, hq, hql, hqn1, hw1, hrd])
 exact Zx
 refine ⟨hlt0, Wz.to rfl rfl rfl ?_⟩
 simp [hst]
 have hst : snD x (sn x n k0) x.fPackages[q].fDeps q x.fPackages[q].fDeps.length = sn x n (k0 + 1) := by rw [sn, ← hqn, if_pos (by simpa using hb2), hdp]
 refine W.skip ?_
 apply Zr; intros
 iterate 8 (refine Zo ?_ (by simp [hnl, hwn, htn, hi0, hq, hql, hqn1, hw1, hrd] <;> omega); simp [hnl, hwn, htn, hi0, hq, hql, hqn1, hw1, hrd])
 exact Zx
 refine W.block ?_
 refine W.loopk [2, 5, 6, 43, 44] [2] (fun k1 => [(45, .d (.lf (.int .i64 (k1 : Int))))]) (fun k1 => [(24, .d (.st (rowB (snD x (sn x n k0) x.fPackages[q].fDeps q k1) (n + 1))))]) x.fPackages[q].fDeps.length rfl (by simp [snD_zero]) fun k1 hk1 T hT => ?_
 simp at hT; subst hT
 apply Zr; intros
 refine Zo ?_ (by simp [hnl, hwn, htn, hi0, hq, hql, hqn1, hw1, hrd] <;> omega); simp [hnl, hwn, htn, hi0, hq, hql, hqn1, hw1, hrd]
 exact Zx
 refine Zv rfl ?_ ?_ <;> intro hb3 <;> try simp at hb3
 have hx1 := ixNext hb3 (by omega)
 refine W.skip ?_
 refine Zb ?_
 apply Zr; intros
 iterate 3 (refine Zo ?_ (by simp [hnl, hwn, htn, hi0, hq, hql, hqn1, hw1, hrd, hb3, hx1] <;> omega); simp [hnl, hwn, htn, hi0, hq, hql, hqn1, hw1, hrd, hb3, hx1])
 exact Zx
 apply Zr; intros
 iterate 2 (refine Zo ?_ (by simp [hnl, hwn, htn, hi0, hq, hql, hqn1, hw1, hrd, hb3, hx1] <;> omega); simp [hnl, hwn, htn, hi0, hq, hql, hqn1, hw1, hrd, hb3, hx1])
 refine Zl [] rfl Tryz.func116 (iPIx_d x x.fPackages[q].fDeps[k1] hz _) ?_ (by simp [hnl, hwn, htn, hi0, hq, hql, hqn1, hw1, hrd, hb3, hx1]); simp [hnl, hwn, htn, hi0, hq, hql, hqn1, hw1, hrd, hb3, hx1]
 refine Zo ?_ (by simp [hnl, hwn, htn, hi0, hq, hql, hqn1, hw1, hrd, hb3, hx1] <;> omega); simp [hnl, hwn, htn, hi0, hq, hql, hqn1, hw1, hrd, hb3, hx1]
 exact Zx
 refine W.seq ?_
 refine W.regJ (D := _) [2, 5, 6, 9, 43, 44, 45] [2, 24] [(58, .d (.lf (.bool (hitB x q x.fPackages[q].fDeps[k1]))))] [] rfl (fun _ K hD hK => ?_) fun T hT => ?_
 iterate 3 (refine Zo ?_ (by simp [hnl, hwn, htn, hi0, hq, hql, hqn1, hw1, hrd, hb3, hx1] <;> omega); simp [hnl, hwn, htn, hi0, hq, hql, hqn1, hw1, hrd, hb3, hx1])
 refine WL.split 54 _ rfl (fun g54 => ?_) fun g54 => ?_ <;> try simp at g54
 simp [hnl, hwn, htn, hi0, hq, hql, hqn1, hw1, hrd, hb3, hx1]
 iterate 3 (refine Zg hD rfl rfl ?_ (by simp [hnl, hwn, htn, hi0, hq, hql, hqn1, hw1, hrd, hb3, hx1] <;> omega); simp [hnl, hwn, htn, hi0, hq, hql, hqn1, hw1, hrd, hb3, hx1])
 refine Zo ?_ (by simp [hnl, hwn, htn, hi0, hq, hql, hqn1, hw1, hrd, hb3, hx1] <;> omega); simp [hnl, hwn, htn, hi0, hq, hql, hqn1, hw1, hrd, hb3, hx1]
 refine WL.nil (hK _ (Wz.to rfl rfl rfl ?_))
 simp [hitB, g54] <;> first | omega | (intros; omega)
 simp [hnl, hwn, htn, hi0, hq, hql, hqn1, hw1, hrd, hb3, hx1]
 iterate 3 (refine Zn hD rfl rfl ?_; simp [hnl, hwn, htn, hi0, hq, hql, hqn1, hw1, hrd, hb3, hx1])
 refine Zo ?_ (by simp [hnl, hwn, htn, hi0, hq, hql, hqn1, hw1, hrd, hb3, hx1] <;> omega); simp [hnl, hwn, htn, hi0, hq, hql, hqn1, hw1, hrd, hb3, hx1]
 refine WL.nil (hK _ (Wz.to rfl rfl rfl ?_))
 simp [hitB, g54] <;> first | omega | (intros; omega)
 simp at hT; subst hT
 refine Zc rfl ?_ ?_ <;> intro hb4 <;> try simp at hb4
 have hh : hitB x q x.fPackages[q].fDeps[k1] = true := hb4
 have hh2 := hh
 unfold hitB at hh2
 simp at hh2
 obtain ⟨j, hj⟩ : ∃ j : Nat, pIx x x.fPackages[q].fDeps[k1] = (j : Int) := ⟨_, (Int.toNat_of_nonneg hh2.1).symm⟩
 have hjn : j < n + 1 := by omega
 have hs := snD_yes (f := sn x n k0) hb3 hh hj (n + 1)
 apply Zs; intros
 iterate 4 (refine Zo ?_ (by simp [hnl, hwn, htn, hi0, hq, hql, hqn1, hw1, hrd, hb3, hx1, hj, hjn] <;> omega); simp [hnl, hwn, htn, hi0, hq, hql, hqn1, hw1, hrd, hb3, hx1, hj, hjn])
 exact Zx
 apply Zs; intros
 iterate 2 (refine Zo ?_ (by simp [hnl, hwn, htn, hi0, hq, hql, hqn1, hw1, hrd, hb3, hx1, hj, hjn] <;> omega); simp [hnl, hwn, htn, hi0, hq, hql, hqn1, hw1, hrd, hb3, hx1, hj, hjn])
 exact Zx
 refine ⟨hb3, Wz.to rfl rfl rfl ?_⟩
 simp [hs]
 have hs := snD_no (f := sn x n k0) hb3 (by simpa using hb4)
 refine W.skip ?_
 apply Zs; intros
 iterate 2 (refine Zo ?_ (by simp [hnl, hwn, htn, hi0, hq, hql, hqn1, hw1, hrd, hb3, hx1] <;> omega); simp [hnl, hwn, htn, hi0, hq, hql, hqn1, hw1, hrd, hb3, hx1])
 exact Zx
 refine ⟨hb3, Wz.to rfl rfl rfl ?_⟩
 simp [hs]
 have hkl : k1 = x.fPackages[q].fDeps.length := by omega
 subst hkl
 refine W.exit ?_
 apply Zs; intros
 iterate 3 (refine Zo ?_ (by simp [hnl, hwn, htn, hi0, hq, hql, hqn1, hw1, hrd] <;> omega); simp [hnl, hwn, htn, hi0, hq, hql, hqn1, hw1, hrd])
 exact Zx
 refine ⟨hlt0, Wz.to rfl rfl rfl ?_⟩
 simp [hst]
 have hkl : k0 = n + 1 := by unfold tI at hb1; omega
 subst hkl
 refine W.exit ?_
 apply Zr; intros
 iterate 2 (refine Zo ?_ (by simp [hnl, hwn, htn, hi0] <;> omega); simp [hnl, hwn, htn, hi0])
 exact Zx
 refine W.seq ?_
 apply Zr; intros
 iterate 3 (refine Zo ?_ (by simp [hnl, hwn, htn, hi0] <;> omega); simp [hnl, hwn, htn, hi0])
 exact Zx
 refine W.block ?_
 refine W.loopk [64, 65] [24] (fun k2 => [(66, .d (.lf (.int .i64 (k2 : Int)))), (10, .d (.sl true .one ((vf x n k2).map dN)))]) (fun _ => []) (n + 1) rfl (by simp [vf_zero]) fun k2 hk2 T hT => ?_
 simp at hT; subst hT
 have hvl := vf_len x n k2
 apply Zr; intros
 refine Zo ?_ (by simp [hnl, hwn, htn, hi0] <;> omega); simp [hnl, hwn, htn, hi0]
 exact Zx
 refine Zv rfl ?_ ?_ <;> intro hb5 <;> try simp at hb5
 have hk2n : k2 < n + 1 := by omega
 have hx2 := ixNext hk2n (by omega)
 have hrd2 := rowB_get (f := sn x n (n + 1)) hk2n
 refine W.skip ?_
 refine Zb ?_
 apply Zr; intros
 iterate 5 (refine Zo ?_ (by simp [hnl, hwn, htn, hi0, hk2n, hx2, hrd2] <;> omega); simp [hnl, hwn, htn, hi0, hk2n, hx2, hrd2])
 exact Zx
 apply Zr; intros
 refine Zo ?_ (by simp [hnl, hwn, htn, hi0, hk2n, hx2, hrd2] <;> omega); simp [hnl, hwn, htn, hi0, hk2n, hx2, hrd2]
 exact Zx
 refine Zc rfl ?_ ?_ <;> intro hb6 <;> try simp at hb6
 have hs := vf_yes hb6
 apply Zs; intros
 refine Zm [72] ?_ (by simp [hnl, hwn, htn, hi0, hk2n, hx2, hrd2] <;> omega); simp [hnl, hwn, htn, hi0, hk2n, hx2, hrd2]
 iterate 4 (refine Zo ?_ (by simp [hnl, hwn, htn, hi0, hk2n, hx2, hrd2] <;> omega); simp [hnl, hwn, htn, hi0, hk2n, hx2, hrd2])
 exact Zx
 apply Zs; intros
 iterate 2 (refine Zo ?_ (by simp [hnl, hwn, htn, hi0, hk2n, hx2, hrd2] <;> omega); simp [hnl, hwn, htn, hi0, hk2n, hx2, hrd2])
 exact Zx
 refine ⟨(by omega), Wz.to rfl rfl rfl ?_⟩
 simp [hs]
 have hs := vf_no (by simpa using hb6)
 refine W.skip ?_
 apply Zs; intros
 iterate 2 (refine Zo ?_ (by simp [hnl, hwn, htn, hi0, hk2n, hx2, hrd2] <;> omega); simp [hnl, hwn, htn, hi0, hk2n, hx2, hrd2])
 exact Zx
 refine ⟨(by omega), Wz.to rfl rfl rfl ?_⟩
 simp [hs]
 have hkl : k2 = n + 1 := by omega
 subst hkl
 have hres := vf_vis hnl
 refine W.exit ?_
 apply Zr; intros
 refine Zm [77] ?_ (by simp [hnl, hwn, htn, hi0] <;> omega); simp [hnl, hwn, htn, hi0]
 refine Zo ?_ (by simp [hnl, hwn, htn, hi0] <;> omega); simp [hnl, hwn, htn, hi0]
 exact Zx
 refine W.ret (Zq ?_)
 simp [Tryz.f50, hres]
def nmC (l : List TConstructor) : List ByteArray := l.map TConstructor.fName
def ptL (l : List TParam) : List TType := l.map TParam.fType
theorem nmC_end {l : List TConstructor} {k : Nat} (h : l.length ≤ k) : mp TConstructor.fName l k = nmC l := mp_end h
theorem ptL_end {l : List TParam} {k : Nat} (h : l.length ≤ k) : mp TParam.fType l k = ptL l := mp_end h
theorem nmC_len (l : List TConstructor) : (nmC l).length = l.length := List.length_map ..
theorem fitA_eq2 (d : TDataType) (a : List TArm) : fitA d a = (d.fConstructors.all (c1 a) && dst (nmC d.fConstructors) && decide (a.length = d.fConstructors.length)) := rfl
instance iAmg_i (l all : List ByteArray) : Ct cx 48 [.d (.sl false .one ((l).map (dS))), .d (.sl false .one ((all).map (dS)))] (l.length ≤ 1073741824 ∧ all.length ≤ 4294967296) (.d (.lf (.bool (sub l all)))) := ⟨fk1 Tryz.func48, fun hp h => by have q := areAmong_d l all hp.1 hp.2 h; first | exact q | simpa using q⟩
theorem dpI_eq2 (w : TProgram) (i : Nat) (p : TPackage) : dpI w i p = (pkgOk p && sub p.fDeps (mp TPackage.fName w.fPackages i)) := rfl
instance iUq_i (l : List TPackage) : Ct cx 71 [.d (.sl false sh49 ((l).map (TPackage.dd false)))] (l.length ≤ 134217728 ∧ szL TPackage.sz l ≤ 134217728) (.d (.lf (.bool (uq l)))) := ⟨fk1 Tryz.func71, fun hp h => by have q := uq_d l hp.1 hp.2 h; first | exact q | simpa using q⟩
theorem iVis_v (x : TProgram) (i : Int) (hz : x.sz ≤ 134217728) (h : HP) : CS cx.P 50 [.d ((x).dd false), .d (.lf (.int .i64 (i)))] h (.d (.sl false .one ((vis x i).map (dN)))) h := by
 have q := CS.vw (iVis_d x i hz h)
 simpa using q
instance iVis_i (w : TProgram) (i : Int) : Ct cx 50 [.d (.st [.sl false sh49 ((w.fPackages).map (TPackage.dd false))]), .d (.lf (.int .i64 (i)))] (w.sz ≤ 134217728) (.d (.sl false .one ((vis w i).map (dN)))) := ⟨fk1 Tryz.func50, fun hp h => by have q := iVis_v w i hp h; first | exact q | simpa using q⟩
instance iNmU (w : TProgram) : Ct cx 28 [.d (.st [.sl false sh49 ((w.fPackages).map (TPackage.dd false))])] (w.sz ≤ 134217728) (.d (.lf (.bool (uq w.fPackages)))) := by
 refine Xi Tryz.func28 6 [.tmp 2] [] [] etas trivial ?_; intro hp h M G H E
 have hwz := w.sz_eq; unfold szs at hwz
 repeat' (first | (refine IN.mk ?_; intros) | (refine iTw ?_; refine T2 ?_ ?_ <;> intro hb H <;> try exact hb.elim) | (refine LF.mk ?_; exact LX) | refine GN ?_)
instance iView (w : TProgram) (i : Int) : Ct cx 22 [.d (.st [.sl false sh49 ((w.fPackages).map (TPackage.dd false))]), .d (.lf (.int .i64 (i)))] (w.sz ≤ 134217728) (.d (.st [w.dd false, .sl false .one ((vis w i).map dN)])) := by
 refine Xi Tryz.func22 10 [.cell 4 52] [] [] etas trivial ?_; intro hp h M G H E
 repeat' (first | (refine IN.mk ?_; intros) | (refine iTw ?_; refine T2 ?_ ?_ <;> intro hb H <;> try exact hb.elim) | (refine LF.mk ?_; exact LX) | refine GN ?_)
end Go.Proofs.YtdooklofebdknaaGreat
