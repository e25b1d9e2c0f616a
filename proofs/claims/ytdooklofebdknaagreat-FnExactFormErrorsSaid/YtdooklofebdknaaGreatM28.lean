/- Walks by the Den rules; Den33: regions of plain operations, each in one line; Den34: rows of function values: made, measured, looked into. No condition but sizes. -/
import Derived.Test.YtdooklofebdknaaGreatM20
import Derived.Test.YtdooklofebdknaaGreatM27
namespace Go.Proofs.YtdooklofebdknaaGreat
open Go.RowKit
set_option maxRecDepth 10000
set_option linter.unusedSimpArgs false
set_option maxHeartbeats 4000000
def dN (n : Nat) : DD := .lf (.int .i64 (n : Int))
theorem dN_eq (n : Nat) : dN n = .lf (.int .i64 (n : Int)) := rfl
theorem vws_dN (l : List Nat) : DD.vws (l.map dN) = l.map dN := vws_map (fun _ => rfl) l
theorem shs_dN (l : List Nat) : DD.shs (l.map dN) = List.replicate l.length .one := shs_map (s := .one) (fun _ => rfl) l
def dNs (o : Bool) (l : List Nat) : DD := .sl o .one (l.map dN)
theorem dNs_eq (o : Bool) (l : List Nat) : dNs o l = .sl o .one (l.map dN) := rfl
theorem vws_dNs (o : Bool) (l : List (List Nat)) : DD.vws (l.map (dNs o)) = l.map (dNs false) := vws_map (fun x => by simp only [dNs_eq, DD.vw, vws_dN]) l
theorem shs_dNs (o : Bool) (l : List (List Nat)) : DD.shs (l.map (dNs o)) = List.replicate l.length .one := shs_map (s := .one) (fun _ => rfl) l
attribute [simp] dN_eq vws_dN shs_dN dNs_eq vws_dNs shs_dNs
def hasK (l : List Nat) (n : Nat) : Bool := decide (n ∈ l)
theorem hasK_true {l : List Nat} {n : Nat} (h : n ∈ l) : hasK l n = true := decide_eq_true h
theorem notAtN_step {l : List Nat} {s : Nat} {k : Nat} (h : ∀ j, j < k → l[j]? ≠ some s) (hk : k < l.length) (hn : ¬ l[k] = s) : ∀ j, j < k + 1 → l[j]? ≠ some s := fun j hj => by
 rcases Nat.lt_or_ge j k with q | q
 ·exact h j q
 ·have : j = k := by omega
  subst this
  rw [List.getElem?_eq_getElem hk]; simpa using hn
theorem hasK_false {l : List Nat} {s : Nat} (h : ∀ j, j < l.length → l[j]? ≠ some s) : hasK l s = false := decide_eq_false fun hs => by
 obtain ⟨j, hj⟩ := List.mem_iff_getElem?.1 hs
 exact h j (List.getElem?_eq_some_iff.1 hj).1 hj
def pIx (x : TProgram) (s : ByteArray) : Int := match x.fPackages.findIdx? fun q => decide (q.fName = s) with
 | some i => (i : Int)
 | none => -1
theorem pIx_at {x : TProgram} {s : ByteArray} {k : Nat} (h : ∀ j, j < k → ∀ y, x.fPackages[j]? = some y → decide (y.fName = s) = false) (hk : k < x.fPackages.length) (e : x.fPackages[k].fName = s) : pIx x s = (k : Int) := by
 have : x.fPackages.findIdx? (fun q => decide (q.fName = s)) = some k := by
  rw [List.findIdx?_eq_some_iff_getElem]
  refine ⟨hk, by simp [e], fun j hj => ?_⟩
  have := h j hj x.fPackages[j] (List.getElem?_eq_getElem (by omega))
  simpa using this
 unfold pIx; rw [this]
theorem pIx_no {x : TProgram} {s : ByteArray} (h : ∀ j, j < x.fPackages.length → ∀ y, x.fPackages[j]? = some y → decide (y.fName = s) = false) : pIx x s = -1 := by
 have : x.fPackages.findIdx? (fun q => decide (q.fName = s)) = none := by
  rw [List.findIdx?_eq_none_iff]
  intro q hq
  obtain ⟨j, hj⟩ := List.mem_iff_getElem?.1 hq
  exact h j (List.getElem?_eq_some_iff.1 hj).1 q hj
 unfold pIx; rw [this]
def depsAt (x : TProgram) (p : Nat) : List ByteArray := match x.fPackages[p]? with
 | some q => q.fDeps
 | none => []
theorem depsAt_eq {x : TProgram} {p : Nat} (h : p < x.fPackages.length) : depsAt x p = x.fPackages[p].fDeps := by unfold depsAt; rw [List.getElem?_eq_getElem h]
def hit (x : TProgram) (A : List (List Nat)) (p k : Nat) (n : ByteArray) : Bool := decide (0 ≤ pIx x n) && decide (pIx x n < (p : Int)) && hasK (A.getD (pIx x n).toNat []) k
def visO (x : TProgram) (A : List (List Nat)) (p k : Nat) : List Nat := (List.range k).filter fun j => (depsAt x p).any (hit x A p j)
def visA (x : TProgram) : Nat → List (List Nat)
 | 0 => []
 | p + 1 => visA x p ++ [visO x (visA x p) p p ++ [p]]
theorem visA_len (x : TProgram) : ∀ p, (visA x p).length = p
 | 0 => rfl
 | p + 1 => by simp [visA, visA_len x p]
theorem visO_len (x : TProgram) (A : List (List Nat)) (p k : Nat) : (visO x A p k).length ≤ k := by
 have := List.length_filter_le (fun j => (depsAt x p).any (hit x A p j)) (List.range k)
 simpa [visO] using this
theorem visO_yes {x : TProgram} {A : List (List Nat)} {p k : Nat} (h : (depsAt x p).any (hit x A p k) = true) : visO x A p k ++ [k] = visO x A p (k + 1) := by
 unfold visO; rw [List.range_succ, List.filter_append]; simp [h]
theorem visO_no {x : TProgram} {A : List (List Nat)} {p k : Nat} (h : (depsAt x p).any (hit x A p k) = false) : visO x A p (k + 1) = visO x A p k := by
 unfold visO; rw [List.range_succ, List.filter_append]; simp [h]
theorem visO_zero (x : TProgram) (A : List (List Nat)) (p : Nat) : visO x A p 0 = [] := rfl
theorem visA_at (x : TProgram) : ∀ {p q : Nat}, q < p → (visA x p)[q]? = some (visO x (visA x q) q q ++ [q])
 | 0, q, h => by omega
 | p + 1, q, h => by
  rcases Nat.lt_or_ge q p with e | e
  ·rw [visA, List.getElem?_append_left (by rw [visA_len]; omega)]; exact visA_at x e
  ·have : q = p := by omega
   subst this
   rw [visA, List.getElem?_append_right (by rw [visA_len]; omega), visA_len]; simp
theorem visA_rows (x : TProgram) {p : Nat} {r : List Nat} (h : r ∈ visA x p) : r.length ≤ p := by
 obtain ⟨j, hj⟩ := List.mem_iff_getElem?.1 h
 have h1 := (List.getElem?_eq_some_iff.1 hj).1
 rw [visA_len] at h1
 rw [visA_at x h1] at hj
 cases hj
 have := visO_len x (visA x j) j j
 simp; omega
def vis (x : TProgram) (i : Int) : List Nat := if 0 ≤ i ∧ i < x.fPackages.length then (visA x (i.toNat + 1)).getD i.toNat [] else []
def visB (x : TProgram) (i : Int) : Bool := !decide (0 ≤ i ∧ i < x.fPackages.length)
theorem l1HasInt_d (l : List Nat) (s : Nat) (hm : l.length ≤ 4294967296) (h : HP) : CS cx.P 236 [.d (.sl false .one (l.map dN)), .d (.lf (.int .i64 ((s : Nat) : Int)))] h (.d (.lf (.bool (hasK l s)))) h := by
 refine Ze Tryz.func236 rfl 18 ?_
 apply Zr; intros
 refine Zo ?_; simp
 exact Zx
 refine W.seq ?_
 apply Zr; intros
 refine Zo ?_; simp
 exact Zx
 refine W.block ?_
 refine W.loopI [0, 1] [] (fun k0 => [(5, .d (.lf (.int .i64 (k0 : Int))))]) (fun _ => []) l.length (fun k0 => ∀ j, j < k0 → l[j]? ≠ some s) rfl (by simp) (by simp) fun k0 hk0 hi0 T hT => ?_
 simp at hT; subst hT
 refine W.seq ?_
 apply Zr; intros
 iterate 4 (refine Zo ?_; simp)
 exact Zx
 refine Zc rfl ?_ ?_ <;> intro hb0 <;> try simp at hb0
 have hx := ixNext hb0 (by omega)
 refine W.skip ?_
 refine Zb ?_
 apply Zr; intros
 iterate 6 (refine Zo ?_ (by simp [hb0, hx] <;> omega); simp [hb0, hx])
 exact Zx
 refine Zc rfl ?_ ?_ <;> intro hb1 <;> try simp at hb1
 have hbN : l[k0] = s := by omega
 have hres := hasK_true (hbN ▸ gm hb0 : s ∈ l)
 apply Zr; intros
 refine Zo ?_ (by simp [hb0, hx] <;> omega); simp [hb0, hx]
 exact Zx
 refine W.ret (Zq ?_)
 simp [Tryz.f236, hres]
 refine W.skip ?_
 apply Zs; intros
 iterate 3 (refine Zo ?_ (by simp [hb0, hx] <;> omega); simp [hb0, hx])
 exact Zx
 refine ⟨hb0, notAtN_step hi0 hb0 (by omega), Wz.to rfl rfl rfl ?_⟩
 simp
 have hkl : k0 = l.length := by omega
 subst hkl
 have hres := hasK_false hi0
 refine W.exit ?_
 apply Zr; intros
 refine Zo ?_; simp
 exact Zx
 refine W.ret (Zq ?_)
 simp [Tryz.f236, hres]
theorem sPkIx_d (x : TProgram) (s : ByteArray) (hz : x.sz ≤ 134217728) (h : HP) : CS cx.P 37 [.d (x.dd false), .d (.lf (.string s))] h (.d (.lf (.int .i64 (pIx x s)))) h := by
 have hz2 := x.sz_eq; unfold szs at hz2
 refine Ze Tryz.func37 rfl 22 ?_
 apply Zr; intros
 iterate 2 (refine Zo ?_; simp)
 exact Zx
 refine W.seq ?_
 apply Zr; intros
 refine Zo ?_; simp
 exact Zx
 refine W.block ?_
 refine W.loopI [1, 2] [2] (fun k0 => [(5, .d (.lf (.int .i64 (k0 : Int))))]) (fun _ => []) x.fPackages.length (fun k0 => ∀ j, j < k0 → ∀ y, x.fPackages[j]? = some y → (fun q : TPackage => decide (q.fName = s)) y = false) rfl (by simp) (by simp) fun k0 hk0 hi0 T hT => ?_
 simp at hT; subst hT
 refine W.seq ?_
 apply Zr; intros
 iterate 5 (refine Zo ?_; simp)
 exact Zx
 refine Zc rfl ?_ ?_ <;> intro hb0 <;> try simp at hb0
 have hx := ixNext hb0 (by omega)
 refine W.skip ?_
 refine Zb ?_
 apply Zr; intros
 iterate 8 (refine Zo ?_ (by simp [hb0, hx] <;> omega); simp [hb0, hx])
 exact Zx
 refine Zc rfl ?_ ?_ <;> intro hb1 <;> try simp at hb1
 have hres := pIx_at hi0 hb0 hb1
 apply Zr; intros
 iterate 2 (refine Zo ?_ (by simp [hb0, hx] <;> omega); simp [hb0, hx])
 exact Zx
 refine W.ret (Zq ?_)
 simp [Tryz.f37, hres]
 refine W.skip ?_
 apply Zs; intros
 iterate 3 (refine Zo ?_ (by simp [hb0, hx] <;> omega); simp [hb0, hx])
 exact Zx
 refine ⟨hb0, noP_step (p := fun q : TPackage => decide (q.fName = s)) hi0 hb0 (by simpa using hb1), Wz.to rfl rfl rfl ?_⟩
 simp
 have hkl : k0 = x.fPackages.length := by omega
 subst hkl
 have hres := pIx_no hi0
 refine W.exit ?_
 apply Zr; intros
 refine Zo ?_; simp
 exact Zx
 refine W.ret (Zq ?_)
 simp [Tryz.f37, hres]
theorem sVis_d (x : TProgram) (i : Int) (hz : x.sz ≤ 134217728) (h : HP) : CS cx.P 237 [.d (x.dd false), .d (.lf (.int .i64 (i)))] h (.d (.sl (visB x i) .one ((vis x i).map dN))) h := by
 have hz2 := x.sz_eq; unfold szs at hz2
 have hw0 := i64w (n := (x.fPackages.length : Int) - 1) (by omega) (by omega)
 refine Ze Tryz.func237 rfl 83 ?_
 apply Zr; intros
 iterate 2 (refine Zo ?_ (by simp [hw0] <;> omega); simp [hw0])
 exact Zx
 refine W.seq ?_
 apply Zr; intros
 iterate 5 (refine Zo ?_ (by simp [hw0] <;> omega); simp [hw0])
 refine Zl [] rfl Tryz.func38 (l1In_d i 0 ((x.fPackages.length : Int) - 1) _) ?_ (by simp [hw0]); simp [hw0]
 refine Zo ?_ (by simp [hw0] <;> omega); simp [hw0]
 exact Zx
 refine Zc rfl ?_ ?_ <;> intro hb0 <;> try simp at hb0
 have hno : ¬ (0 ≤ i ∧ i < x.fPackages.length) := by unfold within at hb0; simp at hb0; omega
 have hres : vis x i = [] := by unfold vis; exact if_neg hno
 have hB : visB x i = true := by unfold visB; simp [hno]
 apply Zr; intros
 iterate 2 (refine Zo ?_ (by simp [hw0] <;> omega); simp [hw0])
 exact Zx
 refine W.ret (Zq ?_)
 simp [Tryz.f237, hres, hB]
 have hin : 0 ≤ i ∧ i < x.fPackages.length := by unfold within at hb0; simp at hb0; omega
 obtain ⟨n, hn⟩ : ∃ n : Nat, i = (n : Int) := ⟨_, (Int.toNat_of_nonneg hin.1).symm⟩
 subst hn
 have hnl : n < x.fPackages.length := by omega
 refine W.skip ?_
 apply Zr; intros
 iterate 2 (refine Zo ?_ (by simp [hw0, hnl] <;> omega); simp [hw0, hnl])
 exact Zx
 refine W.seq ?_
 apply Zr; intros
 refine Zo ?_ (by simp [hw0, hnl] <;> omega); simp [hw0, hnl]
 exact Zx
 refine W.block ?_
 refine W.loopk [1, 2] [2] (fun k0 => [(6, .d (.lf (.int .i64 (k0 : Int)))), (5, .d (.sl true .one ((visA x k0).map (dNs true))))]) (fun _ => []) (n + 1) rfl (by simp [visA]) fun k0 hk0 T hT => ?_
 simp at hT; subst hT
 have hvl := visA_len x k0
 refine W.seq ?_
 apply Zr; intros
 iterate 3 (refine Zo ?_ (by simp [hw0, hnl, hvl] <;> omega); simp [hw0, hnl, hvl])
 exact Zx
 refine Zc rfl ?_ ?_ <;> intro hb1 <;> try simp at hb1
 have hkn : k0 < x.fPackages.length := by omega
 have hx := ixNext hkn (by omega)
 have hdy := szL_le TPackage.sz (gm hkn)
 have hdy2 := x.fPackages[k0].sz_eq; unfold szs at hdy2
 have hdp := depsAt_eq hkn
 refine W.skip ?_
 refine Zb ?_
 apply Zr; intros
 iterate 2 (refine Zo ?_ (by simp [hw0, hnl, hvl, hkn, hx] <;> omega); simp [hw0, hnl, hvl, hkn, hx])
 exact Zx
 refine W.seq ?_
 apply Zr; intros
 refine Zo ?_ (by simp [hw0, hnl, hvl, hkn, hx] <;> omega); simp [hw0, hnl, hvl, hkn, hx]
 exact Zx
 refine W.block ?_
 refine W.loopk [1, 2, 5, 6] [2] (fun k1 => [(8, .d (.lf (.int .i64 (k1 : Int)))), (7, .d (.sl true .one ((visO x (visA x k0) k0 k1).map dN)))]) (fun _ => []) k0 rfl (by simp [visO_zero]) fun k1 hk1 T hT => ?_
 simp at hT; subst hT
 have hol := visO_len x (visA x k0) k0 k1
 refine W.seq ?_
 apply Zr; intros
 iterate 3 (refine Zo ?_ (by simp [hw0, hnl, hvl, hkn, hx, hol] <;> omega); simp [hw0, hnl, hvl, hkn, hx, hol])
 exact Zx
 refine Zc rfl ?_ ?_ <;> intro hb2 <;> try simp at hb2
 have hx1 := ixNext hb2 (by omega)
 refine W.skip ?_
 refine Zb ?_
 apply Zr; intros
 refine Zo ?_ (by simp [hw0, hnl, hvl, hkn, hx, hol, hb2, hx1] <;> omega); simp [hw0, hnl, hvl, hkn, hx, hol, hb2, hx1]
 exact Zx
 refine W.join [1, 2, 5, 6, 8] [2] [(7, .d (.sl true .one ((visO x (visA x k0) k0 (k1 + 1)).map dN)))] [] ?_ fun T hT => ?_
 refine W.block ?_
 refine W.loopI [1, 2, 5, 6, 7, 8] [2] (fun k2 => [(9, .d (.lf (.int .i64 (k2 : Int))))]) (fun _ => []) x.fPackages[k0].fDeps.length (fun k2 => ∀ j, j < k2 → ∀ y, x.fPackages[k0].fDeps[j]? = some y → (hit x (visA x k0) k0 k1) y = false) rfl (by simp) (by simp) fun k2 hk2 hi2 T hT => ?_
 simp at hT; subst hT
 refine W.seq ?_
 apply Zr; intros
 iterate 9 (refine Zo ?_ (by simp [hw0, hnl, hvl, hkn, hx, hol, hb2, hx1] <;> omega); simp [hw0, hnl, hvl, hkn, hx, hol, hb2, hx1])
 exact Zx
 refine Zc rfl ?_ ?_ <;> intro hb3 <;> try simp at hb3
 have hx2 := ixNext hb3 (by omega)
 refine W.skip ?_
 refine Zb ?_
 apply Yr rfl; intro K hK
 iterate 10 (refine Yo ?_ (by simp [hw0, hnl, hvl, hkn, hx, hol, hb2, hx1, hb3, hx2] <;> omega); simp [hw0, hnl, hvl, hkn, hx, hol, hb2, hx1, hb3, hx2])
 refine Yl [] rfl Tryz.func37 (sPkIx_d x x.fPackages[k0].fDeps[k2] hz) ?_ (by simp [hw0, hnl, hvl, hkn, hx, hol, hb2, hx1, hb3, hx2]); simp [hw0, hnl, hvl, hkn, hx, hol, hb2, hx1, hb3, hx2]
 refine Yo ?_ (by simp [hw0, hnl, hvl, hkn, hx, hol, hb2, hx1, hb3, hx2] <;> omega); simp [hw0, hnl, hvl, hkn, hx, hol, hb2, hx1, hb3, hx2]
 exact DL.nil rfl hK
 refine W.seq ?_
 refine W.regJ (D := _) [1, 2, 5, 6, 7, 8, 9] [2] [(67, .d (.lf (.bool (hit x (visA x k0) k0 k1 x.fPackages[k0].fDeps[k2]))))] [] rfl (fun _ K hD hK => ?_) fun T hT => ?_
 iterate 3 (refine Zo ?_ (by simp [hw0, hnl, hvl, hkn, hx, hol, hb2, hx1, hb3, hx2] <;> omega); simp [hw0, hnl, hvl, hkn, hx, hol, hb2, hx1, hb3, hx2])
 refine WL.split 55 _ rfl (fun g55 => ?_) fun g55 => ?_ <;> try simp at g55
 obtain ⟨j, hj⟩ : ∃ j : Nat, pIx x x.fPackages[k0].fDeps[k2] = (j : Int) := ⟨_, (Int.toNat_of_nonneg g55).symm⟩
 simp [hw0, hnl, hvl, hkn, hx, hol, hb2, hx1, hb3, hx2, hj]
 iterate 3 (refine Zg hD rfl rfl ?_ (by simp [hw0, hnl, hvl, hkn, hx, hol, hb2, hx1, hb3, hx2, hj] <;> omega); simp [hw0, hnl, hvl, hkn, hx, hol, hb2, hx1, hb3, hx2, hj])
 iterate 2 (refine Zo ?_ (by simp [hw0, hnl, hvl, hkn, hx, hol, hb2, hx1, hb3, hx2, hj] <;> omega); simp [hw0, hnl, hvl, hkn, hx, hol, hb2, hx1, hb3, hx2, hj])
 refine WL.split 60 _ rfl (fun g60 => ?_) fun g60 => ?_ <;> try simp at g60
 have hjl : j < (visA x k0).length := by rw [visA_len]; omega
 have hje := List.getElem?_eq_getElem hjl
 have hjq : (visA x k0).getD (pIx x x.fPackages[k0].fDeps[k2]).toNat [] = (visA x k0)[j] := by rw [hj]; simp [List.getD_eq_getElem?_getD, hje]
 simp [hw0, hnl, hvl, hkn, hx, hol, hb2, hx1, hb3, hx2, hj, hje]
 iterate 5 (refine Zg hD rfl rfl ?_ (by simp [hw0, hnl, hvl, hkn, hx, hol, hb2, hx1, hb3, hx2, hj, hje] <;> omega); simp [hw0, hnl, hvl, hkn, hx, hol, hb2, hx1, hb3, hx2, hj, hje])
 refine Zk hD rfl rfl [] rfl Tryz.func236 (l1HasInt_d (visA x k0)[j] k1 (Nat.le_trans (visA_rows x (gm hjl)) (by omega)) _) ?_ (by simp [hw0, hnl, hvl, hkn, hx, hol, hb2, hx1, hb3, hx2, hj, hje]); simp [hw0, hnl, hvl, hkn, hx, hol, hb2, hx1, hb3, hx2, hj, hje]
 refine Zo ?_ (by simp [hw0, hnl, hvl, hkn, hx, hol, hb2, hx1, hb3, hx2, hj, hje] <;> omega); simp [hw0, hnl, hvl, hkn, hx, hol, hb2, hx1, hb3, hx2, hj, hje]
 refine WL.nil (hK _ (Wz.to rfl rfl rfl ?_))
 simp [hit, g55, g60] <;> first | omega | grind
 have hje : True := trivial
 simp [hw0, hnl, hvl, hkn, hx, hol, hb2, hx1, hb3, hx2, hj, hje]
 iterate 6 (refine Zn hD rfl rfl ?_; simp [hw0, hnl, hvl, hkn, hx, hol, hb2, hx1, hb3, hx2, hj, hje])
 refine Zo ?_ (by simp [hw0, hnl, hvl, hkn, hx, hol, hb2, hx1, hb3, hx2, hj, hje] <;> omega); simp [hw0, hnl, hvl, hkn, hx, hol, hb2, hx1, hb3, hx2, hj, hje]
 refine WL.nil (hK _ (Wz.to rfl rfl rfl ?_))
 simp [hit, g55, g60] <;> first | omega | grind
 have hj : True := trivial
 simp [hw0, hnl, hvl, hkn, hx, hol, hb2, hx1, hb3, hx2, hj]
 iterate 3 (refine Zn hD rfl rfl ?_; simp [hw0, hnl, hvl, hkn, hx, hol, hb2, hx1, hb3, hx2, hj])
 iterate 2 (refine Zo ?_ (by simp [hw0, hnl, hvl, hkn, hx, hol, hb2, hx1, hb3, hx2, hj] <;> omega); simp [hw0, hnl, hvl, hkn, hx, hol, hb2, hx1, hb3, hx2, hj])
 iterate 6 (refine Zn hD rfl rfl ?_; simp [hw0, hnl, hvl, hkn, hx, hol, hb2, hx1, hb3, hx2, hj])
 refine Zo ?_ (by simp [hw0, hnl, hvl, hkn, hx, hol, hb2, hx1, hb3, hx2, hj] <;> omega); simp [hw0, hnl, hvl, hkn, hx, hol, hb2, hx1, hb3, hx2, hj]
 refine WL.nil (hK _ (Wz.to rfl rfl rfl ?_))
 simp [hit, g55] <;> first | omega | grind
 simp at hT; subst hT
 refine Zc rfl ?_ ?_ <;> intro hb4 <;> try simp at hb4
 have hany := anyP_yes (p := hit x (visA x k0) k0 k1) hb3 (by simpa using hb4)
 rw [← hdp] at hany
 have hso := visO_yes hany
 have hs := congrArg (List.map dN) hso
 simp at hs
 apply Zr; intros
 refine Zm [68] ?_ (by simp [hw0, hnl, hvl, hkn, hx, hol, hb2, hx1, hb3, hx2] <;> omega); simp [hw0, hnl, hvl, hkn, hx, hol, hb2, hx1, hb3, hx2]
 iterate 4 (refine Zo ?_ (by simp [hw0, hnl, hvl, hkn, hx, hol, hb2, hx1, hb3, hx2] <;> omega); simp [hw0, hnl, hvl, hkn, hx, hol, hb2, hx1, hb3, hx2])
 exact Zx
 refine W.exit ?_
 refine Wz.to rfl rfl rfl ?_
 simp [hs]
 refine W.skip ?_
 apply Zs; intros
 iterate 3 (refine Zo ?_ (by simp [hw0, hnl, hvl, hkn, hx, hol, hb2, hx1, hb3, hx2] <;> omega); simp [hw0, hnl, hvl, hkn, hx, hol, hb2, hx1, hb3, hx2])
 exact Zx
 refine ⟨hb3, noP_step (p := hit x (visA x k0) k0 k1) hi2 hb3 (by simpa using hb4), Wz.to rfl rfl rfl ?_⟩
 simp
 have hkl : k2 = x.fPackages[k0].fDeps.length := by omega
 subst hkl
 have hany := anyP_no hi2
 rw [← hdp] at hany
 have hso := visO_no hany
 have hs := congrArg (List.map dN) hso
 refine W.exit ?_
 refine Wz.to rfl rfl rfl ?_
 simp [hs]
 simp at hT; subst hT
 apply Zs; intros
 iterate 3 (refine Zo ?_ (by simp [hw0, hnl, hvl, hkn, hx, hol, hb2, hx1] <;> omega); simp [hw0, hnl, hvl, hkn, hx, hol, hb2, hx1])
 exact Zx
 refine ⟨hb2, Wz.to rfl rfl rfl ?_⟩
 simp
 have hkl : k1 = k0 := by omega
 subst hkl
 refine W.exit ?_
 apply Zs; intros
 refine Zm [72] ?_ (by simp [hw0, hnl, hvl, hkn, hx, hol] <;> omega); simp [hw0, hnl, hvl, hkn, hx, hol]
 refine Zm [73] ?_ (by simp [hw0, hnl, hvl, hkn, hx, hol] <;> omega); simp [hw0, hnl, hvl, hkn, hx, hol]
 iterate 6 (refine Zo ?_ (by simp [hw0, hnl, hvl, hkn, hx, hol] <;> omega); simp [hw0, hnl, hvl, hkn, hx, hol])
 exact Zx
 apply Zs; intros
 iterate 3 (refine Zo ?_ (by simp [hw0, hnl, hvl, hkn, hx, hol] <;> omega); simp [hw0, hnl, hvl, hkn, hx, hol])
 exact Zx
 refine ⟨(by omega), Wz.to rfl rfl rfl ?_⟩
 simp [visA]
 have hkl : k0 = n + 1 := by omega
 subst hkl
 have hB : visB x (n : Int) = false := by unfold visB; simp [hnl]
 have hvn : n < (visA x (n + 1)).length := by rw [visA_len]; omega
 have hres : vis x (n : Int) = (visA x (n + 1))[n] := by unfold vis; rw [if_pos (by omega)]; simp [List.getD_eq_getElem?_getD, List.getElem?_eq_getElem hvn]
 refine W.exit ?_
 apply Zr; intros
 iterate 3 (refine Zo ?_ (by simp [hw0, hnl, hvl, hvn] <;> omega); simp [hw0, hnl, hvl, hvn])
 refine Zm [82] ?_ (by simp [hw0, hnl, hvl, hvn] <;> omega); simp [hw0, hnl, hvl, hvn]
 refine Zo ?_ (by simp [hw0, hnl, hvl, hvn] <;> omega); simp [hw0, hnl, hvl, hvn]
 exact Zx
 refine W.ret (Zq ?_)
 simp [Tryz.f237, hres, hB]

theorem fill_seq (place : Nat → Option (Nat × Nat)) (hp : ∀ i, place i = some (i, 1)) : ∀ (vs : List Value) (c1 z : List Value), (∀ v ∈ vs, v.oneCell' = true) → z.length = vs.length →
  Go.Instr.fill place (c1 ++ z).toArray ((List.range' c1.length vs.length).zip vs) = some (c1 ++ vs).toArray
 | [], c1, z, _, hz => by
  have : z = [] := List.eq_nil_of_length_eq_zero (by simpa using hz)
  subst this; simp [Go.Instr.fill]
 | v :: vs, c1, [], _, hz => by simp at hz
 | v :: vs, c1, z0 :: z, hv, hz => by
  have h1 : v.cells = [v].toArray := by have := hv v (by simp); cases v <;> first | rfl | simp [Value.oneCell'] at this
  have ih := fill_seq place hp vs (c1 ++ [v]) z (fun x hx => hv x (by simp [hx])) (by simpa using hz)
  have h2 := fill_one place c1.length c1.length 1 v [v] h1 (hp _) rfl c1 [z0] z rfl rfl ((List.range' (c1.length + 1) vs.length).zip vs)
  simp only [List.length_append, List.length_singleton] at ih
  simp only [List.length_cons, List.range'_succ, List.zip_cons_cons]
  have e1 : c1 ++ z0 :: z = c1 ++ ([z0] ++ z) := by simp
  have e2 : c1 ++ ([v] ++ z) = c1 ++ [v] ++ z := by simp
  rw [e1, h2, e2, ih]
  simp
def AV.isF : AV → Prop
 | .fn _ _ => True
 | _ => False
theorem rvF_one {w : World} {F : Nat → Nat} {Θ : Ty} : ∀ (l : List AV) (vs : List Value), (∀ a ∈ l, a.isF) → rvS w F Θ l vs [] → ∀ v ∈ vs, v.oneCell' = true
 | [], vs, _, h, v, hv => by
  simp only [rvS] at h
  rw [h.1] at hv; simp at hv
 | a :: l, vs, hl, h, v, hv => by
  simp only [rvS] at h
  obtain ⟨u, r, b1, b2, rfl, hb, h1, h2⟩ := h
  obtain ⟨rfl, rfl⟩ := List.append_eq_nil_iff.1 hb.symm
  rcases List.mem_cons.1 hv with rfl | hv
  ·have := hl a (by simp)
   cases a <;> simp only [AV.isF] at this
   simp only [rv] at h1
   obtain ⟨vs, rfl, -⟩ := h1
   rfl
  ·exact rvF_one l r (fun x hx => hl x (by simp [hx])) h2 v hv
theorem tms_rv {w : World} {F : Nat → Nat} {Θ : Ty} {own : Who → List Nat} {S : St} {a : Act} (h : Rel w F Θ own S a) : ∀ ts : List Nat, rvS w F Θ (ts.map fun t => (S.tm t).vw) (ts.map fun t => a.eval (.tmp t)) []
 | [] => by simp [rvS]
 | t :: ts => by
  simp only [List.map_cons, rvS]
  exact ⟨_, _, [], [], rfl, rfl, rv.view _ _ _ (h.tm t), tms_rv h ts⟩
/-- a row of functions is made -/
theorem WL.opFr {c : Cx} {ops : Array Oper} {o : Oper} {l : List Oper} {S : St} {K : St → Prop} (hg : o.guard = none) {k0 : Nat} (hd : o.dst = some k0) (hk : k0 < S.n) (T : Nat) (ts : List Nat) {ps : Array (Nat × Operand)} (ho : o.op = .buildSlice T ts.length ps) (hps : ps.toList = (List.range' 0 ts.length).zip (ts.map .tmp))
  {e : Nat} (hu : c.P.underlying T = some (.slice e)) {ii : TypeInfo} (hi : c.P.info? e = some ii) (hsz : ii.size = 1) {z : Value} (hz : ii.zero = some z) (hzc : z.cells.size = 1) (hn : ts.length ≤ 1000) (h0 : 0 < ts.length) {fs : List AV} (hf : (ts.map fun t => (S.tm t).vw) = fs) (hfF : ∀ a ∈ fs, a.isF)
  {S1 : St} (e1 : (⟨S.n, upd S.tm k0 (.fr fs), S.hp⟩ : St) = S1) (kk : WL c ops l S1 K) : WL c ops (o :: l) S K := fun is hi2 => by
 subst e1
 cases is with
 | nil => simp at hi2
 | cons i is =>
  simp only [List.map_cons, List.cons.injEq] at hi2
  intro w F Θ own a hR Q hQ
  simp only [wpOps, hi2.1]
  have hv := tms_rv hR ts
  rw [hf] at hv
  have hone := rvF_one fs _ hfF hv
  have hlen := rvS.length fs _ _ hv
  rw [List.length_map] at hlen
  let vs := ts.map fun t => a.eval (.tmp t)
  have hvl : vs.length = ts.length := by simp [vs]
  have hrun : (execOp a.eval o).run c.P w = .ok (.value (.slice (some ⟨w.heap.size, 0, none⟩) ts.length ts.length)) (w.alloc (.cells vs.toArray e)) := by
   have hfill := fill_seq (fun i => some (i * 1, 1)) (fun i => by simp) vs [] (List.replicate ts.length (z.cells[0]!)) hone (by simp [vs])
   simp only [List.nil_append, List.length_nil, hvl] at hfill
   have hzip : ∀ (ns : List Nat) (us : List Nat), (ns.zip (us.map Operand.tmp)).map (fun x => (x.1, a.eval x.2)) = ns.zip (us.map fun t => a.eval (.tmp t)) := by
    intro ns us
    induction us generalizing ns with
    | nil => simp
    | cons u us ih => cases ns with
     | nil => simp
     | cons n ns => simp [ih]
   have hz2 : (ps.map fun (i, x) => (i, a.eval x)).toList = (List.range' 0 ts.length).zip vs := by
    rw [Array.toList_map, hps]; exact hzip _ _
   have hne : ¬ ts.length = 0 := by omega
   have h24 : ¬ 16777216 < ts.length := by omega
   have hcells : ((Array.range ts.length).map fun i => z.cells[i % 1]!) = (List.replicate ts.length (z.cells[0]!)).toArray := by
    apply Array.ext
    ·simp
    ·intro j h1 h2
     simp [Nat.mod_one]
   unfold execOp
   simp only [ho, Go.Instr.buildSlice, Sem.run_bind, run_underlying hu, Result.andThen_ok]
   simp [sizeOf, typeInfo, hi, hsz, newRow, h24, hne, zeroValue, hz, hzc, hcells]
   have hq : List.map (fun x => (x.fst, a.eval x.snd)) ps.toList = (List.range' 0 ts.length).zip vs := by rw [hps]; exact hzip _ _
   have hz0 : z.cells[0]! = z.cells[0] := getElem!_pos z.cells 0 (by omega)
   have hf2 := hfill
   rw [hz0] at hf2
   have ef : (fun i : Nat => some (i * 1, 1)) = fun i => some (i, 1) := by funext i; simp
   rw [ef] at hf2
   have er : (List.replicate ts.length z.cells[0]).toArray = Array.replicate ts.length z.cells[0] := by simp
   rw [er] at hf2
   rw [hq, hf2]
   simp
  have kp := (ks_new (w := w) (F := F) (o := .cells vs.toArray e) (n := ts.length) (fun _ => False) hR.top).kp (bs := []) (by simp) (by simp)
  have hat : (w.alloc (.cells vs.toArray e)).heap[w.heap.size]? = some (.cells vs.toArray e (0, 0)) := alloc_at rfl
  have hv2 : rv (w.alloc (.cells vs.toArray e)) (upd F w.heap.size ts.length) Θ (.fr fs) (.slice (some ⟨w.heap.size, 0, none⟩) ts.length ts.length) [] := by
   simp only [rv]
   refine ⟨trivial, w.heap.size, vs, by rw [← hlen], by unfold maxLen; omega, ?_, rvS.keep (fun _ _ _ h => h) fs vs [] hv kp, by rw [upd_self]; omega⟩
   intro j u hu
   rw [cell_of_row _ _ _ _ e (0, 0) hat]
   simpa using hu
  obtain ⟨own', hR2, hS2⟩ := Rel.fin hR o.dst (fun q hq => by rw [hd] at hq; cases hq; exact hk) [] (.fr fs) _ [] (ks_new (n := ts.length) _ hR.top) (top_new hR.top) hv2 List.nodup_nil (by simp) (by simp)
  have hw : Region.wanted o (yielded ops a.tmps) = true := wnt_spec (c := c) hR (by unfold wnt; rw [hg])
  rw [if_pos hw]
  have e3 : (⟨S.n, putF (clrs S.tm []) o.dst (.fr fs), S.hp⟩ : St) = ⟨S.n, upd S.tm k0 (.fr fs), S.hp⟩ := by rw [hd]; rfl
  rw [e3] at hR2
  refine .inl ?_
  unfold Oper.wp
  rw [hrun]
  exact kk is hi2.2 _ _ Θ own' _ hR2 Q fun S' a' w' F' Θ' own'' g1 g2 g3 => hQ S' a' w' F' Θ' own'' g1 g2 (hS2.trans g3)
theorem rvS_at {w : World} {F : Nat → Nat} {Θ : Ty} : ∀ (l : List AV) (vs : List Value), rvS w F Θ l vs [] → ∀ (j : Nat) (a : AV), l[j]? = some a → ∃ v, vs[j]? = some v ∧ rv w F Θ a v []
 | [], _, _, j, a, h => by simp at h
 | b :: l, vs, h, j, a, ha => by
  simp only [rvS] at h
  obtain ⟨v, r, b1, b2, rfl, hb, h1, h2⟩ := h
  obtain ⟨rfl, rfl⟩ := List.append_eq_nil_iff.1 hb.symm
  cases j with
  | zero => simp only [List.getElem?_cons_zero, Option.some.injEq] at ha; subst ha; exact ⟨v, rfl, h1⟩
  | succ j => simpa using rvS_at l r h2 j a (by simpa using ha)
theorem WL.lenFr {c : Cx} {ops : Array Oper} {o : Oper} {l : List Oper} {S : St} {K : St → Prop} (hg : o.guard = none) {k0 : Nat} (hd : o.dst = some k0) (hk : k0 < S.n) (T : Nat) (x : Operand) (ho : o.op = .call { callee := .builtin .len, args := #[x], argTypes := #[T] }) {e : Nat} (hu : c.P.underlying T = some (.slice e)) {fs : List AV} (hx : evT c 0 S x = .fr fs) (ox : okO c 0 x)
  {S1 : St} (e1 : (⟨S.n, upd S.tm k0 (.d (.lf (.int .i64 (fs.length : Int)))), S.hp⟩ : St) = S1) (kk : WL c ops l S1 K) : WL c ops (o :: l) S K :=
 WL.opVal hg hd hk _ (fun w F Θ own a hR => by
  have hv := ev_rv (T := 0) hR ox
  rw [hx] at hv
  simp only [rv] at hv
  obtain ⟨-, b, vs, h1, h2, -⟩ := hv
  refine ⟨.int .i64 fs.length, ?_, ?_⟩
  ·unfold execOp
   simp [ho, h1, resolve, invoke, builtin, Builtin.len_, run_underlying hu, goInt]
  ·unfold maxLen at h2
   exact rv_lf (by simp [okLeaf, IntKind.min, IntKind.max, IntKind.bits, IntKind.signed]; omega)) e1 kk
theorem WL.ixFr {c : Cx} {ops : Array Oper} {o : Oper} {l : List Oper} {S : St} {K : St → Prop} (hg : o.guard = none) {k0 : Nat} (hd : o.dst = some k0) (hk : k0 < S.n) (T : Nat) (x i : Operand) (ho : o.op = .indexAddr T x i) {e : Nat} (hu : c.P.underlying T = some (.slice e)) {ii : TypeInfo} (hi : c.P.info? e = some ii) (hsz : ii.size = 1) {fs : List AV} (hx : evT c T S x = .fr fs) (ox : okO c T x) {ki : IntKind} (j : Nat) (hj : evT c 0 S i = .d (.lf (.int ki (j : Int)))) (oi : okO c 0 i) {f : AV} (hf : fs[j]? = some f)
  {S1 : St} (e1 : (⟨S.n, upd S.tm k0 (.ep f), S.hp⟩ : St) = S1) (kk : WL c ops l S1 K) : WL c ops (o :: l) S K :=
 WL.opVal hg hd hk (.ep f) (fun w F Θ own a hR => by
  have hv := ev_rv (T := T) hR ox
  rw [hx] at hv
  simp only [rv] at hv
  obtain ⟨-, b, vs, h1, h2, h3, h4, h5⟩ := hv
  obtain ⟨q4, -⟩ := lf_of hR hj oi
  have hlt := (List.getElem?_eq_some_iff.1 hf).1
  obtain ⟨u, g1, g2⟩ := rvS_at fs vs h4 j f hf
  refine ⟨.pointer (some ⟨b, j, none⟩), ?_, ?_⟩
  ·unfold execOp
   have hl : 0 ≤ (j : Int) ∧ (j : Int) < (fs.length : Int) := ⟨by omega, by omega⟩
   simp [ho, h1, q4, Go.Instr.indexAt, asIntOf, run_underlying hu, hl, sizeOf, typeInfo, hi, hsz, Addr.add_lit, hlt]
  ·simp only [rv]
   refine ⟨trivial, b, j, u, rfl, ?_, g2, by omega⟩
   intro q y hq
   have hq0 : q = 0 := by have := (List.getElem?_eq_some_iff.1 hq).1; simpa using this
   subst hq0
   have := h3 j u g1
   simp at hq
   subst hq
   simpa using this) e1 kk
theorem WL.ldEp {c : Cx} {ops : Array Oper} {o : Oper} {l : List Oper} {S : St} {K : St → Prop} (hg : o.guard = none) {k0 : Nat} (hd : o.dst = some k0) (hk : k0 < S.n) (T : Nat) (x : Operand) (ho : o.op = .load T x) (hT : (isAgg T).run c.P = fun w => .ok false w) {f : AV} (hx : evT c 0 S x = .ep f) (ox : okO c 0 x)
  {S1 : St} (e1 : (⟨S.n, upd S.tm k0 f, S.hp⟩ : St) = S1) (kk : WL c ops l S1 K) : WL c ops (o :: l) S K :=
 WL.opVal hg hd hk f (fun w F Θ own a hR => by
  have hv := ev_rv (T := 0) hR ox
  rw [hx] at hv
  simp only [rv] at hv
  obtain ⟨-, b, off, u, h1, h2, h3, -⟩ := hv
  have hc := h2 0 u rfl
  simp only [Nat.add_zero] at hc
  refine ⟨u, ?_, h3⟩
  unfold execOp
  have hr : (isAgg T).run c.P w = .ok false w := by rw [hT]
  simp [ho, h1, Go.Instr.loadAt, Go.Instr.sureAddr, loadVar, hr, load, Sem.run, hc]) e1 kk
end Go.Proofs.YtdooklofebdknaaGreat
