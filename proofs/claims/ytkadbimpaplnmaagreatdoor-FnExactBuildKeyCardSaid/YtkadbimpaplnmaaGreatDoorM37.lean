/- Walks by the Den rules. No condition but sizes. -/
import Derived.Test.YtkadbimpaplnmaaGreatDoorM16
import Derived.Test.YtkadbimpaplnmaaGreatDoorM25
namespace Go.Proofs.YtkadbimpaplnmaaGreatDoor
open Go.RowKit
set_option maxRecDepth 10000
set_option linter.unusedSimpArgs false
set_option maxHeartbeats 4000000
def dN (n : Nat) : DD := .lf (.int .i64 (n : Int))
theorem dN_eq (n : Nat) : dN n = .lf (.int .i64 (n : Int)) := rfl
theorem vws_dN (l : List Nat) : DD.vws (l.map dN) = l.map dN := vws_map (fun _ => rfl) l
theorem shs_dN (l : List Nat) : DD.shs (l.map dN) = List.replicate l.length .one := shs_map (s := .one) (fun _ => rfl) l
def dNs (o : Bool) (l : List Nat) : DD := .sl o .one (l.map dN)
theorem dNs_eq (o : Bool) (l : List Nat) : dNs o l = .sl o .one (l.map dN) := rfl
theorem vws_dNs (o : Bool) (l : List (List Nat)) : DD.vws (l.map (dNs o)) = l.map (dNs false) := vws_map (fun x => by simp only [dNs_eq, DD.vw, vws_dN]) l
theorem shs_dNs (o : Bool) (l : List (List Nat)) : DD.shs (l.map (dNs o)) = List.replicate l.length .one := shs_map (s := .one) (fun _ => rfl) l
attribute [simp] dN_eq vws_dN shs_dN dNs_eq vws_dNs shs_dNs
def hasK (l : List Nat) (n : Nat) : Bool := decide (n ∈ l)
theorem hasK_true {l : List Nat} {n : Nat} (h : n ∈ l) : hasK l n = true := decide_eq_true h
theorem notAtN_step {l : List Nat} {s : Nat} {k : Nat} (h : ∀ j, j < k → l[j]? ≠ some s) (hk : k < l.length) (hn : ¬ l[k] = s) : ∀ j, j < k + 1 → l[j]? ≠ some s := fun j hj => by
 rcases Nat.lt_or_ge j k with q | q
 ·exact h j q
 ·have : j = k := by omega
  subst this
  rw [List.getElem?_eq_getElem hk]; simpa using hn
theorem hasK_false {l : List Nat} {s : Nat} (h : ∀ j, j < l.length → l[j]? ≠ some s) : hasK l s = false := decide_eq_false fun hs => by
 obtain ⟨j, hj⟩ := List.mem_iff_getElem?.1 hs
 exact h j (List.getElem?_eq_some_iff.1 hj).1 hj
def pIx (x : TProgram) (s : ByteArray) : Int := match x.fPackages.findIdx? fun q => decide (q.fName = s) with
 | some i => (i : Int)
 | none => -1
theorem pIx_at {x : TProgram} {s : ByteArray} {k : Nat} (h : ∀ j, j < k → ∀ y, x.fPackages[j]? = some y → decide (y.fName = s) = false) (hk : k < x.fPackages.length) (e : x.fPackages[k].fName = s) : pIx x s = (k : Int) := by
 have : x.fPackages.findIdx? (fun q => decide (q.fName = s)) = some k := by
  rw [List.findIdx?_eq_some_iff_getElem]
  refine ⟨hk, by simp [e], fun j hj => ?_⟩
  have := h j hj x.fPackages[j] (List.getElem?_eq_getElem (by omega))
  simpa using this
 unfold pIx; rw [this]
theorem pIx_no {x : TProgram} {s : ByteArray} (h : ∀ j, j < x.fPackages.length → ∀ y, x.fPackages[j]? = some y → decide (y.fName = s) = false) : pIx x s = -1 := by
 have : x.fPackages.findIdx? (fun q => decide (q.fName = s)) = none := by
  rw [List.findIdx?_eq_none_iff]
  intro q hq
  obtain ⟨j, hj⟩ := List.mem_iff_getElem?.1 hq
  exact h j (List.getElem?_eq_some_iff.1 hj).1 q hj
 unfold pIx; rw [this]
def depsAt (x : TProgram) (p : Nat) : List ByteArray := match x.fPackages[p]? with
 | some q => q.fDeps
 | none => []
theorem depsAt_eq {x : TProgram} {p : Nat} (h : p < x.fPackages.length) : depsAt x p = x.fPackages[p].fDeps := by unfold depsAt; rw [List.getElem?_eq_getElem h]
def hit (x : TProgram) (A : List (List Nat)) (p k : Nat) (n : ByteArray) : Bool := decide (0 ≤ pIx x n) && decide (pIx x n < (p : Int)) && hasK (A.getD (pIx x n).toNat []) k
def visO (x : TProgram) (A : List (List Nat)) (p k : Nat) : List Nat := (List.range k).filter fun j => (depsAt x p).any (hit x A p j)
def visA (x : TProgram) : Nat → List (List Nat)
 | 0 => []
 | p + 1 => visA x p ++ [visO x (visA x p) p p ++ [p]]
theorem visA_len (x : TProgram) : ∀ p, (visA x p).length = p
 | 0 => rfl
 | p + 1 => by simp [visA, visA_len x p]
theorem visO_len (x : TProgram) (A : List (List Nat)) (p k : Nat) : (visO x A p k).length ≤ k := by
 have := List.length_filter_le (fun j => (depsAt x p).any (hit x A p j)) (List.range k)
 simpa [visO] using this
theorem visO_yes {x : TProgram} {A : List (List Nat)} {p k : Nat} (h : (depsAt x p).any (hit x A p k) = true) : visO x A p k ++ [k] = visO x A p (k + 1) := by
 unfold visO; rw [List.range_succ, List.filter_append]; simp [h]
theorem visO_no {x : TProgram} {A : List (List Nat)} {p k : Nat} (h : (depsAt x p).any (hit x A p k) = false) : visO x A p (k + 1) = visO x A p k := by
 unfold visO; rw [List.range_succ, List.filter_append]; simp [h]
theorem visO_zero (x : TProgram) (A : List (List Nat)) (p : Nat) : visO x A p 0 = [] := rfl
theorem visA_at (x : TProgram) : ∀ {p q : Nat}, q < p → (visA x p)[q]? = some (visO x (visA x q) q q ++ [q])
 | 0, q, h => by omega
 | p + 1, q, h => by
  rcases Nat.lt_or_ge q p with e | e
  ·rw [visA, List.getElem?_append_left (by rw [visA_len]; omega)]; exact visA_at x e
  ·have : q = p := by omega
   subst this
   rw [visA, List.getElem?_append_right (by rw [visA_len]; omega), visA_len]; simp
theorem visA_rows (x : TProgram) {p : Nat} {r : List Nat} (h : r ∈ visA x p) : r.length ≤ p := by
 obtain ⟨j, hj⟩ := List.mem_iff_getElem?.1 h
 have h1 := (List.getElem?_eq_some_iff.1 hj).1
 rw [visA_len] at h1
 rw [visA_at x h1] at hj
 cases hj
 have := visO_len x (visA x j) j j
 simp; omega
def vis (x : TProgram) (i : Int) : List Nat := if 0 ≤ i ∧ i < x.fPackages.length then (visA x (i.toNat + 1)).getD i.toNat [] else []
def visB (x : TProgram) (i : Int) : Bool := !decide (0 ≤ i ∧ i < x.fPackages.length)
theorem l1HasInt_d (l : List Nat) (s : Nat) (hm : l.length ≤ 4294967296) (h : HP) : CS cx.P 21 [.d (.sl false .one (l.map dN)), .d (.lf (.int .i64 ((s : Nat) : Int)))] h (.d (.lf (.bool (hasK l s)))) h := by
 refine Ze Tryz.func21 rfl 18 ?_
 apply Zr; intros
 refine Zo ?_; simp
 exact Zx
 refine W.seq ?_
 apply Zr; intros
 refine Zo ?_; simp
 exact Zx
 refine W.block ?_
 refine W.loopI [0, 1] [] (fun k0 => [(5, .d (.lf (.int .i64 (k0 : Int))))]) (fun _ => []) l.length (fun k0 => ∀ j, j < k0 → l[j]? ≠ some s) rfl (by simp) (by simp) fun k0 hk0 hi0 T hT => ?_
 simp at hT; subst hT
 refine W.seq ?_
 apply Zr; intros
 iterate 4 (refine Zo ?_; simp)
 exact Zx
 refine Zc rfl ?_ ?_ <;> intro hb0 <;> try simp at hb0
 have hx := ixNext hb0 (by omega)
 refine W.skip ?_
 refine Zb ?_
 apply Zr; intros
 iterate 6 (refine Zo ?_ (by simp [hb0, hx] <;> omega); simp [hb0, hx])
 exact Zx
 refine Zc rfl ?_ ?_ <;> intro hb1 <;> try simp at hb1
 have hbN : l[k0] = s := by omega
 have hres := hasK_true (hbN ▸ gm hb0 : s ∈ l)
 apply Zr; intros
 refine Zo ?_ (by simp [hb0, hx] <;> omega); simp [hb0, hx]
 exact Zx
 refine W.ret (Zq ?_)
 simp [Tryz.f21, hres]
 refine W.skip ?_
 apply Zs; intros
 iterate 3 (refine Zo ?_ (by simp [hb0, hx] <;> omega); simp [hb0, hx])
 exact Zx
 refine ⟨hb0, notAtN_step hi0 hb0 (by omega), Wz.to rfl rfl rfl ?_⟩
 simp
 have hkl : k0 = l.length := by omega
 subst hkl
 have hres := hasK_false hi0
 refine W.exit ?_
 apply Zr; intros
 refine Zo ?_; simp
 exact Zx
 refine W.ret (Zq ?_)
 simp [Tryz.f21, hres]
theorem sPkIx_d (x : TProgram) (s : ByteArray) (hz : x.sz ≤ 134217728) (h : HP) : CS cx.P 20 [.d (x.dd false), .d (.lf (.string s))] h (.d (.lf (.int .i64 (pIx x s)))) h := by
 have hz2 := x.sz_eq; unfold szs at hz2
 refine Ze Tryz.func20 rfl 22 ?_
 apply Zr; intros
 iterate 2 (refine Zo ?_; simp)
 exact Zx
 refine W.seq ?_
 apply Zr; intros
 refine Zo ?_; simp
 exact Zx
 refine W.block ?_
 refine W.loopI [1, 2] [2] (fun k0 => [(5, .d (.lf (.int .i64 (k0 : Int))))]) (fun _ => []) x.fPackages.length (fun k0 => ∀ j, j < k0 → ∀ y, x.fPackages[j]? = some y → (fun q : TPackage => decide (q.fName = s)) y = false) rfl (by simp) (by simp) fun k0 hk0 hi0 T hT => ?_
 simp at hT; subst hT
 refine W.seq ?_
 apply Zr; intros
 iterate 5 (refine Zo ?_; simp)
 exact Zx
 refine Zc rfl ?_ ?_ <;> intro hb0 <;> try simp at hb0
 have hx := ixNext hb0 (by omega)
 refine W.skip ?_
 refine Zb ?_
 apply Zr; intros
 iterate 8 (refine Zo ?_ (by simp [hb0, hx] <;> omega); simp [hb0, hx])
 exact Zx
 refine Zc rfl ?_ ?_ <;> intro hb1 <;> try simp at hb1
 have hres := pIx_at hi0 hb0 hb1
 apply Zr; intros
 iterate 2 (refine Zo ?_ (by simp [hb0, hx] <;> omega); simp [hb0, hx])
 exact Zx
 refine W.ret (Zq ?_)
 simp [Tryz.f20, hres]
 refine W.skip ?_
 apply Zs; intros
 iterate 3 (refine Zo ?_ (by simp [hb0, hx] <;> omega); simp [hb0, hx])
 exact Zx
 refine ⟨hb0, noP_step (p := fun q : TPackage => decide (q.fName = s)) hi0 hb0 (by simpa using hb1), Wz.to rfl rfl rfl ?_⟩
 simp
 have hkl : k0 = x.fPackages.length := by omega
 subst hkl
 have hres := pIx_no hi0
 refine W.exit ?_
 apply Zr; intros
 refine Zo ?_; simp
 exact Zx
 refine W.ret (Zq ?_)
 simp [Tryz.f20, hres]
theorem sVis_d (x : TProgram) (i : Int) (hz : x.sz ≤ 134217728) (h : HP) : CS cx.P 10 [.d (x.dd false), .d (.lf (.int .i64 (i)))] h (.d (.sl (visB x i) .one ((vis x i).map dN))) h := by
 have hz2 := x.sz_eq; unfold szs at hz2
 have hw0 := i64w (n := (x.fPackages.length : Int) - 1) (by omega) (by omega)
 refine Ze Tryz.func10 rfl 83 ?_
 apply Zr; intros
 iterate 2 (refine Zo ?_ (by simp [hw0] <;> omega); simp [hw0])
 exact Zx
 refine W.seq ?_
 apply Zr; intros
 iterate 5 (refine Zo ?_ (by simp [hw0] <;> omega); simp [hw0])
 refine Zl [] rfl Tryz.func19 (l1In_d i 0 ((x.fPackages.length : Int) - 1) _) ?_ (by simp [hw0]); simp [hw0]
 refine Zo ?_ (by simp [hw0] <;> omega); simp [hw0]
 exact Zx
 refine Zc rfl ?_ ?_ <;> intro hb0 <;> try simp at hb0
 have hno : ¬ (0 ≤ i ∧ i < x.fPackages.length) := by unfold within at hb0; simp at hb0; omega
 have hres : vis x i = [] := by unfold vis; exact if_neg hno
 have hB : visB x i = true := by unfold visB; simp [hno]
 apply Zr; intros
 iterate 2 (refine Zo ?_ (by simp [hw0] <;> omega); simp [hw0])
 exact Zx
 refine W.ret (Zq ?_)
 simp [Tryz.f10, hres, hB]
 have hin : 0 ≤ i ∧ i < x.fPackages.length := by unfold within at hb0; simp at hb0; omega
 obtain ⟨n, hn⟩ : ∃ n : Nat, i = (n : Int) := ⟨_, (Int.toNat_of_nonneg hin.1).symm⟩
 subst hn
 have hnl : n < x.fPackages.length := by omega
 refine W.skip ?_
 apply Zr; intros
 iterate 2 (refine Zo ?_ (by simp [hw0, hnl] <;> omega); simp [hw0, hnl])
 exact Zx
 refine W.seq ?_
 apply Zr; intros
 refine Zo ?_ (by simp [hw0, hnl] <;> omega); simp [hw0, hnl]
 exact Zx
 refine W.block ?_
 refine W.loopk [1, 2] [2] (fun k0 => [(6, .d (.lf (.int .i64 (k0 : Int)))), (5, .d (.sl true .one ((visA x k0).map (dNs true))))]) (fun _ => []) (n + 1) rfl (by simp [visA]) fun k0 hk0 T hT => ?_
 simp at hT; subst hT
 have hvl := visA_len x k0
 refine W.seq ?_
 apply Zr; intros
 iterate 3 (refine Zo ?_ (by simp [hw0, hnl, hvl] <;> omega); simp [hw0, hnl, hvl])
 exact Zx
 refine Zc rfl ?_ ?_ <;> intro hb1 <;> try simp at hb1
 have hkn : k0 < x.fPackages.length := by omega
 have hx := ixNext hkn (by omega)
 have hdy := szL_le TPackage.sz (gm hkn)
 have hdy2 := x.fPackages[k0].sz_eq; unfold szs at hdy2
 have hdp := depsAt_eq hkn
 refine W.skip ?_
 refine Zb ?_
 apply Zr; intros
 iterate 2 (refine Zo ?_ (by simp [hw0, hnl, hvl, hkn, hx] <;> omega); simp [hw0, hnl, hvl, hkn, hx])
 exact Zx
 refine W.seq ?_
 apply Zr; intros
 refine Zo ?_ (by simp [hw0, hnl, hvl, hkn, hx] <;> omega); simp [hw0, hnl, hvl, hkn, hx]
 exact Zx
 refine W.block ?_
 refine W.loopk [1, 2, 5, 6] [2] (fun k1 => [(8, .d (.lf (.int .i64 (k1 : Int)))), (7, .d (.sl true .one ((visO x (visA x k0) k0 k1).map dN)))]) (fun _ => []) k0 rfl (by simp [visO_zero]) fun k1 hk1 T hT => ?_
 simp at hT; subst hT
 have hol := visO_len x (visA x k0) k0 k1
 refine W.seq ?_
 apply Zr; intros
 iterate 3 (refine Zo ?_ (by simp [hw0, hnl, hvl, hkn, hx, hol] <;> omega); simp [hw0, hnl, hvl, hkn, hx, hol])
 exact Zx
 refine Zc rfl ?_ ?_ <;> intro hb2 <;> try simp at hb2
 have hx1 := ixNext hb2 (by omega)
 refine W.skip ?_
 refine Zb ?_
 apply Zr; intros
 refine Zo ?_ (by simp [hw0, hnl, hvl, hkn, hx, hol, hb2, hx1] <;> omega); simp [hw0, hnl, hvl, hkn, hx, hol, hb2, hx1]
 exact Zx
 refine W.join [1, 2, 5, 6, 8] [2] [(7, .d (.sl true .one ((visO x (visA x k0) k0 (k1 + 1)).map dN)))] [] ?_ fun T hT => ?_
 refine W.block ?_
 refine W.loopI [1, 2, 5, 6, 7, 8] [2] (fun k2 => [(9, .d (.lf (.int .i64 (k2 : Int))))]) (fun _ => []) x.fPackages[k0].fDeps.length (fun k2 => ∀ j, j < k2 → ∀ y, x.fPackages[k0].fDeps[j]? = some y → (hit x (visA x k0) k0 k1) y = false) rfl (by simp) (by simp) fun k2 hk2 hi2 T hT => ?_
 simp at hT; subst hT
 refine W.seq ?_
 apply Zr; intros
 iterate 9 (refine Zo ?_ (by simp [hw0, hnl, hvl, hkn, hx, hol, hb2, hx1] <;> omega); simp [hw0, hnl, hvl, hkn, hx, hol, hb2, hx1])
 exact Zx
 refine Zc rfl ?_ ?_ <;> intro hb3 <;> try simp at hb3
 have hx2 := ixNext hb3 (by omega)
 refine W.skip ?_
 refine Zb ?_
 apply Yr rfl; intro K hK
 iterate 10 (refine Yo ?_ (by simp [hw0, hnl, hvl, hkn, hx, hol, hb2, hx1, hb3, hx2] <;> omega); simp [hw0, hnl, hvl, hkn, hx, hol, hb2, hx1, hb3, hx2])
 refine Yl [] rfl Tryz.func20 (sPkIx_d x x.fPackages[k0].fDeps[k2] hz) ?_ (by simp [hw0, hnl, hvl, hkn, hx, hol, hb2, hx1, hb3, hx2]); simp [hw0, hnl, hvl, hkn, hx, hol, hb2, hx1, hb3, hx2]
 refine Yo ?_ (by simp [hw0, hnl, hvl, hkn, hx, hol, hb2, hx1, hb3, hx2] <;> omega); simp [hw0, hnl, hvl, hkn, hx, hol, hb2, hx1, hb3, hx2]
 exact DL.nil rfl hK
 refine W.seq ?_
 refine W.regJ (D := _) [1, 2, 5, 6, 7, 8, 9] [2] [(67, .d (.lf (.bool (hit x (visA x k0) k0 k1 x.fPackages[k0].fDeps[k2]))))] [] rfl (fun _ K hD hK => ?_) fun T hT => ?_
 iterate 3 (refine Zo ?_ (by simp [hw0, hnl, hvl, hkn, hx, hol, hb2, hx1, hb3, hx2] <;> omega); simp [hw0, hnl, hvl, hkn, hx, hol, hb2, hx1, hb3, hx2])
 refine WL.split 55 _ rfl (fun g55 => ?_) fun g55 => ?_ <;> try simp at g55
 obtain ⟨j, hj⟩ : ∃ j : Nat, pIx x x.fPackages[k0].fDeps[k2] = (j : Int) := ⟨_, (Int.toNat_of_nonneg g55).symm⟩
 simp [hw0, hnl, hvl, hkn, hx, hol, hb2, hx1, hb3, hx2, hj]
 iterate 3 (refine Zg hD rfl rfl ?_ (by simp [hw0, hnl, hvl, hkn, hx, hol, hb2, hx1, hb3, hx2, hj] <;> omega); simp [hw0, hnl, hvl, hkn, hx, hol, hb2, hx1, hb3, hx2, hj])
 iterate 2 (refine Zo ?_ (by simp [hw0, hnl, hvl, hkn, hx, hol, hb2, hx1, hb3, hx2, hj] <;> omega); simp [hw0, hnl, hvl, hkn, hx, hol, hb2, hx1, hb3, hx2, hj])
 refine WL.split 60 _ rfl (fun g60 => ?_) fun g60 => ?_ <;> try simp at g60
 have hjl : j < (visA x k0).length := by rw [visA_len]; omega
 have hje := List.getElem?_eq_getElem hjl
 have hjq : (visA x k0).getD (pIx x x.fPackages[k0].fDeps[k2]).toNat [] = (visA x k0)[j] := by rw [hj]; simp [List.getD_eq_getElem?_getD, hje]
 simp [hw0, hnl, hvl, hkn, hx, hol, hb2, hx1, hb3, hx2, hj, hje]
 iterate 5 (refine Zg hD rfl rfl ?_ (by simp [hw0, hnl, hvl, hkn, hx, hol, hb2, hx1, hb3, hx2, hj, hje] <;> omega); simp [hw0, hnl, hvl, hkn, hx, hol, hb2, hx1, hb3, hx2, hj, hje])
 refine Zk hD rfl rfl [] rfl Tryz.func21 (l1HasInt_d (visA x k0)[j] k1 (Nat.le_trans (visA_rows x (gm hjl)) (by omega)) _) ?_ (by simp [hw0, hnl, hvl, hkn, hx, hol, hb2, hx1, hb3, hx2, hj, hje]); simp [hw0, hnl, hvl, hkn, hx, hol, hb2, hx1, hb3, hx2, hj, hje]
 refine Zo ?_ (by simp [hw0, hnl, hvl, hkn, hx, hol, hb2, hx1, hb3, hx2, hj, hje] <;> omega); simp [hw0, hnl, hvl, hkn, hx, hol, hb2, hx1, hb3, hx2, hj, hje]
 refine WL.nil (hK _ (Wz.to rfl rfl rfl ?_))
 simp [hit, g55, g60] <;> first | omega | grind
 have hje : True := trivial
 simp [hw0, hnl, hvl, hkn, hx, hol, hb2, hx1, hb3, hx2, hj, hje]
 iterate 6 (refine Zn hD rfl rfl ?_; simp [hw0, hnl, hvl, hkn, hx, hol, hb2, hx1, hb3, hx2, hj, hje])
 refine Zo ?_ (by simp [hw0, hnl, hvl, hkn, hx, hol, hb2, hx1, hb3, hx2, hj, hje] <;> omega); simp [hw0, hnl, hvl, hkn, hx, hol, hb2, hx1, hb3, hx2, hj, hje]
 refine WL.nil (hK _ (Wz.to rfl rfl rfl ?_))
 simp [hit, g55, g60] <;> first | omega | grind
 have hj : True := trivial
 simp [hw0, hnl, hvl, hkn, hx, hol, hb2, hx1, hb3, hx2, hj]
 iterate 3 (refine Zn hD rfl rfl ?_; simp [hw0, hnl, hvl, hkn, hx, hol, hb2, hx1, hb3, hx2, hj])
 iterate 2 (refine Zo ?_ (by simp [hw0, hnl, hvl, hkn, hx, hol, hb2, hx1, hb3, hx2, hj] <;> omega); simp [hw0, hnl, hvl, hkn, hx, hol, hb2, hx1, hb3, hx2, hj])
 iterate 6 (refine Zn hD rfl rfl ?_; simp [hw0, hnl, hvl, hkn, hx, hol, hb2, hx1, hb3, hx2, hj])
 refine Zo ?_ (by simp [hw0, hnl, hvl, hkn, hx, hol, hb2, hx1, hb3, hx2, hj] <;> omega); simp [hw0, hnl, hvl, hkn, hx, hol, hb2, hx1, hb3, hx2, hj]
 refine WL.nil (hK _ (Wz.to rfl rfl rfl ?_))
 simp [hit, g55] <;> first | omega | grind
 simp at hT; subst hT
 refine Zc rfl ?_ ?_ <;> intro hb4 <;> try simp at hb4
 have hany := anyP_yes (p := hit x (visA x k0) k0 k1) hb3 (by simpa using hb4)
 rw [← hdp] at hany
 have hso := visO_yes hany
 have hs := congrArg (List.map dN) hso
 simp at hs
 apply Zr; intros
 refine Zm [68] ?_ (by simp [hw0, hnl, hvl, hkn, hx, hol, hb2, hx1, hb3, hx2] <;> omega); simp [hw0, hnl, hvl, hkn, hx, hol, hb2, hx1, hb3, hx2]
 iterate 4 (refine Zo ?_ (by simp [hw0, hnl, hvl, hkn, hx, hol, hb2, hx1, hb3, hx2] <;> omega); simp [hw0, hnl, hvl, hkn, hx, hol, hb2, hx1, hb3, hx2])
 exact Zx
 refine W.exit ?_
 refine Wz.to rfl rfl rfl ?_
 simp [hs]
 refine W.skip ?_
 apply Zs; intros
 iterate 3 (refine Zo ?_ (by simp [hw0, hnl, hvl, hkn, hx, hol, hb2, hx1, hb3, hx2] <;> omega); simp [hw0, hnl, hvl, hkn, hx, hol, hb2, hx1, hb3, hx2])
 exact Zx
 refine ⟨hb3, noP_step (p := hit x (visA x k0) k0 k1) hi2 hb3 (by simpa using hb4), Wz.to rfl rfl rfl ?_⟩
 simp
 have hkl : k2 = x.fPackages[k0].fDeps.length := by omega
 subst hkl
 have hany := anyP_no hi2
 rw [← hdp] at hany
 have hso := visO_no hany
 have hs := congrArg (List.map dN) hso
 refine W.exit ?_
 refine Wz.to rfl rfl rfl ?_
 simp [hs]
 simp at hT; subst hT
 apply Zs; intros
 iterate 3 (refine Zo ?_ (by simp [hw0, hnl, hvl, hkn, hx, hol, hb2, hx1] <;> omega); simp [hw0, hnl, hvl, hkn, hx, hol, hb2, hx1])
 exact Zx
 refine ⟨hb2, Wz.to rfl rfl rfl ?_⟩
 simp
 have hkl : k1 = k0 := by omega
 subst hkl
 refine W.exit ?_
 apply Zs; intros
 refine Zm [72] ?_ (by simp [hw0, hnl, hvl, hkn, hx, hol] <;> omega); simp [hw0, hnl, hvl, hkn, hx, hol]
 refine Zm [73] ?_ (by simp [hw0, hnl, hvl, hkn, hx, hol] <;> omega); simp [hw0, hnl, hvl, hkn, hx, hol]
 iterate 6 (refine Zo ?_ (by simp [hw0, hnl, hvl, hkn, hx, hol] <;> omega); simp [hw0, hnl, hvl, hkn, hx, hol])
 exact Zx
 apply Zs; intros
 iterate 3 (refine Zo ?_ (by simp [hw0, hnl, hvl, hkn, hx, hol] <;> omega); simp [hw0, hnl, hvl, hkn, hx, hol])
 exact Zx
 refine ⟨(by omega), Wz.to rfl rfl rfl ?_⟩
 simp [visA]
 have hkl : k0 = n + 1 := by omega
 subst hkl
 have hB : visB x (n : Int) = false := by unfold visB; simp [hnl]
 have hvn : n < (visA x (n + 1)).length := by rw [visA_len]; omega
 have hres : vis x (n : Int) = (visA x (n + 1))[n] := by unfold vis; rw [if_pos (by omega)]; simp [List.getD_eq_getElem?_getD, List.getElem?_eq_getElem hvn]
 refine W.exit ?_
 apply Zr; intros
 iterate 3 (refine Zo ?_ (by simp [hw0, hnl, hvl, hvn] <;> omega); simp [hw0, hnl, hvl, hvn])
 refine Zm [82] ?_ (by simp [hw0, hnl, hvl, hvn] <;> omega); simp [hw0, hnl, hvl, hvn]
 refine Zo ?_ (by simp [hw0, hnl, hvl, hvn] <;> omega); simp [hw0, hnl, hvl, hvn]
 exact Zx
 refine W.ret (Zq ?_)
 simp [Tryz.f10, hres, hB]
end Go.Proofs.YtkadbimpaplnmaaGreatDoor
