/- Regions that draw their order and write at their end: all that reads memory is done ahead of the first operation that writes. No condition. -/
import Derived.Test.YtkmiecgcibjkbaaGreatReg
namespace Go.Proofs.YtkmiecgcibjkbaaGreat
open Go.RowKit
section
variable {P : Program} {ops : Array Oper}
/-- until operation W is done, 'Pw' holds of the world -/
def Jw (W : Nat) (Pw : World → Prop) (listed : Array Bool) (w : World) : Prop := listed.getD W true = false → Pw w
/-- what an operation waits for is done where it is done -/
def Cl (ops : Array Oper) (listed : Array Bool) : Prop := ∀ (k : Nat) (o : Oper), ops[k]? = some o → listed.getD k true = true → k < listed.size → ∀ e ∈ o.after, Region.binds .any e = true → listed.getD e.on true = true
def depB (ops : Array Oper) : Nat → Nat → Nat → Bool
 | 0, a, i => a == i
 | n + 1, a, i => a == i || match ops[a]? with
  | none => false
  | some o => o.after.toList.any fun e => Region.binds .any e && depB ops n e.on i
theorem depB_done {listed : Array Bool} (hc : Cl ops listed) (hs : listed.size = ops.size) : ∀ (n a i : Nat), depB ops n a i = true → listed.getD a true = true → listed.getD i true = true
 | 0, a, i, h, hd => by
  simp only [depB, beq_iff_eq] at h
  exact h ▸ hd
 | n + 1, a, i, h, hd => by
  simp only [depB, Bool.or_eq_true, beq_iff_eq] at h
  rcases h with h | h
  ·exact h ▸ hd
  ·cases ho : ops[a]? with
   | none => simp [ho] at h
   | some o =>
    simp only [ho, List.any_eq_true, Bool.and_eq_true, Array.mem_toList_iff] at h
    obtain ⟨e, he, hb, hq⟩ := h
    have ha : a < ops.size := (Array.getElem?_eq_some_iff.1 ho).1
    exact depB_done hc hs n e.on i hq (hc a o ho hd (by omega) e he hb)
/-- every order; until W is done 'Pw' is kept -/
def anyJ (P : Program) (ops : Array Oper) (W : Nat) (Pw : World → Prop) (Q : Act → World → Prop) : Nat → Array Bool → Act → World → Prop
 | 0, listed, a, w => Region.ready .any ops listed = [] ∧ Q a w
 | fuel + 1, listed, a, w =>
  (Region.ready .any ops listed = [] → Q a w) ∧
  ∀ i ∈ Region.ready .any ops listed, opN P ops i (fun a' w' => Jw W Pw (listed.setIfInBounds i true) w' ∧ anyJ P ops W Pw Q fuel (listed.setIfInBounds i true) a' w') a w
theorem wpAny_of_anyJ {W : Nat} {Pw : World → Prop} {Q : Exit → Act → World → Prop} : ∀ (fuel : Nat) (listed : Array Bool) (a : Act) (w : World),
  anyJ P ops W Pw (Q .normal) fuel listed a w → wpAny P .any ops Q fuel listed a w
 | 0, _, _, _, h => h
 | fuel + 1, _, _, _, h => ⟨h.1, fun i hi => wpOp_of_opN (opN_mono (fun a' w' h' => wpAny_of_anyJ fuel _ a' w' h'.2) (h.2 i hi))⟩
theorem getD_set {listed : Array Bool} {i k : Nat} (h : k ≠ i) : (listed.setIfInBounds i true).getD k true = listed.getD k true := getD_set_ne true (Ne.symm h)
theorem Cl.set {listed : Array Bool} (hc : Cl ops listed) {i : Nat} (hr : i ∈ Region.ready .any ops listed) : Cl ops (listed.setIfInBounds i true) := by
 obtain ⟨hun, oi, hoi, hall⟩ := mem_ready.1 hr
 intro k o hk hd hl e he hb
 have mono : listed.getD e.on true = true → (listed.setIfInBounds i true).getD e.on true = true := by
  intro h
  by_cases hei : e.on = i
  ·rw [hei]
   rcases Nat.lt_or_ge i listed.size with h' | h'
   ·simp [h']
   ·simp [Nat.not_lt.2 h']
  ·rw [getD_set hei]; exact h
 by_cases hki : k = i
 ·subst hki
  obtain rfl : oi = o := Option.some.inj (hoi.symm.trans hk)
  refine mono ?_
  have h1 := hall e he hb
  rcases Nat.lt_or_ge e.on listed.size with h' | h'
  ·simp [h'] at h1 ⊢; exact h1
  ·simp [Array.getElem?_eq_none h']
 ·rw [getD_set hki] at hd
  exact mono (hc k o hk hd (by simpa using hl) e he hb)
theorem anyJ_first {W : Nat} {Pw F : World → Prop} {Q : Act → World → Prop} {i : Nat} {oi : Oper} {v : Value} (hi : ops[i]? = some oi) (hsel : ∀ (j : Nat) (o : Oper) cs b, ops[j]? = some o → o.op ≠ .select cs b) (hiW : i ≠ W)
  (hF : ∀ (listed : Array Bool) (w : World), Cl ops listed → listed.size = ops.size → listed.getD i true = false → Jw W Pw listed w → F w) :
  ∀ (fuel : Nat) (listed : Array Bool) (a : Act) (w : World), Jw W Pw listed w → Cl ops listed → listed.size = ops.size →
   (∀ j oj, ops[j]? = some oj → j ≠ i → listed.getD j true = false → (∀ e ∈ oj.after, Region.binds .any e = true → e.on ≠ i) → oi.apart ops oj = true) →
   i ∈ Region.ready .any ops listed → Fixd P ops F oi v a →
   anyJ P ops W Pw Q fuel (listed.setIfInBounds i true) (a.put oi.dst v) w → anyJ P ops W Pw Q (fuel + 1) listed a w := by
 have hset : ∀ (l : Array Bool) (w : World), Jw W Pw (l.setIfInBounds i true) w ↔ Jw W Pw l w := fun l w => by unfold Jw; rw [getD_set (Ne.symm hiW)]
 intro fuel
 induction fuel with
 | zero =>
  intro listed a w hw hc hs _ hr hy H
  refine ⟨fun h => (by rw [h] at hr; cases hr), fun j hj => ?_⟩
  by_cases hji : j = i
  ·subst hji; exact hy.opN hi (hF listed w hc hs (mem_ready.1 hr).1 hw) ⟨(hset _ _).2 hw, H⟩
  ·have := ready_mono hj hji
   rw [H.1] at this
   cases this
 | succ fuel ih =>
  intro listed a w hw hc hs hfree hr hy H
  refine ⟨fun h => (by rw [h] at hr; cases hr), fun j hj => ?_⟩
  by_cases hji : j = i
  ·subst hji; exact hy.opN hi (hF listed w hc hs (mem_ready.1 hr).1 hw) ⟨(hset _ _).2 hw, H⟩
  ·have h1 := H.2 j (ready_mono hj hji)
   obtain ⟨hjun, oj, hoj, hall⟩ := mem_ready.1 hj
   have hnot : ∀ e ∈ oj.after, Region.binds .any e = true → e.on ≠ i := fun e he hb heq => by
    have h1 := hall e he hb
    have h0 := (mem_ready.1 hr).1
    rw [heq] at h1
    rcases Nat.lt_or_ge i listed.size with h' | h'
    ·simp [h'] at h0 h1; rw [h0] at h1; cases h1
    ·simp [Array.getElem?_eq_none h'] at h1
   have h2 := opN_put hoj (hfree j oj hoj hji hjun hnot) (fun cs b => hsel i oi cs b hi) (fun cs b => hsel j oj cs b hoj) hy h1
   have hfree' : ∀ k ok, ops[k]? = some ok → k ≠ i → (listed.setIfInBounds j true).getD k true = false →
     (∀ e ∈ ok.after, Region.binds .any e = true → e.on ≠ i) → oi.apart ops ok = true := fun k ok hk hki hun hno => by
    refine hfree k ok hk hki ?_ hno
    by_cases hjk : j = k
    ·subst hjk; exact hjun
    ·rw [getD_set_ne true hjk] at hun; exact hun
   have hcomm : (listed.setIfInBounds i true).setIfInBounds j true = (listed.setIfInBounds j true).setIfInBounds i true := Array.setIfInBounds_comm _ _ (Ne.symm hji)
   refine opN_mono (fun a' w' h3 => ?_) h2
   have hJ : Jw W Pw (listed.setIfInBounds j true) w' := (hset _ _).1 (by rw [← hcomm]; exact h3.2.1)
   refine ⟨hJ, ih (listed.setIfInBounds j true) a' w' hJ (hc.set hj) (by simpa using hs) hfree' (ready_mono hr (Ne.symm hji)) h3.1 ?_⟩
   rw [← hcomm]
   exact h3.2.2
/-- the region's beginning -/
theorem rj {id : Nat} {l : List Oper} {Q : Exit → Act → World → Prop} {a : Act} {w : World} (n W : Nat) (Pw : World → Prop) (hm : P.follows .mixedOrders = true) (hn : l.length = n)
  (h : anyJ P l.toArray W Pw (Q .normal) n (Array.replicate n false) a w.drew) : (Code.region id l.toArray true).wp P Q a w := by
 subst hn
 exact wp_region_any hm (wpAny_of_anyJ _ _ _ _ (by simpa using h))
theorem rj_end {l : List Oper} {W : Nat} {Pw : World → Prop} {Q : Act → World → Prop} {listed : Array Bool} {a : Act} {w : World} (hr : Region.ready .any l.toArray listed = []) (h : Q a w) : anyJ P l.toArray W Pw Q 0 listed a w := ⟨hr, h⟩
/-- as 'segB', and each waits not for W, and W for each (where F is not everything) -/
def segJ (l : List Oper) (W n : Nat) (free : Bool) : List Nat → Array Bool → Bool
 | [], _ => true
 | i :: is, listed => decide (i < l.length) && decide (i ≠ W) && (free || depB l.toArray n W i) && Region.free .any l.toArray listed i && (Region.ready .any l.toArray listed).contains i && segJ l W n free is (listed.setIfInBounds i true)
def clB (l : List Oper) (listed : Array Bool) : Bool := (listed.size == l.length) && (l.zipIdx.all fun x => listed.getD x.2 true == false || x.1.after.toList.all fun e => !Region.binds .any e || listed.getD e.on true)
theorem clB_spec {l : List Oper} {listed : Array Bool} (h : clB l listed = true) : Cl l.toArray listed ∧ listed.size = l.toArray.size := by
 simp only [clB, Bool.and_eq_true, beq_iff_eq, List.all_eq_true, Bool.or_eq_true] at h
 refine ⟨fun k o hk hd hl e he hb => ?_, by simpa using h.1⟩
 have hk' : l[k]? = some o := by simpa using hk
 have := h.2 (o, k) (List.mem_zipIdx_iff_getElem?.2 hk')
 rcases this with h1 | h1
 ·simp only at h1; rw [hd] at h1; cases h1
 ·have h2 := h1 e (Array.mem_toList_iff.2 he)
  rcases h2 with h2 | h2
  ·rw [hb] at h2; cases h2
  ·exact h2
theorem rj_seg' {l : List Oper} {W n : Nat} {Pw F : World → Prop} {Q : Act → World → Prop} {fuel : Nat} {w : World} (free : Bool) (hF : free = true → ∀ w, F w) (hP : free = false → ∀ w, Pw w → F w) (hs : Region.noSelect l.toArray = true) :
  ∀ (is : List Nat) (listed : Array Bool) (a : Act), Jw W Pw listed w → Cl l.toArray listed → listed.size = l.toArray.size → segJ l W n free is listed = true →
  stillI P l.toArray F (pick l is) a (fun a' => anyJ P l.toArray W Pw Q fuel (setAll listed is) a' w) → anyJ P l.toArray W Pw Q (fuel + is.length) listed a w
 | [], listed, a, _, _, _, _, h => h
 | i :: is, listed, a, hw, hc, hz, hb, h => by
  simp only [segJ, Bool.and_eq_true, decide_eq_true_eq] at hb
  obtain ⟨⟨⟨⟨⟨h1, hne⟩, hd⟩, h2⟩, h3⟩, h4⟩ := hb
  have ho : l[i]? = some l[i] := List.getElem?_eq_getElem h1
  simp only [pick, ho, stillI] at h
  obtain ⟨v, hf, h⟩ := h
  have hr : i ∈ Region.ready .any l.toArray listed := by simpa using h3
  have hw' : Jw W Pw (listed.setIfInBounds i true) w := by unfold Jw at *; rw [getD_set (Ne.symm hne)]; exact hw
  refine anyJ_first (F := F) (by simp [h1]) (Region.noSelect_spec hs) hne (fun listed' w' hc' hz' hu hJ => ?_) _ listed a w hw hc hz (Region.free_spec (by simp [h1]) h2) hr hf
   (rj_seg' free hF hP hs is _ _ hw' (hc.set hr) (by simpa using hz) h4 h)
  cases free with
  | true => exact hF rfl w'
  | false =>
   refine hP rfl w' (hJ ?_)
   by_cases hW : listed'.getD W true = true
   ·have := depB_done hc' hz' n W i (by simpa using hd) hW
    rw [hu] at this
    cases this
   ·simpa using hW
theorem jw_done {W : Nat} {Pw : World → Prop} {listed : Array Bool} {w : World} (h : listed.getD W true = true) : Jw W Pw listed w := fun q => by rw [h] at q; cases q
/-- reading operations, ahead of W -/
theorem rj_seg {l : List Oper} {W : Nat} {Pw : World → Prop} {Q : Act → World → Prop} {fuel n : Nat} {listed : Array Bool} {a : Act} {w : World} (is : List Nat) (hw : Pw w) (hb : (Region.noSelect l.toArray && clB l listed && segJ l W l.length false is listed) = true) (hn : n = fuel + is.length)
  (h : stillI P l.toArray Pw (pick l is) a (fun a' => anyJ P l.toArray W Pw Q fuel (setAll listed is) a' w)) : anyJ P l.toArray W Pw Q n listed a w := by
 subst hn
 simp only [Bool.and_eq_true] at hb
 obtain ⟨hc, hz⟩ := clB_spec hb.1.2
 exact rj_seg' false (fun h => by cases h) (fun _ _ h => h) hb.1.1 is listed a (fun _ => hw) hc hz hb.2 h
/-- operations that look at no memory -/
theorem rj_free {l : List Oper} {W : Nat} {Pw : World → Prop} {Q : Act → World → Prop} {fuel n : Nat} {listed : Array Bool} {a : Act} {w : World} (is : List Nat) (hw : Pw w) (hb : (Region.noSelect l.toArray && clB l listed && segJ l W l.length true is listed) = true) (hn : n = fuel + is.length)
  (h : stillI P l.toArray (fun _ => True) (pick l is) a (fun a' => anyJ P l.toArray W Pw Q fuel (setAll listed is) a' w)) : anyJ P l.toArray W Pw Q n listed a w := by
 subst hn
 simp only [Bool.and_eq_true] at hb
 obtain ⟨hc, hz⟩ := clB_spec hb.1.2
 exact rj_seg' true (fun _ _ => trivial) (fun h => by cases h) hb.1.1 is listed a (fun _ => hw) hc hz hb.2 h
/-- the same behind W -/
theorem rj_free' {l : List Oper} {W : Nat} {Pw : World → Prop} {Q : Act → World → Prop} {fuel n : Nat} {listed : Array Bool} {a : Act} {w : World} (is : List Nat) (hb : (listed.getD W true && (Region.noSelect l.toArray && clB l listed && segJ l W l.length true is listed)) = true) (hn : n = fuel + is.length)
  (h : stillI P l.toArray (fun _ => True) (pick l is) a (fun a' => anyJ P l.toArray W Pw Q fuel (setAll listed is) a' w)) : anyJ P l.toArray W Pw Q n listed a w := by
 subst hn
 simp only [Bool.and_eq_true] at hb
 obtain ⟨hc, hz⟩ := clB_spec hb.2.1.2
 exact rj_seg' true (fun _ _ => trivial) (fun h => by cases h) hb.2.1.1 is listed a (jw_done hb.1) hc hz hb.2.2 h
/-- an operation that all others wait for, ahead of W or W itself or behind it -/
theorem rj_one {l : List Oper} {W : Nat} {Pw : World → Prop} {Q : Act → World → Prop} {fuel n : Nat} {listed : Array Bool} {a : Act} {w : World} (i : Nat)
  (hr : (decide (i < l.length) && (Region.ready .any l.toArray listed == [i])) = true) (hn : n = fuel + 1)
  (h : ∀ K : Act → World → Prop, (∀ a' w', Jw W Pw (listed.setIfInBounds i true) w' → anyJ P l.toArray W Pw Q fuel (listed.setIfInBounds i true) a' w' → K a' w') → oneI P l.toArray (pick l [i]) a w K) : anyJ P l.toArray W Pw Q n listed a w := by
 subst hn
 simp only [Bool.and_eq_true, decide_eq_true_eq, beq_iff_eq] at hr
 obtain ⟨h1, hr⟩ := hr
 refine ⟨fun h0 => (by rw [hr] at h0; cases h0), fun j hj => ?_⟩
 rw [hr] at hj
 obtain rfl : j = i := by simpa using hj
 have ho : l[j]? = some l[j] := List.getElem?_eq_getElem h1
 have h2 := h _ (fun a' w' h1 h2 => (⟨h1, h2⟩ : Jw W Pw (listed.setIfInBounds j true) w' ∧ anyJ P l.toArray W Pw Q fuel (listed.setIfInBounds j true) a' w'))
 simp only [pick, ho, oneI] at h2
 unfold opN
 simp only [List.getElem?_toArray, ho, h2.1, if_true]
 exact h2.2
/-- two operations that all others wait for -/
theorem rj_two {l : List Oper} {W : Nat} {Pw : World → Prop} {Q : Act → World → Prop} {fuel n : Nat} {listed : Array Bool} {a : Act} {w : World} (i j : Nat)
  (hr : (decide (i < l.length) && (decide (j < l.length) && (Region.ready .any l.toArray listed == [i, j]))) = true) (hn : n = fuel + 1)
  (hi : ∀ K : Act → World → Prop, (∀ a' w', Jw W Pw (listed.setIfInBounds i true) w' → anyJ P l.toArray W Pw Q fuel (listed.setIfInBounds i true) a' w' → K a' w') → oneI P l.toArray (pick l [i]) a w K)
  (hj : ∀ K : Act → World → Prop, (∀ a' w', Jw W Pw (listed.setIfInBounds j true) w' → anyJ P l.toArray W Pw Q fuel (listed.setIfInBounds j true) a' w' → K a' w') → oneI P l.toArray (pick l [j]) a w K) : anyJ P l.toArray W Pw Q n listed a w := by
 subst hn
 simp only [Bool.and_eq_true, decide_eq_true_eq, beq_iff_eq] at hr
 obtain ⟨h1, h2, hr⟩ := hr
 have go : ∀ k, k < l.length → (∀ K : Act → World → Prop, (∀ a' w', Jw W Pw (listed.setIfInBounds k true) w' → anyJ P l.toArray W Pw Q fuel (listed.setIfInBounds k true) a' w' → K a' w') → oneI P l.toArray (pick l [k]) a w K) →
   opN P l.toArray k (fun a' w' => Jw W Pw (listed.setIfInBounds k true) w' ∧ anyJ P l.toArray W Pw Q fuel (listed.setIfInBounds k true) a' w') a w := fun k hk h => by
  have ho : l[k]? = some l[k] := List.getElem?_eq_getElem hk
  have h2 := h _ (fun a' w' h1 h2 => (⟨h1, h2⟩ : Jw W Pw (listed.setIfInBounds k true) w' ∧ anyJ P l.toArray W Pw Q fuel (listed.setIfInBounds k true) a' w'))
  simp only [pick, ho, oneI] at h2
  unfold opN
  simp only [List.getElem?_toArray, ho, h2.1, if_true]
  exact h2.2
 refine ⟨fun h0 => (by rw [hr] at h0; cases h0), fun k hk => ?_⟩
 rw [hr] at hk
 simp only [List.mem_cons, List.not_mem_nil, or_false] at hk
 rcases hk with rfl | rfl
 ·exact go k h1 hi
 ·exact go k h2 hj
/-- any operation, by what its run gives -/
theorem rj_val {o : Oper} {a : Act} {w : World} {K : Act → World → Prop} (hg : Region.wanted o (yielded ops a.tmps) = true) (v : Value) (w' : World) (hv : (execOp a.eval o).run P w = .ok (.value v) w') (h : K (a.put o.dst v) w') : oneI P ops [o] a w K := ⟨hg, by unfold wpN; rw [hv]; exact h⟩
theorem rj_skip {o : Oper} {a : Act} {w : World} {K : Act → World → Prop} (hg : Region.wanted o (yielded ops a.tmps) = true) (w' : World) (hv : (execOp a.eval o).run P w = .ok .skip w') (h : K (a.put o.dst undef) w') : oneI P ops [o] a w K := ⟨hg, by unfold wpN; rw [hv]; exact h⟩
end
end Go.Proofs.YtkmiecgcibjkbaaGreat
