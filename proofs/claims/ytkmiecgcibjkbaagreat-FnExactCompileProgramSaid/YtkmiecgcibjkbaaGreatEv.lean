/- Regions that draw their order: operations that each make memory of their own, in whichever order. No condition. -/
import Derived.Test.YtkmiecgcibjkbaaGreatReg2
namespace Go.Proofs.YtkmiecgcibjkbaaGreat
open Go.RowKit
/-- only blocks in [lo, hi) are turned; others may be made -/
structure Ch (w w' : World) (lo hi : Nat) : Prop where
 os : w'.os = w.os
 tape : w'.tape = w.tape
 output : w'.output = w.output
 size : w.heap.size ≤ w'.heap.size
 block : ∀ b, b < w.heap.size → ¬ (lo ≤ b ∧ b < hi) → w'.heap[b]? = w.heap[b]?
theorem Ch.of_below {w w' : World} (h : Below w.heap.size w w') : Ch w w' 0 0 := ⟨h.os, h.tape, h.output, h.size, fun b hb _ => h.block b hb⟩
theorem Ch.below {w w' : World} {lo hi : Nat} (h : Ch w w' lo hi) (he : hi ≤ lo) : Below w.heap.size w w' := ⟨h.os, h.tape, h.output, h.size, fun b hb => h.block b hb (by omega)⟩
theorem below_ch {w0 w w' : World} {B lo hi : Nat} (hV : Below B w0 w) (h : Ch w w' lo hi) (hb : B ≤ lo ∨ hi ≤ lo) (hs : B ≤ w.heap.size) : Below B w0 w' :=
 hV.trans ⟨h.os, h.tape, h.output, h.size, fun b hx => h.block b (by omega) (by omega)⟩
section
variable {P : Program} {ops : Array Oper}
structure Ev where
 i : Nat
 v : Value
 lo : Nat
 hi : Nat
def dstOf (l : List Oper) (i : Nat) : Option Tmp := (l[i]?).bind (·.dst)
/-- what is done, the last first -/
def putD (l : List Oper) (a : Act) (D : List Ev) : Act := D.foldr (fun x b => b.put (dstOf l x.i) x.v) a
def lstD (L0 : Array Bool) (D : List Ev) : Array Bool := D.foldr (fun x L => L.setIfInBounds x.i true) L0
def rV (P : Program) (R : Value → World → Prop) : Result Next → Prop
 | .ok (.value v) w' => R v w'
 | .ok .skip w' => R undef w'
 | .ok (.enter f args) w' => Calls P f args w' (fun e w'' => ∃ v, e = .returned v ∧ R v w'')
 | _ => False
def oneV (P : Program) (ops : Array Oper) : List Oper → Act → World → (Value → World → Prop) → Prop
 | [o], a, w, R => Region.wanted o (yielded ops a.tmps) = true ∧ rV P R ((execOp a.eval o).run P w)
 | _, _, _, _ => False
theorem putD_run (l : List Oper) {o : Oper} (hs : ∀ cs b, o.op ≠ .select cs b) : ∀ (D : List Ev) (a : Act), (∀ x ∈ D, ∀ d, dstOf l x.i = some d → d ∉ o.looksAt ops) →
  execOp (putD l a D).eval o = execOp a.eval o ∧ Region.wanted o (yielded ops (putD l a D).tmps) = Region.wanted o (yielded ops a.tmps)
 | [], _, _ => ⟨rfl, rfl⟩
 | x :: D, a, h => by
  obtain ⟨h1, h2⟩ := putD_run l hs D a (fun y hy => h y (by simp [hy]))
  exact ⟨(execOp_put o hs (putD l a D) (dstOf l x.i) x.v (h x (by simp))).trans h1, (wanted_put o (putD l a D) (dstOf l x.i) x.v (h x (by simp))).trans h2⟩
theorem putD_comm (l : List Oper) (i : Nat) (v : Value) : ∀ (D : List Ev) (a : Act), (∀ x ∈ D, ∀ d, dstOf l x.i = some d → dstOf l i ≠ some d) → (putD l a D).put (dstOf l i) v = putD l (a.put (dstOf l i) v) D
 | [], _, _ => rfl
 | x :: D, a, h => by
  show ((putD l a D).put (dstOf l x.i) x.v).put (dstOf l i) v = (putD l (a.put (dstOf l i) v) D).put (dstOf l x.i) x.v
  rw [← putD_comm l i v D a (fun y hy => h y (by simp [hy]))]
  exact Act.put_comm _ _ _ (h x (by simp))
theorem putD_app (l : List Oper) (a : Act) (D1 D2 : List Ev) : putD l a (D1 ++ D2) = putD l (putD l a D2) D1 := List.foldr_append ..
theorem lstD_get (L0 : Array Bool) (k : Nat) (t : Bool) : ∀ (D : List Ev), (lstD L0 D).size = L0.size ∧ (k < L0.size → (lstD L0 D).getD k t = (D.any (fun x => x.i == k) || L0.getD k t))
 | [] => ⟨rfl, fun _ => by simp [lstD]⟩
 | x :: D => by
  obtain ⟨h1, h2⟩ := lstD_get L0 k t D
  have he : lstD L0 (x :: D) = (lstD L0 D).setIfInBounds x.i true := rfl
  refine ⟨by rw [he, Array.size_setIfInBounds, h1], fun hk => ?_⟩
  rw [he]
  by_cases hx : x.i = k
  ·subst hx
   simp [h1, hk]
  ·have : ((lstD L0 D).setIfInBounds x.i true).getD k t = (lstD L0 D).getD k t := by
    simp [Array.getD_eq_getD_getElem?, hx]
   rw [this, h2 hk]
   have hf : (x.i == k) = false := by simpa using hx
   rw [List.any_cons, hf, Bool.false_or]
def bindsB (l : List Oper) (i k : Nat) : Bool := match l[i]? with
 | none => false
 | some o => o.after.toList.any fun e => Region.binds .any e && e.on == k
theorem bindsB_spec {l : List Oper} {i k : Nat} {o : Oper} (ho : l[i]? = some o) : bindsB l i k = true ↔ ∃ e ∈ o.after, Region.binds .any e = true ∧ e.on = k := by
 simp only [bindsB, ho, List.any_eq_true, Array.mem_toList_iff, Bool.and_eq_true, beq_iff_eq]
/-- the check: E are the operations that can run now or after some of E -/
def evB (l : List Oper) (L0 : Array Bool) (E : List Nat) (dep : Nat → Option Nat) (fr : Nat → Bool) (W : Nat) : Bool :=
 decide (E.Nodup) && (L0.size == l.length) && Region.noSelect l.toArray && !E.contains W &&
 (E.all fun i => decide (i < l.length) && (L0.getD i true == false) && (match l[i]? with
  | none => false
  | some o => (o.after.toList.all fun e => !Region.binds .any e || (decide (e.on < L0.size) && (L0.getD e.on false || (E.contains e.on && decide (e.on < i))))) &&
   (match dep i with
    | none => true
    | some p => E.contains p && (dep p == none) && !fr i && !fr p && (E.all fun j => j == i || dep j != some p) && bindsB l i p) &&
   (!fr i || match o.dst with
    | none => true
    | some d => !(o.looksAt l.toArray).contains d) &&
   (E.all fun j => j == i || ((match dstOf l j with
    | none => true
    | some d => (dep i == some j || (fr i && bindsB l i j) || !(o.looksAt l.toArray).contains d) && dstOf l i != some d))))) &&
 ((List.range l.length).all fun j => L0.getD j true || E.contains j || match l[j]? with
  | none => false
  | some o => (E.all fun k => (E.any fun q => decide (k < q) && bindsB l q k) || bindsB l j k) ||
   (o.after.toList.any fun e => Region.binds .any e && decide (e.on < L0.size) && !E.contains e.on && !L0.getD e.on true))
structure EvB (l : List Oper) (L0 : Array Bool) (E : List Nat) (dep : Nat → Option Nat) (fr : Nat → Bool) (W : Nat) : Prop where
 nd : E.Nodup
 sz : L0.size = l.length
 ns : Region.noSelect l.toArray = true
 nW : W ∉ E
 lt : ∀ i ∈ E, i < l.length
 un : ∀ i ∈ E, L0.getD i true = false
 af : ∀ i ∈ E, ∀ o, l[i]? = some o → ∀ e ∈ o.after, Region.binds .any e = true → e.on < L0.size ∧ (L0.getD e.on false = true ∨ (e.on ∈ E ∧ e.on < i))
 dp : ∀ i ∈ E, ∀ p, dep i = some p → p ∈ E ∧ dep p = none ∧ fr i = false ∧ fr p = false ∧ (∀ j ∈ E, j ≠ i → dep j ≠ some p) ∧ bindsB l i p = true
 sf : ∀ i ∈ E, fr i = true → ∀ o, l[i]? = some o → ∀ d, o.dst = some d → d ∉ o.looksAt l.toArray
 ap : ∀ i ∈ E, ∀ o, l[i]? = some o → ∀ j ∈ E, j ≠ i → ∀ d, dstOf l j = some d → (dep i = some j ∨ (fr i = true ∧ bindsB l i j = true) ∨ d ∉ o.looksAt l.toArray) ∧ dstOf l i ≠ some d
 ot : ∀ j o, l[j]? = some o → L0.getD j true = false → j ∉ E → (∀ k ∈ E, (∃ q ∈ E, k < q ∧ bindsB l q k = true) ∨ bindsB l j k = true) ∨ ∃ e ∈ o.after, Region.binds .any e = true ∧ e.on < L0.size ∧ e.on ∉ E ∧ L0.getD e.on true = false
theorem evB_spec {l : List Oper} {L0 : Array Bool} {E : List Nat} {dep : Nat → Option Nat} {fr : Nat → Bool} {W : Nat} (h : evB l L0 E dep fr W = true) : EvB l L0 E dep fr W := by
 simp only [evB, Bool.and_eq_true, decide_eq_true_eq, beq_iff_eq, Bool.not_eq_true', List.all_eq_true, List.mem_range] at h
 obtain ⟨⟨⟨⟨⟨h1, h2⟩, h3⟩, h4⟩, h5⟩, h6⟩ := h
 have ho : ∀ i ∈ E, ∃ o, l[i]? = some o := fun i hi => ⟨_, List.getElem?_eq_getElem (h5 i hi).1.1⟩
 refine ⟨h1, h2, h3, by simpa using h4, fun i hi => (h5 i hi).1.1, fun i hi => (h5 i hi).1.2, fun i hi o hq e he hb => ?_, fun i hi p hd => ?_, fun i hi hf o hq d hd => ?_, fun i hi o hq j hj hji d hd => ?_, fun j o hq hL hjE => ?_⟩
 ·have := (h5 i hi).2
  simp only [hq, Bool.and_eq_true] at this
  have := this.1.1.1
  simp only [List.all_eq_true] at this
  have := this e (by simpa using he)
  simpa [hb] using this
 ·obtain ⟨o, hq⟩ := ho i hi
  have := (h5 i hi).2
  simp only [hq, Bool.and_eq_true, hd] at this
  have := this.1.1.2
  simp only [List.contains_eq_mem, decide_eq_true_eq, beq_iff_eq, Bool.not_eq_true'] at this
  refine ⟨this.1.1.1.1.1, this.1.1.1.1.2, this.1.1.1.2, this.1.1.2, fun j hj hne => ?_, this.2⟩
  have h2 := this.1.2
  simp only [List.all_eq_true] at h2
  have := h2 j hj
  simp only [Bool.or_eq_true, beq_iff_eq, hne, false_or, bne_iff_ne] at this
  exact this
 ·have := (h5 i hi).2
  simp only [hq, Bool.and_eq_true] at this
  have := this.1.2
  simp only [hf, Bool.not_true, Bool.false_or, hd, Bool.not_eq_true', List.contains_eq_mem, decide_eq_false_iff_not] at this
  exact this
 ·have := (h5 i hi).2
  simp only [hq, Bool.and_eq_true] at this
  have := this.2
  simp only [List.all_eq_true] at this
  have := this j hj
  simp only [hd, Bool.or_eq_true, beq_iff_eq, hji, false_or, Bool.and_eq_true, bne_iff_ne, Bool.not_eq_true', List.contains_eq_mem, decide_eq_false_iff_not] at this
  exact ⟨by rcases this.1 with (h | h) | h; exact .inl h; exact .inr (.inl h); exact .inr (.inr h), this.2⟩
 ·have hl : j < l.length := (List.getElem?_eq_some_iff.1 hq).1
  have := h6 j hl
  simp only [hL, Bool.false_or, hq, List.contains_eq_mem, hjE, decide_false, Bool.or_eq_true, List.all_eq_true, List.any_eq_true, Array.mem_toList_iff, Bool.and_eq_true, decide_eq_true_eq, Bool.not_eq_true', decide_eq_false_iff_not] at this
  rcases this with h | h
  ·exact .inl fun k hk => by
    rcases h k hk with ⟨q, hq1, hq2⟩ | h
    ·exact .inl ⟨q, hq1, hq2⟩
    ·exact .inr h
  ·obtain ⟨e, he, h⟩ := h
   exact .inr ⟨e, he, h.1.1.1, h.1.1.2, h.1.2, h.2⟩
theorem greatest_mem : ∀ (U : List Nat), U ≠ [] → ∃ u ∈ U, ∀ v ∈ U, v ≤ u
 | [], h => absurd rfl h
 | [u], _ => ⟨u, by simp, by simp⟩
 | u :: v :: U, _ => by
  obtain ⟨x, hx, hm⟩ := greatest_mem (v :: U) (by simp)
  rcases Nat.le_total x u with h | h
  ·exact ⟨u, by simp, fun y hy => by rcases List.mem_cons.1 hy with rfl | hy; exact Nat.le_refl _; exact Nat.le_trans (hm y hy) h⟩
  ·exact ⟨x, by simp [hx], fun y hy => by rcases List.mem_cons.1 hy with rfl | hy; exact h; exact hm y hy⟩
theorem filter_perm (b : Ev → Bool) : ∀ D : List Ev, D.Perm (D.filter (fun x => !b x) ++ D.filter b)
 | [] => List.Perm.refl _
 | x :: D => by
  cases hb : b x with
  | true =>
   rw [List.filter_cons_of_neg (by simp [hb]), List.filter_cons_of_pos hb]
   exact (List.Perm.cons x (filter_perm b D)).trans List.perm_middle.symm
  | false =>
   rw [List.filter_cons_of_pos (by simp [hb]), List.filter_cons_of_neg (by simp [hb])]
   exact List.Perm.cons x (filter_perm b D)
theorem least_mem : ∀ (U : List Nat), U ≠ [] → ∃ u ∈ U, ∀ v ∈ U, u ≤ v
 | [], h => absurd rfl h
 | [u], _ => ⟨u, by simp, by simp⟩
 | u :: v :: U, _ => by
  obtain ⟨x, hx, hm⟩ := least_mem (v :: U) (by simp)
  rcases Nat.le_total u x with h | h
  ·exact ⟨u, by simp, fun y hy => by rcases List.mem_cons.1 hy with rfl | hy; exact Nat.le_refl _; exact Nat.le_trans h (hm y hy)⟩
  ·exact ⟨x, by simp [hx], fun y hy => by rcases List.mem_cons.1 hy with rfl | hy; exact h; exact hm y hy⟩
theorem perm_sort {E : List Nat} : ∀ {D : List Ev}, (D.map Ev.i).Perm E → ∃ D' : List Ev, D'.Perm D ∧ D'.map Ev.i = E := by
 induction E with
 | nil => intro D h; exact ⟨[], by have := List.map_eq_nil_iff.1 (List.perm_nil.1 h); subst this; exact List.Perm.refl _, rfl⟩
 | cons e E ih =>
  intro D h
  obtain ⟨x, hx, he⟩ := List.mem_map.1 (h.mem_iff.2 (by simp : e ∈ e :: E))
  obtain ⟨s, t, rfl⟩ := List.append_of_mem hx
  have hp : (s ++ x :: t).Perm (x :: (s ++ t)) := List.perm_middle
  have h2 := (hp.map Ev.i).symm.trans h
  simp only [List.map_cons, he] at h2
  obtain ⟨D', h3, h4⟩ := ih (List.Perm.cons_inv h2)
  exact ⟨x :: D', (List.Perm.cons x h3).trans hp.symm, by simp [he, h4]⟩
theorem putD_perm {l : List Oper} {D D' : List Ev} (hp : D.Perm D') (h : ∀ x ∈ D, ∀ y ∈ D, x.i ≠ y.i → ∀ d, dstOf l x.i = some d → dstOf l y.i ≠ some d) (hn : (D.map Ev.i).Nodup) (a : Act) : putD l a D = putD l a D' := by
 refine List.Perm.foldr_eq' hp (fun x hx y hy z => ?_) a
 by_cases he : x.i = y.i
 ·have : x = y := by
   exact Classical.byContradiction fun hne => by
    obtain ⟨s, t, rfl⟩ := List.append_of_mem hx
    simp only [List.map_append, List.map_cons, List.nodup_append, List.nodup_cons, List.mem_append, List.mem_cons] at hn hy
    rcases hy with hy | hy | hy
    ·exact hn.2.2 _ (List.mem_map_of_mem hy) _ (by simp) he.symm
    ·exact hne hy.symm
    ·exact hn.2.1.1 (he ▸ List.mem_map_of_mem hy)
  subst this; rfl
 ·exact Act.put_comm z x.v y.v (h x hx y hy he)
def putL (l : List Oper) : Act → List Ev → Act
 | a, [] => a
 | a, x :: D => putL l (a.put (dstOf l x.i) x.v) D
theorem putL_eq (l : List Oper) : ∀ (D : List Ev) (a : Act), putL l a D = putD l a D.reverse
 | [], _ => rfl
 | x :: D, a => by
  rw [List.reverse_cons, putD_app, putL, putL_eq l D]
  rfl
theorem lstD_set (L0 : Array Bool) : ∀ (E : List Nat) (D : List Ev), (D.map Ev.i).Perm E → lstD L0 D = setAll L0 E := by
 intro E D hp
 have hset : ∀ (E : List Nat) (L : Array Bool), (setAll L E).size = L.size ∧ ∀ k < L.size, (setAll L E)[k]? = some (E.contains k || L.getD k true) := by
  intro E
  induction E with
  | nil => intro L; exact ⟨rfl, fun k hk => by simp [setAll, hk]⟩
  | cons e E ih =>
   intro L
   obtain ⟨h1, h2⟩ := ih (L.setIfInBounds e true)
   refine ⟨by simpa [setAll] using h1, fun k hk => ?_⟩
   have := h2 k (by simpa using hk)
   simp only [setAll]
   rw [this]
   by_cases hx : e = k
   ·subst hx; simp [hk]
   ·have h3 : (L.setIfInBounds e true).getD k true = L.getD k true := by simp [Array.getD_eq_getD_getElem?, hx]
    have hf : (k == e) = false := by simpa using fun h => hx h.symm
    rw [h3, List.contains_cons, hf, Bool.false_or]
 obtain ⟨h1, h2⟩ := hset E L0
 refine Array.ext_getElem? fun k => ?_
 by_cases hk : k < L0.size
 ·rw [h2 k hk]
  have h3 := (lstD_get L0 k true D).2 hk
  have h4 : k < (lstD L0 D).size := by rw [(lstD_get L0 k true D).1]; exact hk
  simp only [Array.getD_eq_getD_getElem?, Array.getElem?_eq_getElem h4, Option.getD_some] at h3
  rw [Array.getElem?_eq_getElem h4, h3, Array.getD_eq_getD_getElem?]
  congr 2
  rw [Bool.eq_iff_iff]
  simp only [List.any_eq_true, beq_iff_eq, List.contains_eq_mem, decide_eq_true_eq]
  rw [← hp.mem_iff, List.mem_map]
 ·rw [Array.getElem?_eq_none (by rw [(lstD_get L0 k true D).1]; omega), Array.getElem?_eq_none (by rw [h1]; omega)]
/-- the state of such a region -/
structure EvI (P : Program) (l : List Oper) (a : Act) (w w' : World) (dep : Nat → Option Nat) (fr : Nat → Bool) (Good : Nat → Value → Nat → Nat → World → Prop) (E : List Nat) (D : List Ev) (U : List Nat) : Prop where
 pm : (D.map Ev.i ++ U).Perm E
 cl : ∀ x ∈ D, ∀ p ∈ E, bindsB l x.i p = true → p ∈ D.map Ev.i
 fx : ∀ x ∈ D, fr x.i = true → ∀ o, l[x.i]? = some o → ∀ w2, (execOp (putD l a D).eval o).run P w2 = .ok (.value x.v) w2
 bl : Below w.heap.size w w'
 gd : ∀ x ∈ D, ((∀ y ∈ D, dep y.i ≠ some x.i) → Good x.i x.v x.lo x.hi w') ∧ w.heap.size ≤ x.lo ∧ x.hi ≤ w'.heap.size
 pw : D.Pairwise (fun x y => dep x.i ≠ some y.i → dep y.i ≠ some x.i → x.hi ≤ y.lo ∨ y.hi ≤ x.lo)
theorem ev_go {l : List Oper} {W : Nat} {Pw : World → Prop} {Q : Act → World → Prop} {fuel : Nat} {L0 : Array Bool} {a : Act} {w : World} {E : List Nat} {dep : Nat → Option Nat} {fr : Nat → Bool} (Good : Nat → Value → Nat → Nat → World → Prop)
  (B : EvB l L0 E dep fr W) (hPw : ∀ w', Below w.heap.size w w' → Pw w')
  (stab : ∀ i v lo hi w w' l u, Good i v lo hi w → hi ≤ w.heap.size → Ch w w' l u → (u ≤ lo ∨ hi ≤ l ∨ u ≤ l) → Good i v lo hi w')
  (step0 : ∀ i ∈ E, dep i = none → fr i = false → ∀ w', Below w.heap.size w w' → oneV P l.toArray (pick l [i]) a w' (fun v w'' => Below w'.heap.size w' w'' ∧ Good i v w'.heap.size w''.heap.size w''))
  (step1 : ∀ i ∈ E, ∀ p, dep i = some p → ∀ w' v lo hi, Below w.heap.size w w' → Good p v lo hi w' → w.heap.size ≤ lo → hi ≤ w'.heap.size →
   oneV P l.toArray (pick l [i]) (a.put (dstOf l p) v) w' (fun v' w'' => Ch w' w'' lo hi ∧ (Good i v' lo hi w'' ∨ Good i v' w'.heap.size w''.heap.size w'')))
  (stepF : ∀ i ∈ E, fr i = true → ∀ o, l[i]? = some o → ∀ D w', D.map Ev.i = E.filter (bindsB l i) → (∀ x ∈ D, (∀ y ∈ E, dep y ≠ some x.i) → Good x.i x.v x.lo x.hi w') →
   ∃ v, Region.wanted o (yielded l.toArray (putL l a D).tmps) = true ∧ ∀ w2, (execOp (putL l a D).eval o).run P w2 = .ok (.value v) w2)
  (gF : ∀ i, fr i = true → ∀ v lo hi w, Good i v lo hi w)
  (hk : ∀ D w', D.map Ev.i = E → Below w.heap.size w w' → (∀ x ∈ D, fr x.i = true → ∀ o, l[x.i]? = some o → ∀ w2, (execOp (putL l a D).eval o).run P w2 = .ok (.value x.v) w2) → (∀ x ∈ D, ((∀ y ∈ D, dep y.i ≠ some x.i) → Good x.i x.v x.lo x.hi w') ∧ w.heap.size ≤ x.lo ∧ x.hi ≤ w'.heap.size) → D.Pairwise (fun x y => dep x.i ≠ some y.i → dep y.i ≠ some x.i → x.hi ≤ y.lo ∨ y.hi ≤ x.lo) →
   anyJ P l.toArray W Pw Q fuel (setAll L0 E) (putL l a D) w') :
  ∀ (m : Nat) (D : List Ev) (U : List Nat) (w' : World), U.length = m → EvI P l a w w' dep fr Good E D U → anyJ P l.toArray W Pw Q (fuel + m) (lstD L0 D) (putD l a D) w' := by
 intro m
 induction m with
 | zero =>
  intro D U w' hU I
  obtain rfl := List.length_eq_zero_iff.1 hU
  have hp : (D.map Ev.i).Perm E := by have := I.pm; rwa [List.append_nil] at this
  obtain ⟨D', h1, h2⟩ := perm_sort hp
  have hnd : (D.map Ev.i).Nodup := hp.nodup_iff.2 B.nd
  have hdst : ∀ x ∈ D, ∀ y ∈ D, x.i ≠ y.i → ∀ d, dstOf l x.i = some d → dstOf l y.i ≠ some d := fun x hx y hy hne d hd => by
   have hx' := hp.mem_iff.1 (List.mem_map_of_mem hx)
   have hy' := hp.mem_iff.1 (List.mem_map_of_mem hy)
   exact (B.ap y.i hy' _ (List.getElem?_eq_getElem (B.lt _ hy')) x.i hx' hne d hd).2
  have hpd : putD l a D = putL l a D' := by rw [putD_perm (h1.symm.trans (List.reverse_perm D').symm) hdst hnd, ← putL_eq]
  rw [lstD_set L0 E D hp, hpd]
  refine hk D' w' h2 I.bl (fun x hx hf o ho w2 => hpd ▸ I.fx x (h1.mem_iff.1 hx) hf o ho w2) (fun x hx => ⟨fun hq => (I.gd x (h1.mem_iff.1 hx)).1 (fun y hy => hq y (h1.mem_iff.2 hy)), (I.gd x (h1.mem_iff.1 hx)).2⟩) ?_
  refine (List.Perm.pairwise_iff (fun {x y} h hxy hyx => (h hyx hxy).symm) h1).2 I.pw
 | succ m ih =>
  intro D U w' hU I
  have hmem : ∀ k, k ∈ E ↔ k ∈ D.map Ev.i ∨ k ∈ U := fun k => by rw [← I.pm.mem_iff, List.mem_append]
  have hnd : (D.map Ev.i ++ U).Nodup := I.pm.nodup_iff.2 B.nd
  have hdis : ∀ k ∈ U, k ∉ D.map Ev.i := fun k hk hd => (List.nodup_append.1 hnd).2.2 k hd k hk rfl
  have hget : ∀ k t, k < L0.size → ((lstD L0 D).getD k t = true ↔ (k ∈ D.map Ev.i ∨ L0.getD k t = true)) := fun k t hk => by
   rw [(lstD_get L0 k t D).2 hk, Bool.or_eq_true]
   simp only [List.any_eq_true, beq_iff_eq, List.mem_map]
  have hsz : ∀ k ∈ E, k < L0.size := fun k hk => by rw [B.sz]; exact B.lt k hk
  have hfalse : ∀ k t, k ∈ E → L0.getD k t = false := fun k t hk => by
   have := B.un k hk
   simpa [Array.getD_eq_getD_getElem?, hsz k hk] using this
  have rdy : ∀ j ∈ U, (∀ p ∈ E, p < j → p ∈ D.map Ev.i) → j ∈ Region.ready .any l.toArray (lstD L0 D) := fun j hj hp => by
   have hjE := (hmem j).2 (.inr hj)
   rw [mem_ready]
   refine ⟨?_, l[j]'(B.lt j hjE), by simp [B.lt j hjE], fun e he hbd => ?_⟩
   ·cases hq : (lstD L0 D).getD j true with
    | false => rfl
    | true =>
     rcases (hget j true (hsz j hjE)).1 hq with h | h
     ·exact absurd h (hdis j hj)
     ·rw [hfalse j true hjE] at h; cases h
   ·obtain ⟨h1, h2⟩ := B.af j hjE _ (List.getElem?_eq_getElem (B.lt j hjE)) e he hbd
    refine (hget _ _ h1).2 ?_
    rcases h2 with h2 | h2
    ·exact .inr h2
    ·exact .inl (hp _ h2.1 h2.2)
  have hcl : ∀ q ∈ E, ∀ u ∈ U, bindsB l q u = true → q ∈ U := fun q hq u hu hd => by
   rcases (hmem q).1 hq with h | h
   ·obtain ⟨x, hx, rfl⟩ := List.mem_map.1 h
    exact absurd (I.cl x hx u ((hmem u).2 (.inr hu)) hd) (hdis u hu)
   ·exact h
  refine ⟨fun h0 => ?_, fun i hi => ?_⟩
  ·exfalso
   obtain ⟨u, hu, hmin⟩ := least_mem U (by intro h; rw [h] at hU; simp at hU)
   have := rdy u hu (fun p hp hlt => by
    rcases (hmem p).1 hp with h | h
    ·exact h
    ·have := hmin p h; omega)
   rw [h0] at this; cases this
  ·obtain ⟨hun, o, ho, hall⟩ := mem_ready.1 hi
   have ho' : l[i]? = some o := by simpa using ho
   have hil : i < l.length := (List.getElem?_eq_some_iff.1 ho').1
   have hiL : i < L0.size := by rw [B.sz]; exact hil
   have hiD : i ∉ D.map Ev.i := fun h => by have := (hget i true hiL).2 (.inl h); rw [hun] at this; cases this
   have hiL0 : L0.getD i true = false := by
    cases hq : L0.getD i true with
    | false => rfl
    | true => have := (hget i true hiL).2 (.inr hq); rw [hun] at this; cases this
   have hiE : i ∈ E := by
    refine Classical.byContradiction fun hn => ?_
    rcases B.ot i o ho' hiL0 hn with h | ⟨e, he, hb, hl, hnE, hL⟩
    ·obtain ⟨u, hu, hmax⟩ := greatest_mem U (by intro h; rw [h] at hU; simp at hU)
     have huE := (hmem u).2 (.inr hu)
     rcases h u huE with ⟨q, hq1, hlt, hq2⟩ | hb
     ·have := hmax q (hcl q hq1 u hu hq2); omega
     ·obtain ⟨e, he, hb, heq⟩ := (bindsB_spec ho').1 hb
      have := hall e he hb
      rw [heq] at this
      rcases (hget u false (hsz u huE)).1 this with h | h
      ·exact hdis u hu h
      ·rw [hfalse u false huE] at h; cases h
    ·have := hall e he hb
     rcases (hget e.on false hl).1 this with h | h
     ·exact hnE ((hmem _).2 (.inl h))
     ·have h2 : L0.getD e.on false = L0.getD e.on true := by simp [Array.getD_eq_getD_getElem?, hl]
      rw [h2, hL] at h; cases h
   have hiU : i ∈ U := by
    rcases (hmem i).1 hiE with h | h
    ·exact absurd h hiD
    ·exact h
   have hpre : ∀ p ∈ E, bindsB l i p = true → p ∈ D.map Ev.i := fun p hpE hb => by
    obtain ⟨e, he, hb, heq⟩ := (bindsB_spec ho').1 hb
    have := hall e he hb
    rw [heq] at this
    rcases (hget p false (hsz p hpE)).1 this with h | h
    ·exact h
    ·rw [hfalse p false hpE] at h; cases h
   have hsel : ∀ cs b, o.op ≠ .select cs b := fun cs b => Region.noSelect_spec B.ns i o cs b (by simpa using ho)
   have hpm : ∀ v lo hi, (((⟨i, v, lo, hi⟩ : Ev) :: D).map Ev.i ++ U.erase i).Perm E := fun v lo hi => by
    refine List.Perm.trans ?_ I.pm
    show (i :: (D.map Ev.i ++ U.erase i)).Perm (D.map Ev.i ++ U)
    refine List.Perm.trans List.perm_middle.symm ?_
    exact List.Perm.append_left _ (List.perm_cons_erase hiU).symm
   have hlen : (U.erase i).length = m := by rw [List.length_erase_of_mem hiU, hU]; rfl
   have next : ∀ v lo hi w'' cl cu, Ch w' w'' cl cu → w.heap.size ≤ cl ∨ cu ≤ cl → (∀ x ∈ D, dep i ≠ some x.i → cu ≤ x.lo ∨ x.hi ≤ cl ∨ cu ≤ cl) → Good i v lo hi w'' → w.heap.size ≤ lo → hi ≤ w''.heap.size → (fr i = true → ∀ w2, (execOp (putD l a D).eval o).run P w2 = .ok (.value v) w2) →
     (∀ y ∈ D, dep i ≠ some y.i → dep y.i ≠ some i → hi ≤ y.lo ∨ y.hi ≤ lo) →
     Jw W Pw ((lstD L0 D).setIfInBounds i true) w'' ∧ anyJ P l.toArray W Pw Q (fuel + m) ((lstD L0 D).setIfInBounds i true) ((putD l a D).put o.dst v) w'' := fun v lo hi w'' cl cu hb hc hdj hg h1 h2 hfi hpw => by
    have hB : Below w.heap.size w w'' := below_ch I.bl hb hc I.bl.size
    have hd : dstOf l i = o.dst := by unfold dstOf; rw [ho']; rfl
    refine ⟨fun _ => hPw _ hB, ?_⟩
    have := ih (⟨i, v, lo, hi⟩ :: D) (U.erase i) w'' hlen ⟨hpm v lo hi, ?_, ?_, hB, ?_, ?_⟩
    ·show anyJ P l.toArray W Pw Q (fuel + m) (lstD L0 (⟨i, v, lo, hi⟩ :: D)) ((putD l a D).put o.dst v) w''
     rw [← hd]
     exact this
    ·intro x hx p hpE hpx
     rcases List.mem_cons.1 hx with rfl | hx
     ·exact List.mem_cons_of_mem _ (hpre p hpE hpx)
     ·exact List.mem_cons_of_mem _ (I.cl x hx p hpE hpx)
    ·intro x hx hfx ox hox w2
     show (execOp ((putD l a D).put (dstOf l i) v).eval ox).run P w2 = _
     rcases List.mem_cons.1 hx with rfl | hx
     ·obtain rfl : o = ox := Option.some.inj (ho'.symm.trans hox)
      rw [execOp_put (ops := l.toArray) o hsel (putD l a D) (dstOf l i) v (fun d hdx => B.sf i hiE hfx o ho' d (hd ▸ hdx))]
      exact hfi hfx w2
     ·have hxE := (hmem x.i).2 (.inl (List.mem_map_of_mem hx))
      have hne : i ≠ x.i := fun h => hiD (h ▸ List.mem_map_of_mem hx)
      rw [execOp_put (ops := l.toArray) ox (fun cs b => Region.noSelect_spec B.ns x.i ox cs b (by simpa using hox)) (putD l a D) (dstOf l i) v (fun d hdx => by
       rcases (B.ap x.i hxE ox hox i hiE hne d hdx).1 with h | h | h
       ·have := (B.dp x.i hxE i h).2.2.1; rw [hfx] at this; cases this
       ·exact absurd (I.cl x hx i hiE h.2) hiD
       ·exact h)]
      exact I.fx x hx hfx ox hox w2
    ·intro x hx
     rcases List.mem_cons.1 hx with rfl | hx
     ·exact ⟨fun _ => hg, h1, h2⟩
     ·obtain ⟨q1, q2, q3⟩ := I.gd x hx
      exact ⟨fun hq => stab _ _ _ _ _ _ _ _ (q1 (fun y hy => hq y (by simp [hy]))) q3 hb (hdj x hx (hq ⟨i, v, lo, hi⟩ (by simp))), q2, Nat.le_trans q3 hb.size⟩
    ·exact List.pairwise_cons.2 ⟨hpw, I.pw⟩
   have hopn : ∀ (K : Act → World → Prop) (R : Value → World → Prop) (a0 : Act), execOp (putD l a D).eval o = execOp a0.eval o → Region.wanted o (yielded l.toArray (putD l a D).tmps) = Region.wanted o (yielded l.toArray a0.tmps) →
     oneV P l.toArray (pick l [i]) a0 w' R → (∀ v w'', R v w'' → K ((putD l a D).put o.dst v) w'') → opN P l.toArray i K (putD l a D) w' := fun K R a0 e1 e2 h hK => by
    simp only [pick, ho', oneV] at h
    unfold opN
    simp only [List.getElem?_toArray, ho', e2, h.1, if_true]
    have h2 := h.2
    unfold wpN
    rw [e1]
    generalize (execOp a0.eval o).run P w' = r at h2 ⊢
    cases r with
    | halt x w'' => exact h2
    | ok n w'' =>
     cases n <;> simp only [uponN, rV] at h2 ⊢
     case value v => exact hK v _ h2
     case skip => exact hK _ _ h2
     case enter f args => exact Calls.mono h2 fun e w2 ⟨v, he, hr⟩ => ⟨v, he, hK v w2 hr⟩
   cases hfi : fr i with
   | true =>
    have hfE : ∀ x, x ∈ (D.filter (fun x => bindsB l i x.i)) → x ∈ D := fun x hx => (List.mem_filter.1 hx).1
    have hndD : (D.map Ev.i).Nodup := (List.nodup_append.1 hnd).1
    have hpf : ((D.filter (fun x => bindsB l i x.i)).map Ev.i).Perm (E.filter (bindsB l i)) := by
     refine (List.perm_ext_iff_of_nodup ?_ (B.nd.sublist List.filter_sublist)).2 fun k => ?_
     ·exact hndD.sublist (List.Sublist.map Ev.i List.filter_sublist)
     ·simp only [List.mem_map, List.mem_filter]
      refine ⟨?_, ?_⟩
      ·rintro ⟨x, ⟨hx, hb⟩, rfl⟩
       exact ⟨(hmem x.i).2 (.inl (List.mem_map_of_mem hx)), hb⟩
      ·rintro ⟨hk, hb⟩
       obtain ⟨x, hx, rfl⟩ := List.mem_map.1 (hpre k hk hb)
       exact ⟨x, ⟨hx, hb⟩, rfl⟩
    obtain ⟨D', q1, q2⟩ := perm_sort hpf
    obtain ⟨v, hw1, hv⟩ := stepF i hiE hfi o ho' D' w' q2 (fun x hx hq => (I.gd x (hfE x (q1.mem_iff.1 hx))).1 (fun y hy => hq y.i ((hmem y.i).2 (.inl (List.mem_map_of_mem hy)))))
    have hdst : ∀ x ∈ D, ∀ y ∈ D, x.i ≠ y.i → ∀ d, dstOf l x.i = some d → dstOf l y.i ≠ some d := fun x hx y hy hne d hd => by
     have hx' := (hmem x.i).2 (.inl (List.mem_map_of_mem hx))
     have hy' := (hmem y.i).2 (.inl (List.mem_map_of_mem hy))
     exact (B.ap y.i hy' _ (List.getElem?_eq_getElem (B.lt _ hy')) x.i hx' hne d hd).2
    have hput : putD l a D = putD l (putL l a D') (D.filter (fun x => !bindsB l i x.i)) := by
     rw [putL_eq, ← putD_app]
     refine putD_perm ((filter_perm (fun x => bindsB l i x.i) D).trans (List.Perm.append_left _ (q1.symm.trans (List.reverse_perm D').symm))) hdst hndD a
    obtain ⟨e1, e2⟩ := putD_run (ops := l.toArray) l hsel (D.filter (fun x => !bindsB l i x.i)) (putL l a D') (fun x hx d hdx => by
     have hxD := (List.mem_filter.1 hx).1
     have hxE := (hmem x.i).2 (.inl (List.mem_map_of_mem hxD))
     have hne : x.i ≠ i := fun h => hiD (h ▸ List.mem_map_of_mem hxD)
     rcases (B.ap i hiE o ho' x.i hxE hne d hdx).1 with h | h | h
     ·have := (B.dp i hiE x.i h).2.2.1; rw [hfi] at this; cases this
     ·have := (List.mem_filter.1 hx).2; rw [h.2] at this; cases this
     ·exact h)
    rw [← hput] at e1 e2
    have hrun : ∀ w2, (execOp (putD l a D).eval o).run P w2 = .ok (.value v) w2 := fun w2 => by rw [e1]; exact hv w2
    refine hopn _ (fun u w'' => u = v ∧ w'' = w') (putL l a D') e1 e2 ?_ (fun u w'' hu => ?_)
    ·simp only [pick, ho', oneV]
     exact ⟨hw1, by rw [hv]; exact ⟨rfl, rfl⟩⟩
    ·obtain ⟨rfl, rfl⟩ := hu
     exact next u w.heap.size w.heap.size w'' 0 0 (Ch.of_below (Below.refl _ _)) (.inr (Nat.le_refl _)) (fun _ _ _ => .inr (.inr (Nat.le_refl _))) (gF i hfi _ _ _ _) (Nat.le_refl _) I.bl.size (fun _ => hrun) (fun y hy _ _ => .inl (I.gd y hy).2.1)
   | false =>
   cases hd : dep i with
   | none =>
    obtain ⟨e1, e2⟩ := putD_run (ops := l.toArray) l hsel D a (fun x hx d hdx => by
     have hxE := (hmem x.i).2 (.inl (List.mem_map_of_mem hx))
     have hne : x.i ≠ i := fun h => hiD (h ▸ List.mem_map_of_mem hx)
     rcases (B.ap i hiE o ho' x.i hxE hne d hdx).1 with h | h | h
     ·rw [hd] at h; cases h
     ·rw [hfi] at h; cases h.1
     ·exact h)
    refine hopn _ _ a e1 e2 (step0 i hiE hd hfi w' I.bl) (fun v w'' hv => ?_)
    exact next v _ _ w'' 0 0 (Ch.of_below hv.1) (.inr (Nat.le_refl _)) (fun _ _ _ => .inr (.inr (Nat.le_refl _))) hv.2 I.bl.size (Nat.le_refl _) (fun hq => by rw [hfi] at hq; cases hq) (fun y hy _ _ => .inr (I.gd y hy).2.2)
   | some p =>
    obtain ⟨hpE, hpn, -, -, hpu, hpb⟩ := B.dp i hiE p hd
    have hpD : p ∈ D.map Ev.i := hpre p hpE hpb
    obtain ⟨x, hx, hxp⟩ := List.mem_map.1 hpD
    obtain ⟨g1, g2, g3⟩ := I.gd x hx
    have hothers : ∀ y ∈ D, y.i ≠ p → ∀ d, dstOf l y.i = some d → d ∉ o.looksAt l.toArray := fun y hy hyp d hdx => by
     have hyE := (hmem y.i).2 (.inl (List.mem_map_of_mem hy))
     have hne : y.i ≠ i := fun h => hiD (h ▸ List.mem_map_of_mem hy)
     rcases (B.ap i hiE o ho' y.i hyE hne d hdx).1 with h | h | h
     ·rw [hd] at h; exact absurd (Option.some.inj h).symm hyp
     ·rw [hfi] at h; cases h.1
     ·exact h
    obtain ⟨s, t, hst⟩ := List.append_of_mem hx
    have hndD : (D.map Ev.i).Nodup := (List.nodup_append.1 hnd).1
    have hne : ∀ y ∈ s ++ t, y.i ≠ p := fun y hy he => by
     rw [hst, List.map_append, List.map_cons, List.nodup_append, List.nodup_cons] at hndD
     rcases List.mem_append.1 hy with h | h
     ·exact hndD.2.2 y.i (List.mem_map_of_mem h) x.i (by simp) (he.trans hxp.symm)
     ·exact hndD.2.1.1 (hxp.trans he.symm ▸ List.mem_map_of_mem h)
    have hsub : ∀ y ∈ s ++ t, y ∈ D := fun y hy => by rw [hst]; rcases List.mem_append.1 hy with h | h <;> simp [h]
    have hput : putD l a D = putD l (a.put (dstOf l p) x.v) (s ++ t) := by
     rw [hst, putD_app, putD_app]
     show putD l ((putD l a t).put (dstOf l x.i) x.v) s = _
     rw [hxp, putD_comm l p x.v t a (fun y hy d hdy => ?_)]
     have hyD := hsub y (by simp [hy])
     have hyE := (hmem y.i).2 (.inl (List.mem_map_of_mem hyD))
     exact (B.ap p hpE _ (List.getElem?_eq_getElem (B.lt p hpE)) y.i hyE (hne y (by simp [hy])) d hdy).2
    obtain ⟨e1, e2⟩ := putD_run (ops := l.toArray) l hsel (s ++ t) (a.put (dstOf l p) x.v) (fun y hy => hothers y (hsub y hy) (hne y hy))
    rw [← hput] at e1 e2
    have g1' : Good x.i x.v x.lo x.hi w' := g1 (fun y hy h => hpu y.i ((hmem y.i).2 (.inl (List.mem_map_of_mem hy))) (fun h2 => hiD (h2 ▸ List.mem_map_of_mem hy)) (h.trans (by rw [hxp])))
    have hdj : ∀ y ∈ D, y.i ≠ x.i → x.hi ≤ y.lo ∨ y.hi ≤ x.lo := fun y hy hyx => by
     have hdx : dep x.i ≠ some y.i := by rw [hxp, hpn]; exact fun h => by cases h
     have hdy : dep y.i ≠ some x.i := fun h => hpu y.i ((hmem y.i).2 (.inl (List.mem_map_of_mem hy))) (fun h2 => hiD (h2 ▸ List.mem_map_of_mem hy)) (h.trans (by rw [hxp]))
     have hpw := I.pw
     rw [hst, List.pairwise_append, List.pairwise_cons] at hpw
     rw [hst] at hy
     rcases List.mem_append.1 hy with hy | hy
     ·exact (hpw.2.2 y hy x (by simp) hdy hdx).symm
     ·rcases List.mem_cons.1 hy with rfl | hy
      ·exact absurd rfl hyx
      ·exact hpw.2.1.1 y hy hdx hdy
    have hdj2 : ∀ y ∈ D, dep i ≠ some y.i → x.hi ≤ y.lo ∨ y.hi ≤ x.lo ∨ x.hi ≤ x.lo := fun y hy hn => by
     rcases hdj y hy (fun h => hn (by rw [hd, h, hxp])) with h | h
     ·exact .inl h
     ·exact .inr (.inl h)
    refine hopn _ _ _ e1 e2 (step1 i hiE p hd w' x.v x.lo x.hi I.bl (hxp ▸ g1') g2 g3) (fun v w'' hv => ?_)
    rcases hv.2 with hv2 | hv2
    ·exact next v x.lo x.hi w'' _ _ hv.1 (.inl g2) hdj2 hv2 g2 (Nat.le_trans g3 hv.1.size) (fun hq => by rw [hfi] at hq; cases hq) (fun y hy hn1 _ => hdj y hy (fun h => hn1 (by rw [hd, h, hxp])))
    ·exact next v _ _ w'' _ _ hv.1 (.inl g2) hdj2 hv2 I.bl.size (Nat.le_refl _) (fun hq => by rw [hfi] at hq; cases hq) (fun y hy _ _ => .inr (I.gd y hy).2.2)
end
section
variable {P : Program} {ops : Array Oper}
/-- operations that each make memory of their own; 'dep' : one that goes on with what one other of them made -/
theorem rj_ev {l : List Oper} {W : Nat} {Pw : World → Prop} {Q : Act → World → Prop} {fuel n : Nat} {L0 : Array Bool} {a : Act} {w : World} (E : List Nat) (dep : Nat → Option Nat) (fr : Nat → Bool) (Good : Nat → Value → Nat → Nat → World → Prop)
  (hb : evB l L0 E dep fr W = true) (hn : n = fuel + E.length) (hPw : ∀ w', Below w.heap.size w w' → Pw w')
  (stab : ∀ i v lo hi w w' l u, Good i v lo hi w → hi ≤ w.heap.size → Ch w w' l u → (u ≤ lo ∨ hi ≤ l ∨ u ≤ l) → Good i v lo hi w')
  (step0 : ∀ i ∈ E, dep i = none → fr i = false → ∀ w', Below w.heap.size w w' → oneV P l.toArray (pick l [i]) a w' (fun v w'' => Below w'.heap.size w' w'' ∧ Good i v w'.heap.size w''.heap.size w''))
  (step1 : ∀ i ∈ E, ∀ p, dep i = some p → ∀ w' v lo hi, Below w.heap.size w w' → Good p v lo hi w' → w.heap.size ≤ lo → hi ≤ w'.heap.size →
   oneV P l.toArray (pick l [i]) (a.put (dstOf l p) v) w' (fun v' w'' => Ch w' w'' lo hi ∧ (Good i v' lo hi w'' ∨ Good i v' w'.heap.size w''.heap.size w'')))
  (stepF : ∀ i ∈ E, fr i = true → ∀ o, l[i]? = some o → ∀ D w', D.map Ev.i = E.filter (bindsB l i) → (∀ x ∈ D, (∀ y ∈ E, dep y ≠ some x.i) → Good x.i x.v x.lo x.hi w') →
   ∃ v, Region.wanted o (yielded l.toArray (putL l a D).tmps) = true ∧ ∀ w2, (execOp (putL l a D).eval o).run P w2 = .ok (.value v) w2)
  (gF : ∀ i, fr i = true → ∀ v lo hi w, Good i v lo hi w)
  (hk : ∀ D w', D.map Ev.i = E → Below w.heap.size w w' → (∀ x ∈ D, fr x.i = true → ∀ o, l[x.i]? = some o → ∀ w2, (execOp (putL l a D).eval o).run P w2 = .ok (.value x.v) w2) → (∀ x ∈ D, ((∀ y ∈ D, dep y.i ≠ some x.i) → Good x.i x.v x.lo x.hi w') ∧ w.heap.size ≤ x.lo ∧ x.hi ≤ w'.heap.size) → D.Pairwise (fun x y => dep x.i ≠ some y.i → dep y.i ≠ some x.i → x.hi ≤ y.lo ∨ y.hi ≤ x.lo) →
   anyJ P l.toArray W Pw Q fuel (setAll L0 E) (putL l a D) w') : anyJ P l.toArray W Pw Q n L0 a w := by
 subst hn
 exact ev_go Good (evB_spec hb) hPw stab step0 step1 stepF gF hk E.length [] E w rfl ⟨List.Perm.refl _, by simp, by simp, Below.refl _ _, by simp, List.Pairwise.nil⟩
/-- what an operation makes: a property that stays where its memory stays -/
structure Gd where
 p : Value → Nat → Nat → World → Prop
 st : ∀ v lo hi w w' l u, p v lo hi w → hi ≤ w.heap.size → Ch w w' l u → (u ≤ lo ∨ hi ≤ l ∨ u ≤ l) → p v lo hi w'
def gdT : Gd := ⟨fun _ _ _ _ => True, fun _ _ _ _ _ _ _ _ _ _ _ => trivial⟩
structure Es where
 i : Nat
 dep : Option Nat
 fr : Bool
 g : Gd
def depE (E : List Es) (i : Nat) : Option Nat := (E.find? (·.i == i)).bind (·.dep)
def frE (E : List Es) (i : Nat) : Bool := ((E.find? (·.i == i)).map (·.fr)).getD false
def gE (E : List Es) (i : Nat) : Gd := ((E.find? (·.i == i)).map (·.g)).getD gdT
theorem find_Es : ∀ {E : List Es}, (E.map Es.i).Nodup → ∀ e ∈ E, E.find? (·.i == e.i) = some e
 | x :: E, h, e, he => by
  rw [List.map_cons, List.nodup_cons] at h
  rw [List.find?_cons]
  rcases List.mem_cons.1 he with rfl | he
  ·simp
  ·have hne : (x.i == e.i) = false := by simpa using fun (hx : x.i = e.i) => h.1 (hx ▸ List.mem_map_of_mem he)
   rw [hne]
   exact find_Es h.2 e he
def AllG (E : List Es) (w0 w : World) : List Es → List (Value × Nat × Nat) → Prop
 | [], xs => xs = []
 | e :: es, xs => ∃ v lo hi ys, xs = (v, lo, hi) :: ys ∧ ((∀ f ∈ E, f.dep ≠ some e.i) → e.g.p v lo hi w) ∧ w0.heap.size ≤ lo ∧ hi ≤ w.heap.size ∧ AllG E w0 w es ys
def AllF (E : List Es) (w : World) : List Es → List (Value × Nat × Nat) → Prop
 | [], xs => xs = []
 | e :: es, xs => ∃ v lo hi ys, xs = (v, lo, hi) :: ys ∧ ((∀ f ∈ E, f.dep ≠ some e.i) → e.g.p v lo hi w) ∧ AllF E w es ys
def oneF (P : Program) (ops : Array Oper) : List Oper → Act → Prop
 | [o], a => ∃ v, Region.wanted o (yielded ops a.tmps) = true ∧ ∀ w2, (execOp a.eval o).run P w2 = .ok (.value v) w2
 | _, _ => False
def oneR (P : Program) : List Oper → Act → Value → Prop
 | [o], a, v => ∀ w2, (execOp a.eval o).run P w2 = .ok (.value v) w2
 | _, _, _ => False
theorem oneR_eq {o : Oper} {a : Act} {v u : Value} (h : oneR P [o] a v) (w : World) (h2 : (execOp a.eval o).run P w = .ok (.value u) w) : v = u := by
 have := (h w).symm.trans h2
 simpa using this
def FxG (P : Program) (l : List Oper) (a : Act) : List Es → List (Value × Nat × Nat) → Prop
 | e :: es, x :: xs => (e.fr = true → oneR P (pick l [e.i]) a x.1) ∧ FxG P l a es xs
 | _, _ => True
def DisH (e : Es) (x : Value × Nat × Nat) : List Es → List (Value × Nat × Nat) → Prop
 | e' :: es, y :: ys => (e.dep ≠ some e'.i → e'.dep ≠ some e.i → x.2.2 ≤ y.2.1 ∨ y.2.2 ≤ x.2.1) ∧ DisH e x es ys
 | _, _ => True
def DisG : List Es → List (Value × Nat × Nat) → Prop
 | e :: es, x :: xs => DisH e x es xs ∧ DisG es xs
 | _, _ => True
def putE (l : List Oper) : Act → List Es → List (Value × Nat × Nat) → Act
 | a, e :: es, x :: xs => putE l (a.put (dstOf l e.i) x.1) es xs
 | a, _, _ => a
theorem rj_es {l : List Oper} {W : Nat} {Pw : World → Prop} {Q : Act → World → Prop} {fuel n : Nat} {L0 : Array Bool} {a : Act} {w : World} (E : List Es)
  (hb : evB l L0 (E.map Es.i) (depE E) (frE E) W = true) (hn : n = fuel + E.length) (hPw : ∀ w', Below w.heap.size w w' → Pw w')
  (step0 : ∀ e ∈ E, e.dep = none → e.fr = false → ∀ w', Below w.heap.size w w' → oneV P l.toArray (pick l [e.i]) a w' (fun v w'' => Below w'.heap.size w' w'' ∧ e.g.p v w'.heap.size w''.heap.size w''))
  (step1 : ∀ e ∈ E, ∀ f ∈ E, e.dep = some f.i → ∀ w' v lo hi, Below w.heap.size w w' → f.g.p v lo hi w' → w.heap.size ≤ lo → hi ≤ w'.heap.size →
   oneV P l.toArray (pick l [e.i]) (a.put (dstOf l f.i) v) w' (fun v' w'' => Ch w' w'' lo hi ∧ (e.g.p v' lo hi w'' ∨ e.g.p v' w'.heap.size w''.heap.size w'')))
  (stepF : ∀ e ∈ E, e.fr = true → ∀ xs w', AllF E w' (E.filter (fun f => bindsB l e.i f.i)) xs → oneF P l.toArray (pick l [e.i]) (putE l a (E.filter (fun f => bindsB l e.i f.i)) xs))
  (gF : ∀ e ∈ E, e.fr = true → e.g = gdT)
  (hk : ∀ xs w', Below w.heap.size w w' → FxG P l (putE l a E xs) E xs → AllG E w w' E xs → DisG E xs → anyJ P l.toArray W Pw Q fuel (setAll L0 (E.map Es.i)) (putE l a E xs) w') : anyJ P l.toArray W Pw Q n L0 a w := by
 have B := evB_spec hb
 have hf := find_Es B.nd
 have hdep : ∀ e ∈ E, depE E e.i = e.dep := fun e he => by unfold depE; rw [hf e he]; rfl
 have hg : ∀ e ∈ E, gE E e.i = e.g := fun e he => by unfold gE; rw [hf e he]; rfl
 have hfr : ∀ e ∈ E, frE E e.i = e.fr := fun e he => by unfold frE; rw [hf e he]; rfl
 have key2 : ∀ (F : List Es) (D : List Ev) (b : Act) (w' : World), (∀ e ∈ F, e ∈ E) → D.map Ev.i = F.map Es.i → (∀ x ∈ D, (∀ f ∈ E, f.dep ≠ some x.i) → (gE E x.i).p x.v x.lo x.hi w') →
   AllF E w' F (D.map fun x => (x.v, x.lo, x.hi)) ∧ putL l b D = putE l b F (D.map fun x => (x.v, x.lo, x.hi)) := by
  intro F
  induction F with
  | nil =>
   intro D b w' _ hD _
   obtain rfl := List.map_eq_nil_iff.1 hD
   exact ⟨rfl, rfl⟩
  | cons e F ih =>
   intro D b w' hF hD hG
   cases D with
   | nil => cases hD
   | cons x D =>
    simp only [List.map_cons, List.cons.injEq] at hD
    obtain ⟨hx, hD⟩ := hD
    have he := hF e (by simp)
    obtain ⟨k1, k3⟩ := ih D (b.put (dstOf l e.i) x.v) w' (fun f hf => hF f (by simp [hf])) hD (fun y hy => hG y (by simp [hy]))
    have h1 := hG x (by simp)
    rw [hx, hg e he] at h1
    exact ⟨⟨_, _, _, _, rfl, h1, k1⟩, by rw [List.map_cons, putL, putE, hx]; exact k3⟩
 refine rj_ev (E.map Es.i) (depE E) (frE E) (fun i => (gE E i).p) hb (by rw [List.length_map]; exact hn) hPw (fun i v lo hi w w' l u => (gE E i).st v lo hi w w' l u) (fun i hi hd hfi w' hw => ?_) (fun i hi p hd w' v lo u hw hgp h1 h2 => ?_) (fun i hi hfi o ho D w' hD hG => ?_) (fun i hfi v lo hi w => ?_) (fun D w' hD hw hfx hG hP => ?_)
 ·obtain ⟨e, he, rfl⟩ := List.mem_map.1 hi
  rw [hdep e he] at hd
  rw [hfr e he] at hfi
  simp only [hg e he]
  exact step0 e he hd hfi w' hw
 ·obtain ⟨e, he, rfl⟩ := List.mem_map.1 hi
  obtain ⟨f, hfm, rfl⟩ := List.mem_map.1 (B.dp e.i hi p hd).1
  rw [hdep e he] at hd
  simp only [hg e he]
  simp only [hg f hfm] at hgp
  exact step1 e he f hfm hd w' v lo u hw hgp h1 h2
 ·obtain ⟨e, he, rfl⟩ := List.mem_map.1 hi
  rw [hfr e he] at hfi
  have hD' : D.map Ev.i = (E.filter (fun f => bindsB l e.i f.i)).map Es.i := by rw [hD, List.filter_map]; rfl
  obtain ⟨k1, k2⟩ := key2 (E.filter (fun f => bindsB l e.i f.i)) D a w' (fun f hf => (List.mem_filter.1 hf).1) hD' (fun x hx hq => hG x hx (fun y hy => by
   obtain ⟨f, hfm, rfl⟩ := List.mem_map.1 hy
   rw [hdep f hfm]
   exact hq f hfm))
  have := stepF e he hfi _ w' k1
  rw [← k2] at this
  simp only [pick, ho, oneF] at this
  exact this
 ·by_cases hq : ∃ e ∈ E, e.i = i
  ·obtain ⟨e, he, rfl⟩ := hq
   rw [hfr e he] at hfi
   rw [hg e he, gF e he hfi]
   trivial
  ·unfold frE at hfi
   rw [List.find?_eq_none.2 (fun e he => by simpa using fun h => hq ⟨e, he, h⟩)] at hfi
   cases hfi
 ·have key : ∀ (F : List Es) (D : List Ev) (b : Act), (∀ e ∈ F, e ∈ E) → D.map Ev.i = F.map Es.i → (∀ x ∈ D, ((∀ f ∈ E, f.dep ≠ some x.i) → (gE E x.i).p x.v x.lo x.hi w') ∧ w.heap.size ≤ x.lo ∧ x.hi ≤ w'.heap.size) →
    D.Pairwise (fun x y => depE E x.i ≠ some y.i → depE E y.i ≠ some x.i → x.hi ≤ y.lo ∨ y.hi ≤ x.lo) →
    AllG E w w' F (D.map fun x => (x.v, x.lo, x.hi)) ∧ DisG F (D.map fun x => (x.v, x.lo, x.hi)) ∧ putL l b D = putE l b F (D.map fun x => (x.v, x.lo, x.hi)) := by
   intro F
   induction F with
   | nil =>
    intro D b _ hD _ _
    obtain rfl := List.map_eq_nil_iff.1 hD
    exact ⟨rfl, trivial, rfl⟩
   | cons e F ih =>
    intro D b hF hD hG hP
    cases D with
    | nil => cases hD
    | cons x D =>
     simp only [List.map_cons, List.cons.injEq] at hD
     obtain ⟨hx, hD⟩ := hD
     have he := hF e (by simp)
     rw [List.pairwise_cons] at hP
     obtain ⟨k1, k2, k3⟩ := ih D (b.put (dstOf l e.i) x.v) (fun f hf => hF f (by simp [hf])) hD (fun y hy => hG y (by simp [hy])) hP.2
     have h1 := hG x (by simp)
     rw [hx, hg e he] at h1
     refine ⟨⟨_, _, _, _, rfl, h1.1, h1.2.1, h1.2.2, k1⟩, ⟨?_, k2⟩, by rw [List.map_cons, putL, putE, hx]; exact k3⟩
     have hq : ∀ (G : List Es) (D' : List Ev), (∀ f ∈ G, f ∈ E) → D'.map Ev.i = G.map Es.i → (∀ y ∈ D', depE E x.i ≠ some y.i → depE E y.i ≠ some x.i → x.hi ≤ y.lo ∨ y.hi ≤ x.lo) → DisH e (x.v, x.lo, x.hi) G (D'.map fun x => (x.v, x.lo, x.hi)) := by
      intro G
      induction G with
      | nil => intro D' _ _ _; unfold DisH; trivial
      | cons f G ih2 =>
       intro D' hG' hD' h
       cases D' with
       | nil => cases hD'
       | cons y D' =>
        simp only [List.map_cons, List.cons.injEq] at hD'
        refine ⟨fun q1 q2 => ?_, ih2 D' (fun g hg => hG' g (by simp [hg])) hD'.2 (fun z hz => h z (by simp [hz]))⟩
        have := h y (by simp)
        rw [hx, hD'.1, hdep e he, hdep f (hG' f (by simp))] at this
        exact this q1 q2
     exact hq F D (fun f hf => hF f (by simp [hf])) hD hP.1
  obtain ⟨k1, k2, k3⟩ := key E D a (fun _ h => h) hD (fun x hx => ⟨fun hq => (hG x hx).1 (fun y hy => by
   have hyE : y.i ∈ E.map Es.i := hD ▸ List.mem_map_of_mem hy
   obtain ⟨f, hf', hfi⟩ := List.mem_map.1 hyE
   rw [← hfi, hdep f hf']
   exact hq f hf'), (hG x hx).2⟩) hP
  rw [k3] at hfx ⊢
  refine hk _ w' hw ?_ k1 k2
  have keyF : ∀ (F : List Es) (D' : List Ev), (∀ e ∈ F, e ∈ E) → (∀ x ∈ D', x ∈ D) → D'.map Ev.i = F.map Es.i → FxG P l (putE l a E (D.map fun x => (x.v, x.lo, x.hi))) F (D'.map fun x => (x.v, x.lo, x.hi)) := by
   intro F
   induction F with
   | nil => intro D' _ _ _; unfold FxG; trivial
   | cons e F ih =>
    intro D' hF hD2 hD'
    cases D' with
    | nil => cases hD'
    | cons x D' =>
     simp only [List.map_cons, List.cons.injEq] at hD'
     refine ⟨fun hq => ?_, ih D' (fun f hf => hF f (by simp [hf])) (fun y hy => hD2 y (by simp [hy])) hD'.2⟩
     have he := hF e (by simp)
     have hlt := B.lt e.i (List.mem_map_of_mem he)
     have ho := List.getElem?_eq_getElem hlt
     simp only [pick, ho, oneR]
     exact hfx x (hD2 x (by simp)) (by rw [hD'.1, hfr e he]; exact hq) _ (by rw [hD'.1]; exact ho)
  exact keyF E D (fun _ h => h) (fun _ h => h) hD
theorem ov_call {o : Oper} {a : Act} {w : World} {R : Value → World → Prop} (hg : Region.wanted o (yielded ops a.tmps) = true) (f : FuncId) (args : Array Value) (hv : (execOp a.eval o).run P w = .ok (.enter f args) w)
  (h : Calls P f args w (fun e w'' => ∃ v, e = .returned v ∧ R v w'')) : oneV P ops [o] a w R := ⟨hg, by rw [hv]; exact h⟩
theorem ov_val {o : Oper} {a : Act} {w : World} {R : Value → World → Prop} (hg : Region.wanted o (yielded ops a.tmps) = true) (v : Value) (w' : World) (hv : (execOp a.eval o).run P w = .ok (.value v) w') (h : R v w') : oneV P ops [o] a w R := ⟨hg, by rw [hv]; exact h⟩
end
end Go.Proofs.YtkmiecgcibjkbaaGreat
