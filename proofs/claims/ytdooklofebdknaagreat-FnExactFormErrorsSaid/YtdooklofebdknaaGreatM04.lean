/- Regions that draw their order: operations that read, and operations that make or write memory one behind another, walked once, in an order of the prover's choice. No condition but sizes. -/
import Derived.Test.YtdooklofebdknaaGreatM01
import Derived.Orders
namespace Go.Proofs.YtdooklofebdknaaGreat
open Go.RowKit
section
variable {P : Program} {ops : Array Oper} {I : World → Prop}

/-- an operation that neither panics nor ends the run -/
def uponN (P : Program) (o : Oper) (a : Act) (K : Act → World → Prop) : Result Next → Prop
 | .ok (.value v) w' => K (a.put o.dst v) w'
 | .ok .skip w' => K (a.put o.dst undef) w'
 | .ok (.enter f args) w' => Calls P f args w' (fun e w'' => ∃ v, e = .returned v ∧ K (a.put o.dst v) w'')
 | _ => False
def wpN (P : Program) (o : Oper) (a : Act) (w : World) (K : Act → World → Prop) : Prop := uponN P o a K ((execOp a.eval o).run P w)
def opN (P : Program) (ops : Array Oper) (i : Nat) (K : Act → World → Prop) (a : Act) (w : World) : Prop :=
 match ops[i]? with
 | none => K a w
 | some o => if Region.wanted o (yielded ops a.tmps) then wpN P o a w K else K (a.put o.dst undef) w

theorem uponN_mono {o : Oper} {a : Act} {K K' : Act → World → Prop} (h : ∀ a w, K a w → K' a w) {r : Result Next} (hh : uponN P o a K r) : uponN P o a K' r := by
 cases r with
 | ok n w' =>
  cases n <;> simp only [uponN] at hh ⊢ <;>
   first
    | exact h _ _ hh
    | exact Calls.mono hh (fun e w'' ⟨v, he, hk⟩ => ⟨v, he, h _ _ hk⟩)
 | halt x w' => simp only [uponN] at hh

theorem opN_mono {i : Nat} {a : Act} {w : World} {K K' : Act → World → Prop} (h : ∀ a w, K a w → K' a w) (hh : opN P ops i K a w) : opN P ops i K' a w := by
 unfold opN at *
 split
 ·exact h _ _ (by simpa [*] using hh)
 ·rename_i o ho
  simp only [ho] at hh
  split
  ·rename_i hw; simp only [hw, if_true] at hh; exact uponN_mono h hh
  ·rename_i hw; simp only [hw] at hh; exact h _ _ hh

theorem wpOp_of_opN {i : Nat} {a : Act} {w : World} {K : Act → World → Prop} {Q : Exit → Act → World → Prop} (hh : opN P ops i K a w) : wpOp P ops Q i K a w := by
 unfold opN at hh
 unfold wpOp
 split
 ·rename_i ho; simp only [ho] at hh; exact hh
 ·rename_i o ho
  simp only [ho] at hh
  split
  ·rename_i hw
   simp only [hw, if_true, wpN] at hh
   refine .inl ?_
   unfold Oper.wp
   generalize (execOp a.eval o).run P w = r at *
   cases r with
   | ok n w' =>
    cases n <;> simp only [uponN] at hh <;> simp only [Oper.upon]
    case enter f args => exact Calls.mono hh (fun e w'' ⟨v, he, hk⟩ => by subst he; exact hk)
    all_goals exact hh
   | halt x w' => simp only [uponN] at hh
  ·rename_i hw; simp only [hw] at hh; exact hh

/-- every order, the invariant I kept -/
def anyI (P : Program) (ops : Array Oper) (I : World → Prop) (Q : Act → World → Prop) : Nat → Array Bool → Act → World → Prop
 | 0, listed, a, w => Region.ready .any ops listed = [] ∧ Q a w
 | fuel + 1, listed, a, w =>
  (Region.ready .any ops listed = [] → Q a w) ∧
  ∀ i ∈ Region.ready .any ops listed, opN P ops i (fun a' w' => I w' ∧ anyI P ops I Q fuel (listed.setIfInBounds i true) a' w') a w

theorem wpAny_of_anyI {Q : Exit → Act → World → Prop} : ∀ (fuel : Nat) (listed : Array Bool) (a : Act) (w : World),
  anyI P ops I (Q .normal) fuel listed a w → wpAny P .any ops Q fuel listed a w
 | 0, _, _, _, h => h
 | fuel + 1, _, _, _, h => ⟨h.1, fun i hi => wpOp_of_opN (opN_mono (fun a' w' h' => wpAny_of_anyI fuel _ a' w' h'.2) (h.2 i hi))⟩

/-- operation o gives v in every world of I -/
def Fixd (P : Program) (ops : Array Oper) (I : World → Prop) (o : Oper) (v : Value) (a : Act) : Prop :=
 (Region.wanted o (yielded ops a.tmps) = true ∧ ∀ w, I w → ((execOp a.eval o).run P w = .ok (.value v) w ∨ ((execOp a.eval o).run P w = .ok .skip w ∧ v = undef))) ∨
 (Region.wanted o (yielded ops a.tmps) = false ∧ v = undef)

theorem Fixd.opN {i : Nat} {o : Oper} {v : Value} {a : Act} (hi : ops[i]? = some o) (hy : Fixd P ops I o v a) {K : Act → World → Prop} {w : World} (hw : I w) (h : K (a.put o.dst v) w) : opN P ops i K a w := by
 unfold Go.Proofs.YtdooklofebdknaaGreat.opN
 simp only [hi]
 rcases hy with ⟨h1, h2⟩ | ⟨h1, rfl⟩
 ·simp only [h1, if_true, wpN]
  rcases h2 w hw with h3 | ⟨h3, rfl⟩
  ·rw [h3]; exact h
  ·rw [h3]; exact h
 ·simp only [h1, Bool.false_eq_true, if_false]; exact h

theorem Fixd.of_same {o : Oper} {v : Value} {a a' : Act} (hy : Fixd P ops I o v a) (he : execOp a'.eval o = execOp a.eval o)
  (hw : Region.wanted o (yielded ops a'.tmps) = Region.wanted o (yielded ops a.tmps)) : Fixd P ops I o v a' := by
 unfold Fixd at *
 rw [he, hw]
 exact hy

theorem opN_put {j : Nat} {oi oj : Oper} {v : Value} (hj : ops[j]? = some oj) (hap : oi.apart ops oj = true)
  (hsi : ∀ cs b, oi.op ≠ .select cs b) (hsj : ∀ cs b, oj.op ≠ .select cs b) {K : Act → World → Prop} {a : Act} {w : World}
  (hy : Fixd P ops I oi v a) (h : opN P ops j K (a.put oi.dst v) w) :
  opN P ops j (fun a' w' => Fixd P ops I oi v a' ∧ K (a'.put oi.dst v) w') a w := by
 obtain ⟨h1, h2, h3⟩ := Oper.apart_spec hap
 have keep : ∀ (a : Act), Fixd P ops I oi v a → ∀ u, Fixd P ops I oi v (a.put oj.dst u) := fun a hy u =>
  hy.of_same (execOp_put oi hsi a oj.dst u h3) (wanted_put oi a oj.dst u h3)
 unfold opN at *
 simp only [hj] at *
 rw [wanted_put oj a oi.dst v h1] at h
 split
 ·rename_i hw
  simp only [hw, if_true, wpN] at h ⊢
  rw [execOp_put oj hsj a oi.dst v h1] at h
  generalize (execOp a.eval oj).run P w = r at *
  cases r with
  | ok n w' =>
   cases n <;> simp only [uponN] at h ⊢
   case value u => exact ⟨keep a hy u, by rw [← Act.put_comm a v u h2]; exact h⟩
   case skip => exact ⟨keep a hy _, by rw [← Act.put_comm a v undef h2]; exact h⟩
   case enter f args => exact Calls.mono h fun e w'' ⟨u, he, hk⟩ => ⟨u, he, keep a hy u, by rw [← Act.put_comm a v u h2]; exact hk⟩
  | halt x w' => simp only [uponN] at h
 ·rename_i hw
  simp only [hw] at h
  exact ⟨keep a hy _, by rw [← Act.put_comm a v undef h2]; exact h⟩

theorem anyI_first {Q : Act → World → Prop} {i : Nat} {oi : Oper} {v : Value} (hi : ops[i]? = some oi) (hsel : ∀ (j : Nat) (o : Oper) cs b, ops[j]? = some o → o.op ≠ .select cs b) :
  ∀ (fuel : Nat) (listed : Array Bool) (a : Act) (w : World), I w →
   (∀ j oj, ops[j]? = some oj → j ≠ i → listed.getD j true = false → (∀ e ∈ oj.after, Region.binds .any e = true → e.on ≠ i) → oi.apart ops oj = true) →
   i ∈ Region.ready .any ops listed → Fixd P ops I oi v a →
   anyI P ops I Q fuel (listed.setIfInBounds i true) (a.put oi.dst v) w → anyI P ops I Q (fuel + 1) listed a w := by
 intro fuel
 induction fuel with
 | zero =>
  intro listed a w hw _ hr hy H
  refine ⟨fun h => (by rw [h] at hr; cases hr), fun j hj => ?_⟩
  by_cases hji : j = i
  ·subst hji; exact hy.opN hi hw ⟨hw, H⟩
  ·have := ready_mono hj hji
   rw [H.1] at this
   cases this
 | succ fuel ih =>
  intro listed a w hw hfree hr hy H
  refine ⟨fun h => (by rw [h] at hr; cases hr), fun j hj => ?_⟩
  by_cases hji : j = i
  ·subst hji; exact hy.opN hi hw ⟨hw, H⟩
  ·have h1 := H.2 j (ready_mono hj hji)
   obtain ⟨hjun, oj, hoj, hall⟩ := mem_ready.1 hj
   have hnot : ∀ e ∈ oj.after, Region.binds .any e = true → e.on ≠ i := fun e he hb heq => by
    have h1 := hall e he hb
    have h0 := (mem_ready.1 hr).1
    rw [heq] at h1
    rcases Nat.lt_or_ge i listed.size with h' | h'
    ·simp [h'] at h0 h1; rw [h0] at h1; cases h1
    ·simp [Array.getElem?_eq_none h'] at h1
   have h2 := opN_put hoj (hfree j oj hoj hji hjun hnot) (fun cs b => hsel i oi cs b hi) (fun cs b => hsel j oj cs b hoj) hy h1
   have hfree' : ∀ k ok, ops[k]? = some ok → k ≠ i → (listed.setIfInBounds j true).getD k true = false →
     (∀ e ∈ ok.after, Region.binds .any e = true → e.on ≠ i) → oi.apart ops ok = true := fun k ok hk hki hun hno => by
    refine hfree k ok hk hki ?_ hno
    by_cases hjk : j = k
    ·subst hjk; exact hjun
    ·rw [getD_set_ne true hjk] at hun; exact hun
   refine opN_mono (fun a' w' h3 => ⟨h3.2.1, ih (listed.setIfInBounds j true) a' w' h3.2.1 hfree' (ready_mono hr (Ne.symm hji)) h3.1 ?_⟩) h2
   rw [Array.setIfInBounds_comm _ _ hji]
   exact h3.2.2

theorem rg_end {l : List Oper} {Q : Act → World → Prop} {listed : Array Bool} {a : Act} {w : World} (hr : Region.ready .any l.toArray listed = []) (h : Q a w) : anyI P l.toArray I Q 0 listed a w := ⟨hr, h⟩
/-- the region's beginning -/
theorem rg {id : Nat} {l : List Oper} {Q : Exit → Act → World → Prop} {a : Act} {w : World} (n : Nat) (I : World → Prop) (hm : P.follows .mixedOrders = true) (hn : l.length = n)
  (h : anyI P l.toArray I (Q .normal) n (Array.replicate n false) a w.drew) : (Code.region id l.toArray true).wp P Q a w := by
 subst hn
 exact wp_region_any hm (wpAny_of_anyI _ _ _ _ (by simpa using h))

/-- some reading operations one behind another -/
def stillI (P : Program) (ops : Array Oper) (I : World → Prop) : List Oper → Act → (Act → Prop) → Prop
 | [], a, Q => Q a
 | o :: os, a, Q => ∃ v, Fixd P ops I o v a ∧ stillI P ops I os (a.put o.dst v) Q
def pick (l : List Oper) : List Nat → List Oper
 | [] => []
 | i :: is => match l[i]? with
  | some o => o :: pick l is
  | none => pick l is
def setAll (listed : Array Bool) : List Nat → Array Bool
 | [] => listed
 | i :: is => setAll (listed.setIfInBounds i true) is
def segB (l : List Oper) : List Nat → Array Bool → Bool
 | [], _ => true
 | i :: is, listed => decide (i < l.length) && Region.free .any l.toArray listed i && (Region.ready .any l.toArray listed).contains i && segB l is (listed.setIfInBounds i true)
theorem rg_seg' {l : List Oper} {Q : Act → World → Prop} {fuel : Nat} {w : World} (hs : Region.noSelect l.toArray = true) (hw : I w) : ∀ (is : List Nat) (listed : Array Bool) (a : Act), segB l is listed = true →
  stillI P l.toArray I (pick l is) a (fun a' => anyI P l.toArray I Q fuel (setAll listed is) a' w) → anyI P l.toArray I Q (fuel + is.length) listed a w
 | [], listed, a, _, h => h
 | i :: is, listed, a, hb, h => by
  simp only [segB, Bool.and_eq_true, decide_eq_true_eq] at hb
  obtain ⟨⟨⟨h1, h2⟩, h3⟩, h4⟩ := hb
  have ho : l[i]? = some l[i] := List.getElem?_eq_getElem h1
  simp only [pick, ho, stillI] at h
  obtain ⟨v, hf, h⟩ := h
  exact anyI_first (by simp [h1]) (Region.noSelect_spec hs) _ listed a w hw (Region.free_spec (by simp [h1]) h2) (by simpa using h3) hf (rg_seg' hs hw is _ _ h4 h)
theorem rg_seg {l : List Oper} {Q : Act → World → Prop} {fuel n : Nat} {listed : Array Bool} {a : Act} {w : World} (is : List Nat) (hw : I w) (hb : (Region.noSelect l.toArray && segB l is listed) = true) (hn : n = fuel + is.length)
  (h : stillI P l.toArray I (pick l is) a (fun a' => anyI P l.toArray I Q fuel (setAll listed is) a' w)) : anyI P l.toArray I Q n listed a w := by
 subst hn
 simp only [Bool.and_eq_true] at hb
 exact rg_seg' hb.1 hw is listed a hb.2 h
theorem sg_nil {a : Act} {Q : Act → Prop} (h : Q a) : stillI P ops I [] a Q := h
theorem sg_fix {os : List Oper} {a : Act} {Q : Act → Prop} {o : Oper} (v : Value) (hg : Region.wanted o (yielded ops a.tmps) = true) (hv : ∀ w, I w → (execOp a.eval o).run P w = .ok (.value v) w)
  (h : stillI P ops I os (a.put o.dst v) Q) : stillI P ops I (o :: os) a Q := ⟨v, .inl ⟨hg, fun w hw => .inl (hv w hw)⟩, h⟩
/-- an operation that all others wait for: it may turn the world, within I -/
def oneI (P : Program) (ops : Array Oper) : List Oper → Act → World → (Act → World → Prop) → Prop
 | [o], a, w, K => Region.wanted o (yielded ops a.tmps) = true ∧ wpN P o a w K
 | _, _, _, _ => False
theorem rg_one {l : List Oper} {Q : Act → World → Prop} {fuel n : Nat} {listed : Array Bool} {a : Act} {w : World} (i : Nat)
  (hr : (decide (i < l.length) && (Region.ready .any l.toArray listed == [i])) = true) (hn : n = fuel + 1)
  (h : ∀ K : Act → World → Prop, (∀ a' w', I w' → anyI P l.toArray I Q fuel (listed.setIfInBounds i true) a' w' → K a' w') → oneI P l.toArray (pick l [i]) a w K) : anyI P l.toArray I Q n listed a w := by
 subst hn
 simp only [Bool.and_eq_true, decide_eq_true_eq, beq_iff_eq] at hr
 obtain ⟨h1, hr⟩ := hr
 refine ⟨fun h0 => (by rw [hr] at h0; cases h0), fun j hj => ?_⟩
 rw [hr] at hj
 obtain rfl : j = i := by simpa using hj
 have ho : l[j]? = some l[j] := List.getElem?_eq_getElem h1
 have h2 := h _ (fun a' w' h1 h2 => (⟨h1, h2⟩ : I w' ∧ anyI P l.toArray I Q fuel (listed.setIfInBounds j true) a' w'))
 simp only [pick, ho, oneI] at h2
 unfold opN
 simp only [List.getElem?_toArray, ho, h2.1, if_true]
 exact h2.2
theorem rg_call {o : Oper} {a : Act} {w : World} {K : Act → World → Prop} (hg : Region.wanted o (yielded ops a.tmps) = true) (f : FuncId) (args : Array Value) (hv : (execOp a.eval o).run P w = .ok (.enter f args) w)
  (h : Calls P f args w (fun e w'' => ∃ v, e = .returned v ∧ K (a.put o.dst v) w'')) : oneI P ops [o] a w K := ⟨hg, by unfold wpN; rw [hv]; exact h⟩
theorem run_ld {w : World} {o : Oper} {a : Act} (ty : TypeId) (x : Operand) (ho : o.op = .load ty x)
  (b off : Nat) (hx : a.eval x = .pointer (some ⟨b, off, none⟩)) (cs : List Value) (hc : Cells w b off cs) (fs : Array Field) (hu : P.underlying ty = some (.struct fs)) (hi : (P.info? ty).map (·.size) = some cs.length) :
  (execOp a.eval o).run P w = .ok (.value (.agg cs.toArray)) w := by
 have hl : (loadCells ⟨b, off, none⟩ cs.length).run P w = .ok cs.toArray w := by
  refine run_loadCells_list (P := P) w ⟨b, off, none⟩ cs (fun j v hv => ?_)
  rw [Addr.add_lit]
  exact hc j v hv
 cases hq : P.info? ty with
 | none => simp [hq] at hi
 | some i =>
  have hs : i.size = cs.length := by simpa [hq] using hi
  have hagg : (isAgg ty).run P w = .ok true w := by
   unfold isAgg
   rw [Sem.run_bind, run_underlying hu w]
   simp
  have hv : (loadVar ty ⟨b, off, none⟩).run P w = .ok (.agg cs.toArray) w := by
   simp [loadVar, Sem.run_bind, hagg, sizeOf, typeInfo, hq, hs, hl]
  unfold execOp
  simp only [ho, hx, Instr.loadAt, Instr.sureAddr, Sem.run_bind, Sem.run_pure, Result.andThen_ok, hv]
end
end Go.Proofs.YtdooklofebdknaaGreat
