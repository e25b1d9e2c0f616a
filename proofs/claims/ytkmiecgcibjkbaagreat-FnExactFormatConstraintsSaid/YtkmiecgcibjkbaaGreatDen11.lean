/- Den11: statements over states: sequences, branches, blocks, loops, regions in their order. No condition. -/
import Derived.Test.YtkmiecgcibjkbaaGreatDen10
namespace Go.Proofs.YtkmiecgcibjkbaaGreat
open Go.RowKit
set_option linter.unusedVariables false
set_option linter.unusedSimpArgs false
def W (c : Cx) (code : Code) (S : St) (Q : Exit → St → Prop) : Prop := ∀ (w : World) (F : Nat → Nat) (Θ : Ty) (own : Who → List Nat) (a : Act), Rel w F Θ own S a →
  code.wp c.P (fun e a' w' => ∃ S' F' Θ' own', Q e S' ∧ Rel w' F' Θ' own' S' a' ∧ Stp w F Θ own w' F' Θ' own') a w
/-- what follows: at the normal end K, else Q -/
def thenQ (K : St → Prop) (Q : Exit → St → Prop) : Exit → St → Prop
  | .normal, S => K S
  | e, S => Q e S
def blkQ (id : Nat) (Q : Exit → St → Prop) : Exit → St → Prop
  | .exit id', S => if id' = id then Q .normal S else Q (.exit id') S
  | e, S => Q e S
section
variable {c : Cx} {S : St} {Q : Exit → St → Prop}
theorem W.mono {code : Code} {Q' : Exit → St → Prop} (h : W c code S Q) (hq : ∀ e S, Q e S → Q' e S) : W c code S Q' := fun w F Θ own a hR =>
  wp_mono (h w F Θ own a hR) fun _ _ _ ⟨S', F', Θ', own', h1, h2⟩ => ⟨S', F', Θ', own', hq _ _ h1, h2⟩
theorem W.skip (h : Q .normal S) : W c .skip S Q := fun w F Θ own _ hR => wp_skip ⟨S, F, Θ, own, h, hR, Stp.refl _ _ _ _⟩
theorem W.exit {id : Nat} (h : Q (.exit id) S) : W c (.exit id) S Q := fun w F Θ own _ hR => wp_exit ⟨S, F, Θ, own, h, hR, Stp.refl _ _ _ _⟩
theorem W.ret (h : Q .ret S) : W c .ret S Q := fun w F Θ own _ hR => wp_ret ⟨S, F, Θ, own, h, hR, Stp.refl _ _ _ _⟩
theorem W.seq {x y : Code} (h : W c x S (thenQ (fun S' => W c y S' Q) Q)) : W c (.seq x y) S Q := fun w F Θ own a hR => by
  refine wp_seq (wp_mono (h w F Θ own a hR) fun e a1 w1 ⟨S1, F1, Θ1, own1, h1, h2, h3⟩ => ?_)
  cases e with
  | normal => exact wp_mono (h1 w1 F1 Θ1 own1 a1 h2) fun _ _ _ ⟨S2, F2, Θ2, own2, k1, k2, k3⟩ => ⟨S2, F2, Θ2, own2, k1, k2, h3.trans k3⟩
  | exit id => exact ⟨S1, F1, Θ1, own1, h1, h2, h3⟩
  | goto l => exact ⟨S1, F1, Θ1, own1, h1, h2, h3⟩
  | ret => exact ⟨S1, F1, Θ1, own1, h1, h2, h3⟩
  | panic ch => exact ⟨S1, F1, Θ1, own1, h1, h2, h3⟩
  | outgrown => exact ⟨S1, F1, Θ1, own1, h1, h2, h3⟩
theorem W.cond {g : Operand} {x y : Code} (b : Bool) (hg : evT c 0 S g = .d (.lf (.bool b))) (og : okO c 0 g) (h : W c (if b then x else y) S Q) : W c (.cond g x y) S Q := fun w F Θ own a hR =>
  wp_cond (lf_of hR hg og).1 (h w F Θ own a hR)
theorem W.block {id : Nat} {x : Code} (h : W c x S (blkQ id Q)) : W c (.block id x) S Q := fun w F Θ own a hR => by
  refine wp_block (wp_mono (h w F Θ own a hR) fun e a1 w1 ⟨S1, F1, Θ1, own1, h1, h2, h3⟩ => ?_)
  cases e with
  | exit id' =>
    simp only [blkQ] at h1
    simp only [Exit.inBlock]
    split
    · rename_i he; rw [if_pos he] at h1; exact ⟨S1, F1, Θ1, own1, h1, h2, h3⟩
    · rename_i he; rw [if_neg he] at h1; exact ⟨S1, F1, Θ1, own1, h1, h2, h3⟩
  | normal => exact ⟨S1, F1, Θ1, own1, h1, h2, h3⟩
  | goto l => exact ⟨S1, F1, Θ1, own1, h1, h2, h3⟩
  | ret => exact ⟨S1, F1, Θ1, own1, h1, h2, h3⟩
  | panic ch => exact ⟨S1, F1, Θ1, own1, h1, h2, h3⟩
  | outgrown => exact ⟨S1, F1, Θ1, own1, h1, h2, h3⟩
/-- a loop runs n rounds at most -/
def WR (c : Cx) (x : Code) (Q : Exit → St → Prop) : Nat → St → Prop
  | 0, _ => False
  | n + 1, S => W c x S (thenQ (WR c x Q n) Q)
theorem W.rounds {x : Code} : ∀ (n : Nat) {S : St}, WR c x Q n S → W c (.loop x) S Q := by
  intro n S h w F Θ own a hR
  refine wp_loop_rounds n ?_
  induction n generalizing S w F Θ own a with
  | zero => exact h.elim
  | succ n ih =>
    have key : ∀ (m : Nat) (S : St) (w1 : World) (F1 : Nat → Nat) (Θ1 : Ty) (own1 : Who → List Nat) (a1 : Act), WR c x Q m S → Rel w1 F1 Θ1 own1 S a1 → Stp w F Θ own w1 F1 Θ1 own1 →
        Code.rounds c.P x (fun e a' w' => ∃ S' F' Θ' own', Q e S' ∧ Rel w' F' Θ' own' S' a' ∧ Stp w F Θ own w' F' Θ' own') m a1 w1 := by
      intro m
      induction m with
      | zero => intro S w1 F1 Θ1 own1 a1 h _ _; exact h.elim
      | succ m ihm =>
        intro S w1 F1 Θ1 own1 a1 h hR hS
        refine wp_mono (h w1 F1 Θ1 own1 a1 hR) fun e a2 w2 ⟨S2, F2, Θ2, own2, h1, h2, h3⟩ => ?_
        cases e with
        | normal => exact ihm S2 w2 F2 Θ2 own2 a2 h1 h2 (hS.trans h3)
        | exit id => exact ⟨S2, F2, Θ2, own2, h1, h2, hS.trans h3⟩
        | goto l => exact ⟨S2, F2, Θ2, own2, h1, h2, hS.trans h3⟩
        | ret => exact ⟨S2, F2, Θ2, own2, h1, h2, hS.trans h3⟩
        | panic ch => exact ⟨S2, F2, Θ2, own2, h1, h2, hS.trans h3⟩
        | outgrown => exact ⟨S2, F2, Θ2, own2, h1, h2, hS.trans h3⟩
    exact key (n + 1) S w F Θ own a h hR (Stp.refl _ _ _ _)
/-- a loop over states A 0, A 1, .. A n: it leaves at A n at the latest -/
theorem W.loop {x : Code} (A : Nat → St) (n : Nat) (h : ∀ k, k ≤ n → W c x (A k) (thenQ (fun S' => k < n ∧ S' = A (k + 1)) Q)) : W c (.loop x) (A 0) Q := by
  have key : ∀ m k, k + m = n → WR c x Q (m + 1) (A k) := by
    intro m
    induction m with
    | zero =>
      intro k hk
      refine (h k (by omega)).mono fun e S hq => ?_
      cases e with
      | normal => obtain ⟨h1, -⟩ := hq; omega
      | _ => exact hq
    | succ m ih =>
      intro k hk
      refine (h k (by omega)).mono fun e S hq => ?_
      cases e with
      | normal =>
        obtain ⟨-, rfl⟩ := hq
        exact ih (k + 1) (by omega)
      | _ => exact hq
  exact W.rounds _ (key n 0 (by omega))
end
/-- one operation of a region -/
def OS (c : Cx) (ops : Array Oper) (o : Oper) (S S' : St) : Prop := ∀ (w : World) (F : Nat → Nat) (Θ : Ty) (own : Who → List Nat) (a : Act), Rel w F Θ own S a → ∀ (K : Act → World → Prop) (Q : Exit → Act → World → Prop),
  (∀ a' w' F' Θ' own', Rel w' F' Θ' own' S' a' → Stp w F Θ own w' F' Θ' own' → K a' w') → if Region.wanted o (yielded ops a.tmps) then o.wp c.P a w K Q else K (a.put o.dst undef) w
/-- whether it is wanted: its guard -/
def wnt (ops : Array Oper) (o : Oper) (S : St) : Option Bool := match o.guard with
  | none => some true
  | some (j, b) => match (ops[j]?).bind (·.dst) with
    | some k => match S.tm k with
      | .d (.lf (.bool q)) => some (q == b)
      | _ => none
    | none => none
theorem wnt_spec {c : Cx} {ops : Array Oper} {o : Oper} {S : St} {w : World} {F : Nat → Nat} {Θ : Ty} {own : Who → List Nat} {a : Act} (hR : Rel w F Θ own S a) {b : Bool} (h : wnt ops o S = some b) : Region.wanted o (yielded ops a.tmps) = b := by
  unfold wnt at h
  unfold Region.wanted
  split at h
  · rename_i hg; rw [hg]; simpa using h
  · rename_i j q hg
    rw [hg]
    split at h
    · rename_i k hk
      split at h
      · rename_i p hp
        simp only [Option.some.injEq] at h
        subst h
        have hv := hR.tm k
        rw [hp] at hv
        simp only [rv, rp] at hv
        obtain ⟨cs, ⟨rfl, -⟩, hv⟩ := hv
        simp only [DD.mk, List.headD_cons] at hv
        have hlt : k < a.tmps.size := by
          rcases Nat.lt_or_ge k a.tmps.size with h | h
          · exact h
          · rw [Array.getD_eq_getD_getElem?, Array.getElem?_eq_none h] at hv
            simp [undef] at hv
        have hy : yielded ops a.tmps j = some p := by
          unfold yielded
          rw [hk]
          have : a.tmps[k]? = some (.bool p) := by
            rw [Array.getD_eq_getD_getElem?, Array.getElem?_eq_getElem hlt] at hv
            rw [Array.getElem?_eq_getElem hlt]
            simpa using hv
          simp [this]
        simp only [hy]
        cases p <;> cases q <;> rfl
      · cases h
    · cases h
theorem OS.op {c : Cx} {ops : Array Oper} {o : Oper} {S S' : St} (hw : wnt ops o S = some true) (h : Snd c o S S') : OS c ops o S S' := by
  intro w F Θ own a hR K Q hK
  rw [if_pos (wnt_spec (c := c) hR hw)]
  obtain ⟨v, w', F', Θ', own', h1, h2, h3⟩ := h w F Θ own a hR
  unfold Oper.wp
  rcases h1 with h1 | ⟨rfl, h1⟩
  · rw [h1]; exact hK _ _ _ _ _ h2 h3
  · rw [h1]; exact hK _ _ _ _ _ h2 h3
theorem OS.no {c : Cx} {ops : Array Oper} {o : Oper} {S : St} (hd : ∀ k, o.dst = some k → k < S.n) (hw : wnt ops o S = some false) : OS c ops o S ⟨S.n, putF S.tm o.dst .un, S.hp⟩ := by
  intro w F Θ own a hR K Q hK
  rw [if_neg (by rw [wnt_spec (c := c) hR hw]; simp)]
  obtain ⟨own', h1, h2⟩ := hR.pure o.dst hd [] List.nodup_nil .un undef (by simp only [List.flatMap_nil, rv])
  exact hK _ _ _ _ _ h1 h2
def WO (c : Cx) (ops : Array Oper) (l : List Nat) (S : St) (K : St → Prop) : Prop := ∀ (w : World) (F : Nat → Nat) (Θ : Ty) (own : Who → List Nat) (a : Act), Rel w F Θ own S a → ∀ (Q : Exit → Act → World → Prop),
  (∀ S' a' w' F' Θ' own', K S' → Rel w' F' Θ' own' S' a' → Stp w F Θ own w' F' Θ' own' → Q .normal a' w') → wpOps c.P ops Q l a w
theorem WO.nil {c : Cx} {ops : Array Oper} {S : St} {K : St → Prop} (h : K S) : WO c ops [] S K := fun _ _ _ _ _ hR _ hQ => hQ _ _ _ _ _ _ h hR (Stp.refl _ _ _ _)
theorem WO.cons {c : Cx} {ops : Array Oper} {i : Nat} {l : List Nat} {S S1 : St} {K : St → Prop} {o : Oper} (ho : ops[i]? = some o) (h : OS c ops o S S1) (k : WO c ops l S1 K) : WO c ops (i :: l) S K := by
  intro w F Θ own a hR Q hQ
  simp only [wpOps, ho]
  have := h w F Θ own a hR (wpOps c.P ops Q l) Q (fun a' w' F' Θ' own' h1 h2 => k w' F' Θ' own' a' h1 Q (fun S2 a2 w2 F2 Θ2 own2 g1 g2 g3 => hQ S2 a2 w2 F2 Θ2 own2 g1 g2 (h2.trans g3)))
  split
  · rename_i hw; rw [if_pos hw] at this; exact .inl this
  · rename_i hw; rw [if_neg hw] at this; exact this
theorem W.region {c : Cx} {id : Nat} {ops : Array Oper} {S : St} {Q : Exit → St → Prop} (h : WO c ops (List.range ops.size) S (Q .normal)) : W c (.region id ops false) S Q := fun w F Θ own a hR =>
  wp_region (h w F Θ own a hR _ fun S' _ _ F' Θ' own' h1 h2 h3 => ⟨S', F', Θ', own', h1, h2, h3⟩)
/-- a call of a function, from the caller's side -/
def entS (args : List AV) (h : HP) : St := ⟨args.length, fun t => args.getD t .un, h⟩
def retS (r : AV) (h : HP) : St := ⟨1, fun t => if t = 0 then r else .un, h⟩
def CS (P : Program) (f : Nat) (args : List AV) (h : HP) (r : AV) (h' : HP) : Prop := ∀ (w : World) (F : Nat → Nat) (Θ : Ty) (own : Who → List Nat) (vs : List Value), Rel w F Θ own (entS args h) ⟨vs.toArray, []⟩ →
  Calls P f vs.toArray w fun e w' => ∃ v F' own', e = .returned v ∧ Rel w' F' Θ own' (retS r h') ⟨#[v], []⟩ ∧ Stp w F Θ own w' F' Θ own'
end Go.Proofs.YtkmiecgcibjkbaaGreat
