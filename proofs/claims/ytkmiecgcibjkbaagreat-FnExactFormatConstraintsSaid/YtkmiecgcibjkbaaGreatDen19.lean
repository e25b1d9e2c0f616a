/- Den19: rules to run a text by, one operation after the other. No condition. -/
import Derived.Test.YtkmiecgcibjkbaaGreatDen18
namespace Go.Proofs.YtkmiecgcibjkbaaGreat
open Go.RowKit
set_option linter.unusedVariables false
set_option linter.unusedSimpArgs false
def mkl : Nat → List AV → List (Nat × AV)
  | _, [] => []
  | i, a :: l => (i, a.up) :: mkl (i + 1) l
theorem mkl_get : ∀ (l : List AV) (i t : Nat), tl (mkl i l) (i + t) = (l.getD t .un).up
  | [], i, t => by simp [mkl, tl, al, AV.up]
  | a :: l, i, 0 => by simp [mkl, tl, al]
  | a :: l, i, t + 1 => by
    have h := mkl_get l (i + 1) t
    rw [show i + 1 + t = i + (t + 1) by omega] at h
    have hne : (i + (t + 1) == i) = false := by simp
    simp only [mkl, tl, al, hne, cond_false, List.getD_cons_succ]
    exact h
theorem mkl_ext (l : List AV) : (fun t => (l.getD t .un).up) = tl (mkl 0 l) := by
  funext t
  have := mkl_get l 0 t
  rw [Nat.zero_add] at this
  exact this.symm
/-- a call's text: the frame's variables above those of the callers -/
theorem CS.run {c : Cx} {f : Nat} {fn : Func} {body : Code} (hf : FnOk c.P f fn body) (args : List AV) (h h' : HP) (r : AV) (n : Nat) (hn : fn.ntmps = n) (hlen : args.length ≤ n)
    (hW : W c body ⟨n, tl (mkl 0 args), al [] :: upH h⟩ (fun e S => (e = .normal ∨ e = .ret) ∧ (∃ f1, S.hp = f1 :: upH h') ∧ Res c fn S r)) : CS c.P f args h r h' := by
  subst hn
  refine CS.of hf args h h' r hlen ?_
  rw [mkl_ext]
  exact hW
/-- the operations that are left, as they stand in the text -/
def WL (c : Cx) (ops : Array Oper) (l : List Oper) (S : St) (K : St → Prop) : Prop := ∀ is : List Nat, is.map (fun i => ops[i]?) = l.map some → WO c ops is S K
theorem WL.nil {c : Cx} {ops : Array Oper} {S : St} {K : St → Prop} (h : K S) : WL c ops [] S K := fun is hi => by
  have : is = [] := List.map_eq_nil_iff.1 hi
  subst this
  exact WO.nil h
theorem WL.cons {c : Cx} {ops : Array Oper} {o : Oper} {l : List Oper} {S S1 : St} {K : St → Prop} (h : OS c ops o S S1) (k : WL c ops l S1 K) : WL c ops (o :: l) S K := fun is hi => by
  cases is with
  | nil => simp at hi
  | cons i is =>
    simp only [List.map_cons, List.cons.injEq] at hi
    exact WO.cons hi.1 h (k is hi.2)
theorem WL.op {c : Cx} (mv : List Nat) {ops : Array Oper} {o : Oper} {l : List Oper} {S S1 : St} {K : St → Prop} (hg : o.guard = none) (h : okP c mv o S) (e : nx c mv o S = S1) (k : WL c ops l S1 K) : WL c ops (o :: l) S K :=
  WL.cons (OS.op (by unfold wnt; rw [hg]) (ok_snd h)) (by rw [e]; exact k)
theorem W.regL {c : Cx} {id : Nat} {ops : Array Oper} {S : St} {Q : Exit → St → Prop} (h : ∀ ops', ops' = ops → WL c ops' ops.toList S (Q .normal)) : W c (.region id ops false) S Q :=
  W.region (h ops rfl _ (by
    refine List.ext_getElem? fun i => ?_
    simp only [List.getElem?_map]
    rcases Nat.lt_or_ge i ops.size with hi | hi
    · simp [List.getElem?_range, hi]
    · simp [hi]))
theorem WL.call {c : Cx} {ops : Array Oper} {o : Oper} {l : List Oper} {S : St} {K : St → Prop} (ts : List Nat) (f : Operand) (args : Array Operand) (argTypes : Array TypeId) (ho : o.op = .call { callee := .value f, args, argTypes }) (hg : o.guard = none) (hd : ∀ k, o.dst = some k → k < S.n)
    {g : Nat} {caps : List AV} (hf : evT c 0 S f = .fn g caps) (of : okO c 0 f) {fn : Func} {body : Code} (hfn : FnOk c.P g fn body) (hTs : argTypes.toList.length = args.toList.length) (hok : ∀ x ∈ argTypes.toList.zip args.toList, okO c x.1 x.2) (hn : (gvn ts args.toList).Nodup)
    {as' : List AV} (ha : (argTypes.toList.zip args.toList).map (fun x => argA c ts S x.1 x.2) ++ caps = as') {r : AV} {h' : HP} (hc : CS c.P g as' S.hp r h') {S1 : St} (e : (⟨S.n, putF (clrs S.tm (gvn ts args.toList)) o.dst r, h'⟩ : St) = S1) (k : WL c ops l S1 K) : WL c ops (o :: l) S K := by
  subst ha
  exact WL.cons (OS.call hd (by unfold wnt; rw [hg]) f args argTypes ho ts g caps hf of fn body hfn argTypes.toList hTs hok hn r h' hc) (by rw [e]; exact k)
mutual
theorem AV.npt_mono {D E : Nat → Prop} (h : ∀ k, E k → D k) : ∀ a : AV, a.npt D → a.npt E
  | .un, _ => trivial
  | .d _, _ => trivial
  | .pt _ _ _, q => by simp only [AV.npt] at q ⊢; exact fun e1 e2 => q e1 (h _ e2)
  | .el _, _ => trivial
  | .rw _ _ _, q => by simp only [AV.npt] at q ⊢; exact fun e1 e2 => q e1 (h _ e2)
  | .tp l, q => by simp only [AV.npt] at q ⊢; exact AV.npts_mono h l q
  | .fn _ c, q => by simp only [AV.npt] at q ⊢; exact AV.npts_mono h c q
theorem AV.npts_mono {D E : Nat → Prop} (h : ∀ k, E k → D k) : ∀ l : List AV, AV.npts D l → AV.npts E l
  | [], _ => trivial
  | a :: l, q => by simp only [AV.npts] at q ⊢; exact ⟨AV.npt_mono h a q.1, AV.npts_mono h l q.2⟩
end
def inK (L2 : List (Nat × AV)) (k : Nat) : Prop := al L2 k ≠ none
mutual
def AV.cl (L2 : List (Nat × AV)) : AV → Prop
  | .un => True
  | .d _ => True
  | .pt lv k _ => lv = 0 → inK L2 k
  | .el _ => True
  | .rw lv k _ => lv = 0 → inK L2 k
  | .tp l => AV.cls L2 l
  | .fn _ c => AV.cls L2 c
def AV.cls (L2 : List (Nat × AV)) : List AV → Prop
  | [] => True
  | a :: l => a.cl L2 ∧ AV.cls L2 l
end
mutual
theorem AV.cl_npt {L2 : List (Nat × AV)} {h : HP} : ∀ a : AV, a.cl L2 → a.npt (fun k => hpg (al L2 :: h) 0 k = none)
  | .un, _ => trivial
  | .d _, _ => trivial
  | .pt _ _ _, q => by simp only [AV.cl, AV.npt] at q ⊢; exact fun e1 e2 => q e1 e2
  | .el _, _ => trivial
  | .rw _ _ _, q => by simp only [AV.cl, AV.npt] at q ⊢; exact fun e1 e2 => q e1 e2
  | .tp l, q => by simp only [AV.cl, AV.npt] at q ⊢; exact AV.cls_npt l q
  | .fn _ c, q => by simp only [AV.cl, AV.npt] at q ⊢; exact AV.cls_npt c q
theorem AV.cls_npt {L2 : List (Nat × AV)} {h : HP} : ∀ l : List AV, AV.cls L2 l → AV.npts (fun k => hpg (al L2 :: h) 0 k = none) l
  | [], _ => trivial
  | a :: l, q => by simp only [AV.cls, AV.npts] at q ⊢; exact ⟨AV.cl_npt a q.1, AV.cls_npt l q.2⟩
end
theorem al_mem : ∀ (l : List (Nat × AV)) (k : Nat) (v : AV), al l k = some v → (k, v) ∈ l
  | [], _, _, h => by simp [al] at h
  | (j, u) :: r, k, v, h => by
    simp only [al] at h
    cases hk : (k == j) with
    | true =>
      rw [hk, cond_true] at h
      have : k = j := by simpa using hk
      subst this
      cases h; simp
    | false => rw [hk, cond_false] at h; exact List.mem_cons_of_mem _ (al_mem r k v h)
/-- what is not listed is forgotten -/
theorem wk_prune {S : St} {f : Nat → Option AV} {h : HP} (L L2 : List (Nat × AV)) (hh : S.hp = f :: upH h) (h1 : ∀ p ∈ L, S.tm p.1 = p.2 ∧ p.2.cl L2) (h2 : ∀ p ∈ L2, f p.1 = some p.2 ∧ p.2.cl L2) : Wk S ⟨S.n, tl L, al L2 :: upH h⟩ := by
  refine ⟨rfl, fun t => ?_, fun lv k => ?_, fun t => ?_, fun lv q cn hq => ?_⟩
  · show (al L t).getD .un = _ ∨ _
    cases hq : al L t with
    | none => exact .inr (by show (al L t).getD .un = _; rw [hq]; rfl)
    | some v => exact .inl (h1 _ (al_mem L t v hq)).1.symm
  · rw [hh]
    cases lv with
    | zero =>
      show al L2 k = f k ∨ _
      cases hq : al L2 k with
      | none => exact .inr ⟨rfl, hq⟩
      | some v => exact .inl (h2 _ (al_mem L2 k v hq)).1.symm
    | succ lv => exact .inl rfl
  · show ((al L t).getD .un).npt _
    cases hq : al L t with
    | none => trivial
    | some v => exact AV.cl_npt v (h1 _ (al_mem L t v hq)).2
  · cases lv with
    | zero => exact AV.cl_npt cn (h2 _ (al_mem L2 q cn hq)).2
    | succ lv =>
      have hq' : hpg (upH h) lv q = some cn := hq
      rw [hpg_upH] at hq'
      cases hh2 : hpg h lv q with
      | none => rw [hh2] at hq'; cases hq'
      | some c0 =>
        rw [hh2] at hq'
        simp only [Option.map_some, Option.some.injEq] at hq'
        subst hq'
        exact AV.npt_up _ c0
theorem W.prune {c : Cx} {code : Code} {S : St} {Q : Exit → St → Prop} {f : Nat → Option AV} {h : HP} (L L2 : List (Nat × AV)) (hh : S.hp = f :: upH h) (h1 : ∀ p ∈ L, S.tm p.1 = p.2 ∧ p.2.cl L2) (h2 : ∀ p ∈ L2, f p.1 = some p.2 ∧ p.2.cl L2)
    (k : W c code ⟨S.n, tl L, al L2 :: upH h⟩ Q) : W c code S Q := W.weak (wk_prune L L2 hh h1 h2) k
/-- the same at the end of a text -/
def Wz (S S' : St) : Prop := ∀ (w : World) (F : Nat → Nat) (Θ : Ty) (own : Who → List Nat) (a : Act), Rel w F Θ own S a → ∃ F' Θ' own', Rel w F' Θ' own' S' a ∧ Stp w F Θ own w F' Θ' own'
theorem Wz.of {S S' : St} (k : Wk S S') : Wz S S' := fun w F Θ own a hR => by
  obtain ⟨Θ1, own1, h1, h2⟩ := hR.weak k
  exact ⟨F, Θ1, own1, h1, h2⟩
theorem W.after {c : Cx} {code : Code} {S : St} {Q Q' : Exit → St → Prop} (h : W c code S Q') (hq : ∀ e S1, Q' e S1 → ∃ S2, Wz S1 S2 ∧ Q e S2) : W c code S Q := fun w F Θ own a hR =>
  wp_mono (h w F Θ own a hR) fun e a1 w1 ⟨S1, F1, Θ1, own1, k1, k2, k3⟩ => by
    obtain ⟨S2, g1, g2⟩ := hq e S1 k1
    obtain ⟨F2, Θ2, own2, m1, m2⟩ := g1 w1 F1 Θ1 own1 a1 k2
    exact ⟨S2, F2, Θ2, own2, g2, m1, k3.trans m2⟩
theorem W.ahead {c : Cx} {code : Code} {S S1 : St} {Q : Exit → St → Prop} (z : Wz S S1) (h : W c code S1 Q) : W c code S Q := fun w F Θ own a hR => by
  obtain ⟨F1, Θ1, own1, h1, h2⟩ := z w F Θ own a hR
  exact wp_mono (h w F1 Θ1 own1 a h1) fun _ _ _ ⟨S2, F2, Θ2, own2, k1, k2, k3⟩ => ⟨S2, F2, Θ2, own2, k1, k2, h2.trans k3⟩
/-- a row is closed; what is not listed is forgotten -/
theorem wz_freeze {S : St} {f : Nat → Option AV} {h : HP} (t k n : Nat) (es : List DD) (s : Sh) (L L2 : List (Nat × AV)) (hh : S.hp = f :: upH h) (ht : S.tm t = .rw 0 k n) (hk : f k = some (.d (.st es))) (hsp : 0 < s.w) (hes : DD.shs es = List.replicate n s)
    (h1 : ∀ p ∈ L, p.1 ≠ t ∧ S.tm p.1 = p.2 ∧ p.2.cl L2) (h2 : ∀ p ∈ L2, p.1 ≠ k ∧ f p.1 = some p.2 ∧ p.2.cl L2) : Wz S ⟨S.n, tl ((t, .d (.sl true s es)) :: L), al L2 :: upH h⟩ := by
  intro w F Θ own a hR
  have hk2 : al L2 k = none := by
    cases hq : al L2 k with
    | none => rfl
    | some v => exact absurd rfl (h2 _ (al_mem L2 k v hq)).1
  have hL : ∀ u v, al L u = some v → S.tm u = v ∧ v.cl L2 := fun u v hq => (h1 _ (al_mem L u v hq)).2
  have npk : ∀ v : AV, v.cl L2 → v.npt (fun q => q = k) := by
    have key : ∀ v : AV, v.npt (fun q => hpg (al L2 :: upH h) 0 q = none) → v.npt (fun q => q = k) := by
      intro v
      refine AV.npt_mono (fun q e => ?_) v
      subst e; exact hk2
    exact fun v hv => key v (AV.cl_npt v hv)
  -- contents that do not look at the row: those that are kept; all others are forgotten first
  have hw : Wk S ⟨S.n, fun u => if u = t then .rw 0 k n else tl L u, (fun q => if q = k then f k else al L2 q) :: upH h⟩ := by
    refine ⟨rfl, fun u => ?_, fun lv q => ?_, fun u => ?_, fun lv q cn hq => ?_⟩
    · show (if u = t then _ else _) = _ ∨ _
      by_cases hu : u = t
      · subst hu; rw [if_pos rfl]; exact .inl ht.symm
      · rw [if_neg hu]
        show (al L u).getD .un = _ ∨ (if u = t then _ else _) = _
        rw [if_neg hu]
        show _ ∨ (al L u).getD .un = _
        cases hq : al L u with
        | none => exact .inr rfl
        | some v => exact .inl (hL u v hq).1.symm
    · rw [hh]
      cases lv with
      | zero =>
        show (if q = k then f k else al L2 q) = f q ∨ _
        by_cases hq : q = k
        · subst hq; rw [if_pos rfl]; exact .inl rfl
        · rw [if_neg hq]
          cases hq2 : al L2 q with
          | none => exact .inr ⟨rfl, by show (if q = k then f k else al L2 q) = none; rw [if_neg hq]; exact hq2⟩
          | some v => exact .inl (h2 _ (al_mem L2 q v hq2)).2.1.symm
      | succ lv => exact .inl rfl
    · show (if u = t then _ else _ : AV).npt _
      have mono : ∀ v : AV, v.cl L2 → v.npt (fun q => (if q = k then f k else al L2 q) = none) := fun v hv => AV.npt_mono (fun q e => by
        show al L2 q = none
        by_cases hq : q = k
        · subst hq; exact hk2
        · rw [if_neg hq] at e; exact e) v (AV.cl_npt (h := upH h) v hv)
      by_cases hu : u = t
      · rw [if_pos hu]
        simp only [AV.npt]
        intro _ e
        have e' : (if k = k then f k else al L2 k) = none := e
        rw [if_pos rfl, hk] at e'; cases e'
      · rw [if_neg hu]
        show ((al L u).getD .un).npt _
        cases hq : al L u with
        | none => trivial
        | some v => exact mono v (hL u v hq).2
    · have mono : ∀ v : AV, v.cl L2 → v.npt (fun q => (if q = k then f k else al L2 q) = none) := fun v hv => AV.npt_mono (fun q e => by
        show al L2 q = none
        by_cases hq : q = k
        · subst hq; exact hk2
        · rw [if_neg hq] at e; exact e) v (AV.cl_npt (h := upH h) v hv)
      cases lv with
      | zero =>
        have hq' : (if q = k then f k else al L2 q) = some cn := hq
        by_cases hqk : q = k
        · rw [if_pos hqk, hk] at hq'
          cases hq'; trivial
        · rw [if_neg hqk] at hq'
          exact mono cn (h2 _ (al_mem L2 q cn hq')).2.2
      | succ lv =>
        have hq' : hpg (upH h) lv q = some cn := hq
        rw [hpg_upH] at hq'
        cases hh2 : hpg h lv q with
        | none => rw [hh2] at hq'; cases hq'
        | some c0 =>
          rw [hh2] at hq'
          simp only [Option.map_some, Option.some.injEq] at hq'
          subst hq'
          exact AV.npt_up _ c0
  obtain ⟨Θ1, own1, r1, r2⟩ := hR.weak hw
  obtain ⟨F2, Θ2, own2, m1, m2⟩ := r1.freeze t k n (if_pos rfl) es (by show (if k = k then f k else _) = _; rw [if_pos rfl]; exact hk) s hsp hes ⟨S.n, tl ((t, .d (.sl true s es)) :: L), al L2 :: upH h⟩ rfl (fun u hu => by
      left
      show ((al ((t, _) :: L) u).getD .un) = (if u = t then _ else _)
      rw [if_neg hu]
      simp only [al, beq_eq_false_iff_ne.2 hu, cond_false]
      rfl) (by simp [tl, al]) (fun lv q hne => by
      cases lv with
      | zero =>
        show al L2 q = (if q = k then f k else al L2 q)
        rw [if_neg (fun e => hne ⟨rfl, e⟩)]
      | succ lv => rfl) hk2 (fun u hu => by
      show ((al ((t, _) :: L) u).getD .un).npt _
      simp only [al, beq_eq_false_iff_ne.2 hu, cond_false]
      cases hq : al L u with
      | none => trivial
      | some v => exact npk v (hL u v hq).2) (fun lv q cn hq => by
      cases lv with
      | zero => exact npk cn (h2 _ (al_mem L2 q cn hq)).2.2
      | succ lv =>
        have hq' : hpg (upH h) lv q = some cn := hq
        rw [hpg_upH] at hq'
        cases hh2 : hpg h lv q with
        | none => rw [hh2] at hq'; cases hq'
        | some c0 =>
          rw [hh2] at hq'
          simp only [Option.map_some, Option.some.injEq] at hq'
          subst hq'
          exact AV.npt_up _ c0)
  exact ⟨F2, Θ2, own2, m1, r2.trans m2⟩
end Go.Proofs.YtkmiecgcibjkbaaGreat
