/- Den12: calls of functions. No condition. -/
import Derived.Test.YtkmiecgcibjkbaaGreatDen11
namespace Go.Proofs.YtkmiecgcibjkbaaGreat
open Go.RowKit
/-- an argument: given away where ts says so -/
def argA (c : Cx) (ts : List Nat) (S : St) (T : Nat) : Operand → AV
  | .tmp t => bif ts.contains t then S.tm t else (S.tm t).vw
  | x => evT c T S x
def argO (own : Who → List Nat) (ts : List Nat) : Operand → List Nat
  | .tmp t => bif ts.contains t then own (.t t) else []
  | _ => []
def gvn (ts : List Nat) (xs : List Operand) : List Nat := xs.flatMap fun
  | .tmp t => bif ts.contains t then [t] else []
  | _ => []
theorem arg_rv {c : Cx} {T : Nat} {w : World} {F : Nat → Nat} {Θ : Ty} {own : Who → List Nat} {S : St} {a : Act} (h : Rel w F Θ own S a) (ts : List Nat) {x : Operand} (ho : okO c T x) : rv w F Θ (argA c ts S T x) (a.eval x) (argO own ts x) := by
  cases x with
  | tmp t =>
    simp only [argA, argO]
    cases ts.contains t with
    | true => exact h.tm t
    | false => exact rv.view _ _ _ (h.tm t)
  | const v => exact ev_rv h ho
  | func f => exact ev_rv h ho
  | global g => exact ev_rv h ho
structure FnOk (P : Program) (g : Nat) (fn : Func) (body : Code) : Prop where
  get : P.funcs[g]? = some fn
  bd : fn.body = some body
  nm : (fn.name == "runtime.NumGoroutine") = false
theorem rv_getS {w : World} {F : Nat → Nat} {Θ : Ty} : ∀ (l : List AV) (vs : List Value), rvS w F Θ l vs [] → l.length = vs.length ∧ ∀ i, rv w F Θ (l.getD i .un) (vs.getD i undef) []
  | [], vs, h => by
    simp only [rvS] at h
    obtain ⟨rfl, -⟩ := h
    exact ⟨rfl, fun i => by simp [rv]⟩
  | b :: l, vs, h => by
    simp only [rvS] at h
    obtain ⟨v, r, b1, b2, rfl, hb, g1, g2⟩ := h
    obtain ⟨rfl, rfl⟩ := List.append_eq_nil_iff.1 hb.symm
    obtain ⟨k1, k2⟩ := rv_getS l r g2
    refine ⟨by simp [k1], fun i => ?_⟩
    cases i with
    | zero => simpa using g1
    | succ i => simpa using k2 i
theorem OS.call {c : Cx} {ops : Array Oper} {o : Oper} {S : St} (hd : ∀ k, o.dst = some k → k < S.n) (hw : wnt ops o S = some true) (f : Operand) (args : Array Operand) (argTypes : Array TypeId) (ho : o.op = .call { callee := .value f, args, argTypes }) (ts : List Nat)
    (g : Nat) (caps : List AV) (hf : evT c 0 S f = .fn g caps) (of : okO c 0 f) (fn : Func) (body : Code) (hg : FnOk c.P g fn body) (Ts : List Nat) (hTs : Ts.length = args.toList.length) (hok : ∀ x ∈ Ts.zip args.toList, okO c x.1 x.2) (hn : (gvn ts args.toList).Nodup)
    (r : AV) (h' : HP) (hc : CS c.P g ((Ts.zip args.toList).map (fun x => argA c ts S x.1 x.2) ++ caps) S.hp r h') : OS c ops o S ⟨S.n, putF (clrs S.tm (gvn ts args.toList)) o.dst r, h'⟩ := by
  intro w F Θ own a hR K Q hK
  rw [if_pos (wnt_spec (c := c) hR hw)]
  have hfv := ev_rv hR of
  rw [hf] at hfv
  simp only [rv] at hfv
  obtain ⟨vc, ef, hvc⟩ := hfv
  obtain ⟨hcl, hcg⟩ := rv_getS caps vc hvc
  have hrun : (execOp a.eval o).run c.P w = .ok (.enter g (args.map a.eval ++ vc.toArray)) w := by
    have hne := hg.bd
    have hnm := hg.nm
    unfold execOp
    simp only [ho, resolve, ef]
    simp [Deferred.ofValue, invoke, callFunc, hg.get, hne]
    simp only [beq_eq_false_iff_ne] at hnm
    simp [hnm]
  unfold Oper.wp
  rw [hrun, Oper.upon_enter]
  have hlen : (Ts.zip args.toList).length = args.toList.length := by simp [hTs]
  -- what the arguments own
  let avs := (Ts.zip args.toList).map (fun x => argA c ts S x.1 x.2) ++ caps
  let vs := args.toList.map a.eval ++ vc
  have hvl : avs.length = vs.length := by simp only [avs, vs, List.length_append, List.length_map, hlen, hcl]
  let ow : Nat → List Nat := fun i => match args.toList[i]? with
    | some x => argO own ts x
    | none => []
  have hrv : ∀ i, rv w F Θ (avs.getD i .un) (vs.getD i undef) (ow i) := by
    intro i
    by_cases hi : i < args.toList.length
    · have h1 : (Ts.zip args.toList)[i]? = some (Ts[i]'(by omega), args.toList[i]) := by
        rw [List.getElem?_eq_getElem (by omega)]; simp
      have ha : avs.getD i .un = argA c ts S (Ts[i]'(by omega)) args.toList[i] := by
        simp only [avs, List.getD_eq_getElem?_getD]
        rw [List.getElem?_append_left (by simp [hTs]; exact hi), List.getElem?_map, h1]; rfl
      have hv : vs.getD i undef = a.eval args.toList[i] := by
        simp only [vs, List.getD_eq_getElem?_getD]
        rw [List.getElem?_append_left (by simpa using hi), List.getElem?_map, List.getElem?_eq_getElem hi]; rfl
      have hw : ow i = argO own ts args.toList[i] := by simp only [ow, List.getElem?_eq_getElem hi]
      rw [ha, hv, hw]
      exact arg_rv hR ts (hok _ (List.mem_of_getElem? h1))
    · have hw : ow i = [] := by simp only [ow, List.getElem?_eq_none (Nat.le_of_not_lt hi)]
      have ha : avs.getD i .un = caps.getD (i - args.toList.length) .un := by
        simp only [avs, List.getD_eq_getElem?_getD]
        rw [List.getElem?_append_right (by simp [hTs] at hi ⊢; omega)]; simp [hTs]
      have hv : vs.getD i undef = vc.getD (i - args.toList.length) undef := by
        simp only [vs, List.getD_eq_getElem?_getD]
        rw [List.getElem?_append_right (by simp at hi ⊢; omega)]; simp
      rw [ha, hv, hw]
      exact hcg _
  have how : ∀ i b, b ∈ ow i → ∃ t, args.toList[i]? = some (Operand.tmp t) ∧ ts.contains t = true ∧ b ∈ own (.t t) := by
    intro i b hb
    simp only [ow] at hb
    split at hb
    · rename_i x hx
      cases x with
      | tmp t =>
        simp only [argO] at hb
        cases hc : ts.contains t with
        | true => rw [hc] at hb; exact ⟨t, hx, hc, hb⟩
        | false => rw [hc] at hb; simp at hb
      | _ => simp [argO] at hb
    · simp at hb
  have hgv : ∀ t : Nat, t ∈ gvn ts args.toList ↔ ∃ i : Nat, args.toList[i]? = some (Operand.tmp t) ∧ ts.contains t = true := by
    intro t
    simp only [gvn, List.mem_flatMap]
    constructor
    · rintro ⟨x, hx, ht⟩
      cases x with
      | tmp u =>
        simp only at ht
        cases hc : ts.contains u with
        | true =>
          rw [hc] at ht
          have : t = u := by simpa using ht
          subst this
          obtain ⟨i, hi, e⟩ := List.getElem_of_mem hx
          exact ⟨i, by rw [List.getElem?_eq_getElem hi, e], hc⟩
        | false => rw [hc] at ht; simp at ht
      | _ => simp at ht
    · rintro ⟨i, hi, hc⟩
      refine ⟨.tmp t, List.mem_of_getElem? hi, ?_⟩
      simp only [hc, cond_true, List.mem_singleton]
  have hinj : ∀ (i j t : Nat), args.toList[i]? = some (Operand.tmp t) → args.toList[j]? = some (Operand.tmp t) → ts.contains t = true → i = j := by
    have key : ∀ (l : List Operand), (gvn ts l).Nodup → ∀ (i j t : Nat), l[i]? = some (Operand.tmp t) → l[j]? = some (Operand.tmp t) → ts.contains t = true → i = j := by
      intro l
      induction l with
      | nil => intro _ i j t hi; simp at hi
      | cons x l ih =>
        intro hn i j t hi hj hc
        simp only [gvn, List.flatMap_cons] at hn
        have hmem : ∀ k, l[k]? = some (Operand.tmp t) → t ∈ gvn ts l := fun k hk => by
          simp only [gvn, List.mem_flatMap]
          exact ⟨.tmp t, List.mem_of_getElem? hk, by simp only [hc, cond_true, List.mem_singleton]⟩
        have hn2 := List.nodup_append.1 hn
        cases i with
        | zero =>
          cases j with
          | zero => rfl
          | succ j =>
            simp only [List.getElem?_cons_zero, Option.some.injEq] at hi
            subst hi
            exact absurd rfl (hn2.2.2 t (by simp only [hc, cond_true, List.mem_singleton]) t (hmem j (by simpa using hj)))
        | succ i =>
          cases j with
          | zero =>
            simp only [List.getElem?_cons_zero, Option.some.injEq] at hj
            subst hj
            exact absurd rfl (hn2.2.2 t (by simp only [hc, cond_true, List.mem_singleton]) t (hmem i (by simpa using hi)))
          | succ j => rw [ih hn2.2.1 i j t (by simpa using hi) (by simpa using hj) hc]
    exact key _ hn
  let ownE : Who → List Nat := fun
    | .t i => ow i
    | .h lv k => own (.h lv k)
    | .l lv k => own (.l lv k)
  have srcE : ∀ x b, b ∈ ownE x → ∃ y, b ∈ own y ∧ (∀ t, y = .t t → t ∈ gvn ts args.toList) := by
    intro x b hb
    cases x with
    | t i =>
      obtain ⟨t, h1, h2, h3⟩ := how i b hb
      exact ⟨.t t, h3, fun u e => by cases e; exact (hgv _).2 ⟨i, h1, h2⟩⟩
    | h lv k => exact ⟨.h lv k, hb, fun _ e => by cases e⟩
    | l lv k => exact ⟨.l lv k, hb, fun _ e => by cases e⟩
  have hRE : Rel w F Θ ownE (entS avs S.hp) ⟨vs.toArray, []⟩ := by
    refine ⟨by simp [entS, hvl], rfl, fun t => ?_, hR.hn, hR.hs, ?_, ?_, ?_, hR.top⟩
    · have := hrv t
      simpa [entS, List.getD_eq_getElem?_getD, Array.getD_eq_getD_getElem?] using this
    · intro x
      cases x with
      | t i =>
        show (ow i).Nodup
        simp only [ow]
        split
        · rename_i x _
          cases x with
          | tmp t => simp only [argO]; cases ts.contains t; exact List.nodup_nil; exact hR.nd _
          | _ => exact List.nodup_nil
        · exact List.nodup_nil
      | h lv k => exact hR.nd _
      | l lv k => exact hR.nd _
    · intro x y hxy b hx hy
      cases x with
      | t i =>
        obtain ⟨t, h1, h2, h3⟩ := how i b hx
        cases y with
        | t j =>
          obtain ⟨u, g1, g2, g3⟩ := how j b hy
          by_cases hu : t = u
          · subst hu; exact hxy (by rw [hinj i j t h1 g1 h2])
          · exact hR.dj (.t t) (.t u) (fun e => hu (by cases e; rfl)) b h3 g3
        | h lv k => exact hR.dj (.t t) (.h lv k) (by simp) b h3 hy
        | l lv k => exact hR.dj (.t t) (.l lv k) (by simp) b h3 hy
      | h lv k =>
        cases y with
        | t j => obtain ⟨u, g1, g2, g3⟩ := how j b hy; exact hR.dj (.h lv k) (.t u) (by simp) b hx g3
        | h lv' k' => exact hR.dj _ _ hxy b hx hy
        | l lv' k' => exact hR.dj _ _ hxy b hx hy
      | l lv k =>
        cases y with
        | t j => obtain ⟨u, g1, g2, g3⟩ := how j b hy; exact hR.dj (.l lv k) (.t u) (by simp) b hx g3
        | h lv' k' => exact hR.dj _ _ hxy b hx hy
        | l lv' k' => exact hR.dj _ _ hxy b hx hy
    · intro x b hb
      obtain ⟨y, hy, -⟩ := srcE x b hb
      exact hR.lt y b hy
  have hvs : (args.map a.eval ++ vc.toArray) = vs.toArray := by simp [vs]
  rw [hvs]
  refine Calls.mono (hc w F Θ ownE vs hRE) fun e w' ⟨v, F', own', he, hR', hS⟩ => ?_
  subst he
  -- what stays with the caller
  let ownN : Who → List Nat := fun x => match x with
    | .t t => if o.dst = some t then own' (.t 0) else if t ∈ gvn ts args.toList then [] else own (.t t)
    | .h lv k => own' (.h lv k)
    | .l lv k => own' (.l lv k)
  have oth : ∀ x b, b ∈ own' x → ∀ t, t ∉ gvn ts args.toList → b ∉ own (.t t) := by
    intro x b hb t ht hbt
    rcases hS.fr x b hb with ⟨y, hy⟩ | hy
    · obtain ⟨z, hz, hz2⟩ := srcE y b hy
      by_cases e : z = .t t
      · exact ht (hz2 t e)
      · exact hR.dj z (.t t) e b hz hbt
    · have := hR.lt _ b hbt; omega
  have kpt : ∀ t, t ∉ gvn ts args.toList → Kp w F w' F' (own (.t t)) := fun t ht => ⟨hS.ks.cell, hS.ks.mono, fun b hb => hS.ks.out b (hR.lt _ b hb) (fun ⟨x, hx⟩ => by
    obtain ⟨z, hz, hz2⟩ := srcE x b hx
    by_cases e : z = .t t
    · exact ht (hz2 t e)
    · exact hR.dj z (.t t) e b hz hb)⟩
  have kp0 : Kp w F w' F' [] := ⟨hS.ks.cell, hS.ks.mono, by simp⟩
  have hT : ∀ lv k (x : Nat × Sh), Θ lv k = some x → Θ lv k = some x := fun _ _ _ q => q
  have hr0 : rv w' F' Θ r v (own' (.t 0)) := by simpa [retS] using hR'.tm 0
  have cases4 : ∀ x b, b ∈ ownN x → (∃ y, b ∈ own' y ∧ ((x = .t (o.dst.getD 0) ∧ (∃ k, o.dst = some k) ∧ y = .t 0) ∨ ((∀ t, x ≠ .t t) ∧ y = x))) ∨ (∃ t, x = .t t ∧ o.dst ≠ some t ∧ t ∉ gvn ts args.toList ∧ b ∈ own (.t t)) := by
    intro x b hb
    cases x with
    | t t =>
      simp only [ownN] at hb
      split at hb
      · rename_i hd2; exact .inl ⟨_, hb, .inl ⟨by rw [hd2]; rfl, ⟨t, hd2⟩, rfl⟩⟩
      · split at hb
        · simp at hb
        · exact .inr ⟨t, rfl, ‹_›, ‹_›, hb⟩
    | h lv k => exact .inl ⟨_, hb, .inr ⟨by simp, rfl⟩⟩
    | l lv k => exact .inl ⟨_, hb, .inr ⟨by simp, rfl⟩⟩
  refine hK _ _ F' Θ ownN ⟨?_, ?_, ?_, hR'.hn, hR'.hs, ?_, ?_, ?_, hR'.top⟩ ⟨?_, ?_, fun _ _ => rfl⟩
  · rw [size_put, hR.n]
  · rw [defers_put, hR.df]
  · intro t
    show rv w' F' Θ (putF (clrs S.tm (gvn ts args.toList)) o.dst r t) _ _
    by_cases hdt : o.dst = some t
    · rw [hdt, getD_put a t t v (by rw [hR.n]; exact hd t hdt), if_pos rfl]
      simp only [putF, upd_self]
      have : ownN (.t t) = own' (.t 0) := if_pos hdt
      rw [this]; exact hr0
    · have e1 : putF (clrs S.tm (gvn ts args.toList)) o.dst r t = clrs S.tm (gvn ts args.toList) t := by
        cases hq : o.dst with
        | none => rfl
        | some k => exact upd_ne _ _ (fun e => hdt (by rw [hq, e]))
      have e2 : (a.put o.dst v).tmps.getD t undef = a.tmps.getD t undef := by
        cases hq : o.dst with
        | none => rfl
        | some k => rw [getD_put a k t v (by rw [hR.n]; exact hd k hq), if_neg (fun e => hdt (by rw [hq, e]))]
      rw [e1, e2, clrs_get]
      by_cases hm : t ∈ gvn ts args.toList
      · have : ownN (.t t) = [] := by simp only [ownN, if_neg hdt, if_pos hm]
        rw [if_pos hm, this]
        exact rv.keep hT _ _ _ (rv.view _ _ _ (hR.tm t)) kp0
      · have : ownN (.t t) = own (.t t) := by simp only [ownN, if_neg hdt, if_neg hm]
        rw [if_neg hm, this]
        exact rv.keep hT _ _ _ (hR.tm t) (kpt t hm)
  · intro x
    cases x with
    | t t =>
      show (if _ then _ else if _ then _ else _ : List Nat).Nodup
      split
      · exact hR'.nd _
      · split
        · exact List.nodup_nil
        · exact hR.nd _
    | h lv k => exact hR'.nd _
    | l lv k => exact hR'.nd _
  · intro x y hxy b hx hy
    rcases cases4 x b hx with ⟨x', hx', hx2⟩ | ⟨t, rfl, h2, h3, h4⟩ <;> rcases cases4 y b hy with ⟨y', hy', hy2⟩ | ⟨u, rfl, g2, g3, g4⟩
    · have hne : x' ≠ y' := by
        rintro rfl
        rcases hx2 with ⟨rfl, -, rfl⟩ | ⟨h1, rfl⟩ <;> rcases hy2 with ⟨rfl, -, e⟩ | ⟨g1, e⟩
        · exact hxy rfl
        · exact g1 _ e.symm
        · exact h1 _ e
        · exact hxy e
      exact hR'.dj x' y' hne b hx' hy'
    · exact oth x' b hx' u g3 g4
    · exact oth y' b hy' t h3 h4
    · exact hR.dj (.t t) (.t u) hxy b h4 g4
  · intro x b hb
    rcases cases4 x b hb with ⟨x', hx', -⟩ | ⟨t, rfl, h2, h3, h4⟩
    · exact hR'.lt x' b hx'
    · exact Nat.lt_of_lt_of_le (hR.lt _ b h4) hS.ks.size
  · exact ⟨hS.ks.os, hS.ks.tape, hS.ks.output, hS.ks.size, hS.ks.cell, hS.ks.mono, fun b hb hne => hS.ks.out b hb (fun ⟨x, hx⟩ => by obtain ⟨z, hz, -⟩ := srcE x b hx; exact hne ⟨z, hz⟩)⟩
  · intro x b hb
    rcases cases4 x b hb with ⟨x', hx', -⟩ | ⟨t, rfl, h2, h3, h4⟩
    · rcases hS.fr x' b hx' with ⟨y, hy⟩ | hy
      · obtain ⟨z, hz, -⟩ := srcE y b hy; exact .inl ⟨z, hz⟩
      · exact .inr hy
    · exact .inl ⟨_, h4⟩
end Go.Proofs.YtkmiecgcibjkbaaGreat
