/- Den12: calls of functions; Den13: what is forgotten, rows that are closed, functions. No condition but sizes. -/
import Derived.Test.YtdooklofebdknaaGreatM13
namespace Go.Proofs.YtdooklofebdknaaGreat
open Go.RowKit
/-- an argument: given away where ts says so -/
def argA (c : Cx) (ts : List Nat) (S : St) (T : Nat) : Operand → AV
 | .tmp t => bif ts.contains t then S.tm t else (S.tm t).vw
 | x => evT c T S x
def argO (own : Who → List Nat) (ts : List Nat) : Operand → List Nat
 | .tmp t => bif ts.contains t then own (.t t) else []
 | _ => []
def gvn (ts : List Nat) (xs : List Operand) : List Nat := xs.flatMap fun
 | .tmp t => bif ts.contains t then [t] else []
 | _ => []
theorem arg_rv {c : Cx} {T : Nat} {w : World} {F : Nat → Nat} {Θ : Ty} {own : Who → List Nat} {S : St} {a : Act} (h : Rel w F Θ own S a) (ts : List Nat) {x : Operand} (ho : okO c T x) : rv w F Θ (argA c ts S T x) (a.eval x) (argO own ts x) := by
 cases x with
 | tmp t =>
  simp only [argA, argO]
  cases ts.contains t with
  | true => exact h.tm t
  | false => exact rv.view _ _ _ (h.tm t)
 | const v => exact ev_rv h ho
 | func f => exact ev_rv h ho
 | global g => exact ev_rv h ho
structure FnOk (P : Program) (g : Nat) (fn : Func) (body : Code) : Prop where
 get : P.funcs[g]? = some fn
 bd : fn.body = some body
 nm : (fn.name == "runtime.NumGoroutine") = false
theorem rv_getS {w : World} {F : Nat → Nat} {Θ : Ty} : ∀ (l : List AV) (vs : List Value), rvS w F Θ l vs [] → l.length = vs.length ∧ ∀ i, rv w F Θ (l.getD i .un) (vs.getD i undef) []
 | [], vs, h => by
  simp only [rvS] at h
  obtain ⟨rfl, -⟩ := h
  exact ⟨rfl, fun i => by simp [rv]⟩
 | b :: l, vs, h => by
  simp only [rvS] at h
  obtain ⟨v, r, b1, b2, rfl, hb, g1, g2⟩ := h
  obtain ⟨rfl, rfl⟩ := List.append_eq_nil_iff.1 hb.symm
  obtain ⟨k1, k2⟩ := rv_getS l r g2
  refine ⟨by simp [k1], fun i => ?_⟩
  cases i with
  | zero => simpa using g1
  | succ i => simpa using k2 i
/-- a contract under a condition on the arguments' values -/
def CSP (P : Program) (f : Nat) (p : List Value → Prop) (args : List AV) (h : HP) (r : AV) (h' : HP) : Prop := ∀ (w : World) (F : Nat → Nat) (Θ : Ty) (own : Who → List Nat) (vs : List Value), p vs → Rel w F Θ own (entS args h) ⟨vs.toArray, []⟩ →
 Calls P f vs.toArray w fun e w' => ∃ v F' own', e = .returned v ∧ Rel w' F' Θ own' (retS r h') ⟨#[v], []⟩ ∧ Stp w F Θ own w' F' Θ own'
theorem OS.callP {c : Cx} {ops : Array Oper} {o : Oper} {S : St} (hd : ∀ k, o.dst = some k → k < S.n) (hw : wnt ops o S = some true) (f : Operand) (args : Array Operand) (argTypes : Array TypeId) (ho : o.op = .call { callee := .value f, args, argTypes }) (ts : List Nat)
  (g : Nat) (caps : List AV) (hf : evT c 0 S f = .fn g caps) (of : okO c 0 f) (fn : Func) (body : Code) (hg : FnOk c.P g fn body) (Ts : List Nat) (hTs : Ts.length = args.toList.length) (hok : ∀ x ∈ Ts.zip args.toList, okO c x.1 x.2) (hn : (gvn ts args.toList).Nodup)
  (r : AV) (h' : HP) (p : List Value → Prop) (hp : ∀ (a : Act) (vc : List Value), p (args.toList.map a.eval ++ vc)) (hc : CSP c.P g p ((Ts.zip args.toList).map (fun x => argA c ts S x.1 x.2) ++ caps) S.hp r h') : OS c ops o S ⟨S.n, putF (clrs S.tm (gvn ts args.toList)) o.dst r, h'⟩ := by
 intro w F Θ own a hR K Q hK
 rw [if_pos (wnt_spec (c := c) hR hw)]
 have hfv := ev_rv hR of
 rw [hf] at hfv
 simp only [rv] at hfv
 obtain ⟨vc, ef, hvc⟩ := hfv
 obtain ⟨hcl, hcg⟩ := rv_getS caps vc hvc
 have hrun : (execOp a.eval o).run c.P w = .ok (.enter g (args.map a.eval ++ vc.toArray)) w := by
  have hne := hg.bd
  have hnm := hg.nm
  unfold execOp
  simp only [ho, resolve, ef]
  simp [Deferred.ofValue, invoke, callFunc, hg.get, hne]
  simp only [beq_eq_false_iff_ne] at hnm
  simp [hnm]
 unfold Oper.wp
 rw [hrun, Oper.upon_enter]
 have hlen : (Ts.zip args.toList).length = args.toList.length := by simp [hTs]
 -- what the arguments own
 let avs := (Ts.zip args.toList).map (fun x => argA c ts S x.1 x.2) ++ caps
 let vs := args.toList.map a.eval ++ vc
 have hvl : avs.length = vs.length := by simp only [avs, vs, List.length_append, List.length_map, hlen, hcl]
 let ow : Nat → List Nat := fun i => match args.toList[i]? with
  | some x => argO own ts x
  | none => []
 have hrv : ∀ i, rv w F Θ (avs.getD i .un) (vs.getD i undef) (ow i) := by
  intro i
  by_cases hi : i < args.toList.length
  ·have h1 : (Ts.zip args.toList)[i]? = some (Ts[i]'(by omega), args.toList[i]) := by
    rw [List.getElem?_eq_getElem (by omega)]; simp
   have ha : avs.getD i .un = argA c ts S (Ts[i]'(by omega)) args.toList[i] := by
    simp only [avs, List.getD_eq_getElem?_getD]
    rw [List.getElem?_append_left (by simp [hTs]; exact hi), List.getElem?_map, h1]; rfl
   have hv : vs.getD i undef = a.eval args.toList[i] := by
    simp only [vs, List.getD_eq_getElem?_getD]
    rw [List.getElem?_append_left (by simpa using hi), List.getElem?_map, List.getElem?_eq_getElem hi]; rfl
   have hw : ow i = argO own ts args.toList[i] := by simp only [ow, List.getElem?_eq_getElem hi]
   rw [ha, hv, hw]
   exact arg_rv hR ts (hok _ (List.mem_of_getElem? h1))
  ·have hw : ow i = [] := by simp only [ow, List.getElem?_eq_none (Nat.le_of_not_lt hi)]
   have ha : avs.getD i .un = caps.getD (i - args.toList.length) .un := by
    simp only [avs, List.getD_eq_getElem?_getD]
    rw [List.getElem?_append_right (by simp [hTs] at hi ⊢; omega)]; simp [hTs]
   have hv : vs.getD i undef = vc.getD (i - args.toList.length) undef := by
    simp only [vs, List.getD_eq_getElem?_getD]
    rw [List.getElem?_append_right (by simp at hi ⊢; omega)]; simp
   rw [ha, hv, hw]
   exact hcg _
 have how : ∀ i b, b ∈ ow i → ∃ t, args.toList[i]? = some (Operand.tmp t) ∧ ts.contains t = true ∧ b ∈ own (.t t) := by
  intro i b hb
  simp only [ow] at hb
  split at hb
  ·rename_i x hx
   cases x with
   | tmp t =>
    simp only [argO] at hb
    cases hc : ts.contains t with
    | true => rw [hc] at hb; exact ⟨t, hx, hc, hb⟩
    | false => rw [hc] at hb; simp at hb
   | _ => simp [argO] at hb
  ·simp at hb
 have hgv : ∀ t : Nat, t ∈ gvn ts args.toList ↔ ∃ i : Nat, args.toList[i]? = some (Operand.tmp t) ∧ ts.contains t = true := by
  intro t
  simp only [gvn, List.mem_flatMap]
  constructor
  ·rintro ⟨x, hx, ht⟩
   cases x with
   | tmp u =>
    simp only at ht
    cases hc : ts.contains u with
    | true =>
     rw [hc] at ht
     have : t = u := by simpa using ht
     subst this
     obtain ⟨i, hi, e⟩ := List.getElem_of_mem hx
     exact ⟨i, by rw [List.getElem?_eq_getElem hi, e], hc⟩
    | false => rw [hc] at ht; simp at ht
   | _ => simp at ht
  ·rintro ⟨i, hi, hc⟩
   refine ⟨.tmp t, List.mem_of_getElem? hi, ?_⟩
   simp only [hc, cond_true, List.mem_singleton]
 have hinj : ∀ (i j t : Nat), args.toList[i]? = some (Operand.tmp t) → args.toList[j]? = some (Operand.tmp t) → ts.contains t = true → i = j := by
  have key : ∀ (l : List Operand), (gvn ts l).Nodup → ∀ (i j t : Nat), l[i]? = some (Operand.tmp t) → l[j]? = some (Operand.tmp t) → ts.contains t = true → i = j := by
   intro l
   induction l with
   | nil => intro _ i j t hi; simp at hi
   | cons x l ih =>
    intro hn i j t hi hj hc
    simp only [gvn, List.flatMap_cons] at hn
    have hmem : ∀ k, l[k]? = some (Operand.tmp t) → t ∈ gvn ts l := fun k hk => by
     simp only [gvn, List.mem_flatMap]
     exact ⟨.tmp t, List.mem_of_getElem? hk, by simp only [hc, cond_true, List.mem_singleton]⟩
    have hn2 := List.nodup_append.1 hn
    cases i with
    | zero =>
     cases j with
     | zero => rfl
     | succ j =>
      simp only [List.getElem?_cons_zero, Option.some.injEq] at hi
      subst hi
      exact absurd rfl (hn2.2.2 t (by simp only [hc, cond_true, List.mem_singleton]) t (hmem j (by simpa using hj)))
    | succ i =>
     cases j with
     | zero =>
      simp only [List.getElem?_cons_zero, Option.some.injEq] at hj
      subst hj
      exact absurd rfl (hn2.2.2 t (by simp only [hc, cond_true, List.mem_singleton]) t (hmem i (by simpa using hi)))
     | succ j => rw [ih hn2.2.1 i j t (by simpa using hi) (by simpa using hj) hc]
  exact key _ hn
 let ownE : Who → List Nat := fun
  | .t i => ow i
  | .h lv k => own (.h lv k)
  | .l lv k => own (.l lv k)
 have srcE : ∀ x b, b ∈ ownE x → ∃ y, b ∈ own y ∧ (∀ t, y = .t t → t ∈ gvn ts args.toList) := by
  intro x b hb
  cases x with
  | t i =>
   obtain ⟨t, h1, h2, h3⟩ := how i b hb
   exact ⟨.t t, h3, fun u e => by cases e; exact (hgv _).2 ⟨i, h1, h2⟩⟩
  | h lv k => exact ⟨.h lv k, hb, fun _ e => by cases e⟩
  | l lv k => exact ⟨.l lv k, hb, fun _ e => by cases e⟩
 have hRE : Rel w F Θ ownE (entS avs S.hp) ⟨vs.toArray, []⟩ := by
  refine ⟨by simp [entS, hvl], rfl, fun t => ?_, hR.hn, hR.hs, ?_, ?_, ?_, hR.top, hR.gl⟩
  ·have := hrv t
   simpa [entS, List.getD_eq_getElem?_getD, Array.getD_eq_getD_getElem?] using this
  ·intro x
   cases x with
   | t i =>
    show (ow i).Nodup
    simp only [ow]
    split
    ·rename_i x _
     cases x with
     | tmp t => simp only [argO]; cases ts.contains t; exact List.nodup_nil; exact hR.nd _
     | _ => exact List.nodup_nil
    ·exact List.nodup_nil
   | h lv k => exact hR.nd _
   | l lv k => exact hR.nd _
  ·intro x y hxy b hx hy
   cases x with
   | t i =>
    obtain ⟨t, h1, h2, h3⟩ := how i b hx
    cases y with
    | t j =>
     obtain ⟨u, g1, g2, g3⟩ := how j b hy
     by_cases hu : t = u
     ·subst hu; exact hxy (by rw [hinj i j t h1 g1 h2])
     ·exact hR.dj (.t t) (.t u) (fun e => hu (by cases e; rfl)) b h3 g3
    | h lv k => exact hR.dj (.t t) (.h lv k) (by simp) b h3 hy
    | l lv k => exact hR.dj (.t t) (.l lv k) (by simp) b h3 hy
   | h lv k =>
    cases y with
    | t j => obtain ⟨u, g1, g2, g3⟩ := how j b hy; exact hR.dj (.h lv k) (.t u) (by simp) b hx g3
    | h lv' k' => exact hR.dj _ _ hxy b hx hy
    | l lv' k' => exact hR.dj _ _ hxy b hx hy
   | l lv k =>
    cases y with
    | t j => obtain ⟨u, g1, g2, g3⟩ := how j b hy; exact hR.dj (.l lv k) (.t u) (by simp) b hx g3
    | h lv' k' => exact hR.dj _ _ hxy b hx hy
    | l lv' k' => exact hR.dj _ _ hxy b hx hy
  ·intro x b hb
   obtain ⟨y, hy, -⟩ := srcE x b hb
   exact hR.lt y b hy
 have hvs : (args.map a.eval ++ vc.toArray) = vs.toArray := by simp [vs]
 rw [hvs]
 refine Calls.mono (hc w F Θ ownE vs (hp a vc) hRE) fun e w' ⟨v, F', own', he, hR', hS⟩ => ?_
 subst he
 -- what stays with the caller
 let ownN : Who → List Nat := fun x => match x with
  | .t t => if o.dst = some t then own' (.t 0) else if t ∈ gvn ts args.toList then [] else own (.t t)
  | .h lv k => own' (.h lv k)
  | .l lv k => own' (.l lv k)
 have oth : ∀ x b, b ∈ own' x → ∀ t, t ∉ gvn ts args.toList → b ∉ own (.t t) := by
  intro x b hb t ht hbt
  rcases hS.fr x b hb with ⟨y, hy⟩ | hy
  ·obtain ⟨z, hz, hz2⟩ := srcE y b hy
   by_cases e : z = .t t
   ·exact ht (hz2 t e)
   ·exact hR.dj z (.t t) e b hz hbt
  ·have := hR.lt _ b hbt; omega
 have kpt : ∀ t, t ∉ gvn ts args.toList → Kp w F w' F' (own (.t t)) := fun t ht => ⟨hS.ks.cell, hS.ks.mono, fun b hb => hS.ks.out b (hR.lt _ b hb) (fun ⟨x, hx⟩ => by
  obtain ⟨z, hz, hz2⟩ := srcE x b hx
  by_cases e : z = .t t
  ·exact ht (hz2 t e)
  ·exact hR.dj z (.t t) e b hz hb)⟩
 have kp0 : Kp w F w' F' [] := ⟨hS.ks.cell, hS.ks.mono, by simp⟩
 have hT : ∀ lv k (x : Nat × Sh), Θ lv k = some x → Θ lv k = some x := fun _ _ _ q => q
 have hr0 : rv w' F' Θ r v (own' (.t 0)) := by simpa [retS] using hR'.tm 0
 have cases4 : ∀ x b, b ∈ ownN x → (∃ y, b ∈ own' y ∧ ((x = .t (o.dst.getD 0) ∧ (∃ k, o.dst = some k) ∧ y = .t 0) ∨ ((∀ t, x ≠ .t t) ∧ y = x))) ∨ (∃ t, x = .t t ∧ o.dst ≠ some t ∧ t ∉ gvn ts args.toList ∧ b ∈ own (.t t)) := by
  intro x b hb
  cases x with
  | t t =>
   simp only [ownN] at hb
   split at hb
   ·rename_i hd2; exact .inl ⟨_, hb, .inl ⟨by rw [hd2]; rfl, ⟨t, hd2⟩, rfl⟩⟩
   ·split at hb
    ·simp at hb
    ·exact .inr ⟨t, rfl, ‹_›, ‹_›, hb⟩
  | h lv k => exact .inl ⟨_, hb, .inr ⟨by simp, rfl⟩⟩
  | l lv k => exact .inl ⟨_, hb, .inr ⟨by simp, rfl⟩⟩
 refine hK _ _ F' Θ ownN ⟨?_, ?_, ?_, hR'.hn, hR'.hs, ?_, ?_, ?_, hR'.top, hR'.gl⟩ ⟨?_, ?_, fun _ _ => rfl⟩
 ·rw [size_put, hR.n]
 ·rw [defers_put, hR.df]
 ·intro t
  show rv w' F' Θ (putF (clrs S.tm (gvn ts args.toList)) o.dst r t) _ _
  by_cases hdt : o.dst = some t
  ·rw [hdt, getD_put a t t v (by rw [hR.n]; exact hd t hdt), if_pos rfl]
   simp only [putF, upd_self]
   have : ownN (.t t) = own' (.t 0) := if_pos hdt
   rw [this]; exact hr0
  ·have e1 : putF (clrs S.tm (gvn ts args.toList)) o.dst r t = clrs S.tm (gvn ts args.toList) t := by
    cases hq : o.dst with
    | none => rfl
    | some k => exact upd_ne _ _ (fun e => hdt (by rw [hq, e]))
   have e2 : (a.put o.dst v).tmps.getD t undef = a.tmps.getD t undef := by
    cases hq : o.dst with
    | none => rfl
    | some k => rw [getD_put a k t v (by rw [hR.n]; exact hd k hq), if_neg (fun e => hdt (by rw [hq, e]))]
   rw [e1, e2, clrs_get]
   by_cases hm : t ∈ gvn ts args.toList
   ·have : ownN (.t t) = [] := by simp only [ownN, if_neg hdt, if_pos hm]
    rw [if_pos hm, this]
    exact rv.keep hT _ _ _ (rv.view _ _ _ (hR.tm t)) kp0
   ·have : ownN (.t t) = own (.t t) := by simp only [ownN, if_neg hdt, if_neg hm]
    rw [if_neg hm, this]
    exact rv.keep hT _ _ _ (hR.tm t) (kpt t hm)
 ·intro x
  cases x with
  | t t =>
   show (if _ then _ else if _ then _ else _ : List Nat).Nodup
   split
   ·exact hR'.nd _
   ·split
    ·exact List.nodup_nil
    ·exact hR.nd _
  | h lv k => exact hR'.nd _
  | l lv k => exact hR'.nd _
 ·intro x y hxy b hx hy
  rcases cases4 x b hx with ⟨x', hx', hx2⟩ | ⟨t, rfl, h2, h3, h4⟩ <;> rcases cases4 y b hy with ⟨y', hy', hy2⟩ | ⟨u, rfl, g2, g3, g4⟩
  ·have hne : x' ≠ y' := by
    rintro rfl
    rcases hx2 with ⟨rfl, -, rfl⟩ | ⟨h1, rfl⟩ <;> rcases hy2 with ⟨rfl, -, e⟩ | ⟨g1, e⟩
    ·exact hxy rfl
    ·exact g1 _ e.symm
    ·exact h1 _ e
    ·exact hxy e
   exact hR'.dj x' y' hne b hx' hy'
  ·exact oth x' b hx' u g3 g4
  ·exact oth y' b hy' t h3 h4
  ·exact hR.dj (.t t) (.t u) hxy b h4 g4
 ·intro x b hb
  rcases cases4 x b hb with ⟨x', hx', -⟩ | ⟨t, rfl, h2, h3, h4⟩
  ·exact hR'.lt x' b hx'
  ·exact Nat.lt_of_lt_of_le (hR.lt _ b h4) hS.ks.size
 ·exact ⟨hS.ks.os, hS.ks.tape, hS.ks.output, hS.ks.size, hS.ks.cell, hS.ks.mono, fun b hb hne => hS.ks.out b hb (fun ⟨x, hx⟩ => by obtain ⟨z, hz, -⟩ := srcE x b hx; exact hne ⟨z, hz⟩)⟩
 ·intro x b hb
  rcases cases4 x b hb with ⟨x', hx', -⟩ | ⟨t, rfl, h2, h3, h4⟩
  ·rcases hS.fr x' b hx' with ⟨y, hy⟩ | hy
   ·obtain ⟨z, hz, -⟩ := srcE y b hy; exact .inl ⟨z, hz⟩
   ·exact .inr hy
  ·exact .inl ⟨_, h4⟩
theorem OS.call {c : Cx} {ops : Array Oper} {o : Oper} {S : St} (hd : ∀ k, o.dst = some k → k < S.n) (hw : wnt ops o S = some true) (f : Operand) (args : Array Operand) (argTypes : Array TypeId) (ho : o.op = .call { callee := .value f, args, argTypes }) (ts : List Nat)
  (g : Nat) (caps : List AV) (hf : evT c 0 S f = .fn g caps) (of : okO c 0 f) (fn : Func) (body : Code) (hg : FnOk c.P g fn body) (Ts : List Nat) (hTs : Ts.length = args.toList.length) (hok : ∀ x ∈ Ts.zip args.toList, okO c x.1 x.2) (hn : (gvn ts args.toList).Nodup)
  (r : AV) (h' : HP) (hc : CS c.P g ((Ts.zip args.toList).map (fun x => argA c ts S x.1 x.2) ++ caps) S.hp r h') : OS c ops o S ⟨S.n, putF (clrs S.tm (gvn ts args.toList)) o.dst r, h'⟩ :=
 OS.callP hd hw f args argTypes ho ts g caps hf of fn body hg Ts hTs hok hn r h' (fun _ => True) (fun _ _ => trivial) fun w F Θ own vs _ hR => hc w F Θ own vs hR
mutual
def AV.npt (D : Nat → Prop) : AV → Prop
 | .un => True
 | .d _ => True
 | .pt lv k _ => lv = 0 → ¬ D k
 | .el _ => True
 | .rw lv k _ => lv = 0 → ¬ D k
 | .tp l => AV.npts D l
 | .fn _ c => AV.npts D c
 | .fr l => AV.npts D l
 | .ep a => a.npt D
 | .ms _ _ => True
 | .mb _ _ _ => True
 | .mp _ _ _ _ => True
def AV.npts (D : Nat → Prop) : List AV → Prop
 | [] => True
 | a :: l => a.npt D ∧ AV.npts D l
end
mutual
theorem AV.npt_up (D : Nat → Prop) : ∀ a : AV, a.up.npt D
 | .un => trivial
 | .d _ => trivial
 | .pt _ _ _ => by simp only [AV.up, AV.npt]; intro h; omega
 | .el _ => trivial
 | .rw _ _ _ => by simp only [AV.up, AV.npt]; intro h; omega
 | .tp l => by simp only [AV.up, AV.npt]; exact AV.npts_up D l
 | .fn _ c => by simp only [AV.up, AV.npt]; exact AV.npts_up D c
 | .fr l => by simp only [AV.up, AV.npt]; exact AV.npts_up D l
 | .ep a => by simp only [AV.up, AV.npt]; exact AV.npt_up D a
 | .ms _ _ => trivial
 | .mb _ _ _ => trivial
 | .mp _ _ _ _ => trivial
theorem AV.npts_up (D : Nat → Prop) : ∀ l : List AV, AV.npts D (AV.ups l)
 | [] => trivial
 | a :: l => by simp only [AV.ups, AV.npts]; exact ⟨AV.npt_up D a, AV.npts_up D l⟩
end
mutual
theorem rv.drop {w : World} {F : Nat → Nat} {Θ Θ' : Ty} {D : Nat → Prop} (hT : ∀ lv q, ¬ (lv = 0 ∧ D q) → Θ' lv q = Θ lv q) : ∀ (a : AV) (v : Value) (bs : List Nat), a.npt D → rv w F Θ a v bs → rv w F Θ' a v bs
 | .un, v, bs, _, h => by simpa only [rv] using h
 | .d x, v, bs, _, h => by simpa only [rv] using h
 | .pt lv k p, v, bs, n, h => by
  simp only [AV.npt] at n
  simpa only [rv, hT lv k (fun ⟨h1, h2⟩ => n h1 h2)] using h
 | .el x, v, bs, _, h => by simpa only [rv] using h
 | .rw lv k m, v, bs, n, h => by
  simp only [AV.npt] at n
  simpa only [rv, hT lv k (fun ⟨h1, h2⟩ => n h1 h2)] using h
 | .tp l, v, bs, n, h => by
  simp only [AV.npt] at n
  simp only [rv] at h ⊢
  obtain ⟨vs, h1, h2⟩ := h
  exact ⟨vs, h1, rvS.drop hT l vs bs n h2⟩
 | .fn f c, v, bs, n, h => by
  simp only [AV.npt] at n
  simp only [rv] at h ⊢
  obtain ⟨vs, h1, h2⟩ := h
  exact ⟨vs, h1, rvS.drop hT c vs bs n h2⟩
 | .fr l, v, bs, n, h => by
  simp only [AV.npt] at n
  simp only [rv] at h ⊢
  obtain ⟨h0, b, vs, h1, h2, h3, h4, h5⟩ := h
  exact ⟨h0, b, vs, h1, h2, h3, rvS.drop hT l vs [] n h4, h5⟩
 | .ep a, v, bs, n, h => by
  simp only [AV.npt] at n
  simp only [rv] at h ⊢
  obtain ⟨h0, b, off, u, h1, h2, h3, h4⟩ := h
  exact ⟨h0, b, off, u, h1, h2, rv.drop hT a u [] n h3, h4⟩
 | .ms s l, v, bs, _, h => by simpa only [rv] using h
 | .mb b s l, v, bs, _, h => by simpa only [rv] using h
 | .mp _ _ _ _, v, bs, _, h => by simpa only [rv] using h
theorem rvS.drop {w : World} {F : Nat → Nat} {Θ Θ' : Ty} {D : Nat → Prop} (hT : ∀ lv q, ¬ (lv = 0 ∧ D q) → Θ' lv q = Θ lv q) : ∀ (l : List AV) (vs : List Value) (bs : List Nat), AV.npts D l → rvS w F Θ l vs bs → rvS w F Θ' l vs bs
 | [], vs, bs, _, h => by simpa only [rvS] using h
 | a :: l, vs, bs, n, h => by
  simp only [AV.npts] at n
  simp only [rvS] at h ⊢
  obtain ⟨v, r, b1, b2, h1, h2, h3, h4⟩ := h
  exact ⟨v, r, b1, b2, h1, h2, rv.drop hT a v b1 n.1 h3, rvS.drop hT l r b2 n.2 h4⟩
end
theorem rc.drop {w : World} {F : Nat → Nat} {Θ Θ' : Ty} {D : Nat → Prop} (hT : ∀ lv q, ¬ (lv = 0 ∧ D q) → Θ' lv q = Θ lv q) (c : AV) (cs : List Value) (bs : List Nat) (n : c.npt D) (h : rc w F Θ c cs bs) : rc w F Θ' c cs bs := by
 cases c <;> simp only [rc] at h ⊢
 case d x => exact h
 all_goals
  obtain ⟨v, h1, h2, h3⟩ := h
  exact ⟨v, h1, h2, rv.drop hT _ _ _ n h3⟩
structure Wk (S S' : St) : Prop where
 n : S'.n = S.n
 tm : ∀ t, S'.tm t = S.tm t ∨ S'.tm t = .un
 hp : ∀ lv k, hpg S'.hp lv k = hpg S.hp lv k ∨ (lv = 0 ∧ hpg S'.hp lv k = none)
 nt : ∀ t, (S'.tm t).npt (fun k => hpg S'.hp 0 k = none)
 nh : ∀ lv q cn, hpg S'.hp lv q = some cn → cn.npt (fun k => hpg S'.hp 0 k = none)
theorem Rel.weak {w : World} {F : Nat → Nat} {Θ : Ty} {own : Who → List Nat} {S S' : St} {a : Act} (h : Rel w F Θ own S a) (k : Wk S S') : ∃ Θ' own', Rel w F Θ' own' S' a ∧ Stp w F Θ own w F Θ' own' := by
 classical
 let Θ' : Ty := fun lv q => if lv = 0 ∧ hpg S'.hp 0 q = none then none else Θ lv q
 have hT : ∀ lv q, ¬ (lv = 0 ∧ hpg S'.hp 0 q = none) → Θ' lv q = Θ lv q := fun lv q hn => if_neg hn
 let own' : Who → List Nat := fun x => match x with
  | .t t => if S'.tm t = S.tm t then own (.t t) else []
  | .h lv q => if lv = 0 ∧ hpg S'.hp 0 q = none then [] else own (.h lv q)
  | .l lv q => if lv = 0 ∧ hpg S'.hp 0 q = none then [] else own (.l lv q)
 have sub : ∀ x b, b ∈ own' x → b ∈ own x := by
  intro x b hb
  cases x with
  | t t => simp only [own'] at hb; split at hb; exact hb; simp at hb
  | h lv q => simp only [own'] at hb; split at hb; simp at hb; exact hb
  | l lv q => simp only [own'] at hb; split at hb; simp at hb; exact hb
 refine ⟨Θ', own', ⟨h.n.trans k.n.symm, h.df, fun t => ?_, fun lv q hq => ?_, fun lv q cn hq => ?_, fun x => ?_, fun x y hxy b hx hy => h.dj x y hxy b (sub x b hx) (sub y b hy), fun x b hb => h.lt x b (sub x b hb), h.top, h.gl⟩, ⟨Ks.refl _ _ _, fun x b hb => .inl ⟨x, sub x b hb⟩, fun lv q => ?_⟩⟩
 ·have hn := k.nt t
  by_cases e : S'.tm t = S.tm t
  ·have : own' (.t t) = own (.t t) := if_pos e
   rw [this]
   rw [e] at hn ⊢
   exact rv.drop hT _ _ _ hn (h.tm t)
  ·have : own' (.t t) = [] := if_neg e
   rw [this, (k.tm t).resolve_left e]
   simp only [rv]
 ·by_cases e : lv = 0 ∧ hpg S'.hp 0 q = none
  ·exact ⟨if_pos e, if_pos e, if_pos e⟩
  ·have : hpg S.hp lv q = none := by
    rcases k.hp lv q with e1 | ⟨rfl, e1⟩
    ·rw [← e1]; exact hq
    ·exact absurd ⟨rfl, e1⟩ e
   obtain ⟨h1, h2, h3⟩ := h.hn lv q this
   exact ⟨(if_neg e).trans h1, (if_neg e).trans h2, (if_neg e).trans h3⟩
 ·have e : ¬ (lv = 0 ∧ hpg S'.hp 0 q = none) := by
   rintro ⟨rfl, e⟩
   rw [hq] at e; cases e
  have : hpg S.hp lv q = some cn := by
   rcases k.hp lv q with e1 | ⟨rfl, e1⟩
   ·rw [← e1]; exact hq
   ·exact absurd ⟨rfl, e1⟩ e
  obtain ⟨b, s, cur, t, h1, h2, h3, h4, h5, h6⟩ := h.hs lv q cn this
  exact ⟨b, s, cur, t, (if_neg e).trans h1, (if_neg e).trans h2, h3, h4, h5, by
   have : own' (.h lv q) = own (.h lv q) := if_neg e
   rw [this]
   exact rc.drop hT _ _ _ (k.nh lv q cn hq) h6⟩
 ·cases x with
  | t t => show (if _ then _ else _ : List Nat).Nodup; split; exact h.nd _; exact List.nodup_nil
  | h lv q => show (if _ then _ else _ : List Nat).Nodup; split; exact List.nodup_nil; exact h.nd _
  | l lv q => show (if _ then _ else _ : List Nat).Nodup; split; exact List.nodup_nil; exact h.nd _
 ·exact if_neg (by simp)
theorem W.weak {c : Cx} {code : Code} {S S' : St} {Q : Exit → St → Prop} (k : Wk S S') (h : W c code S' Q) : W c code S Q := fun w F Θ own a hR => by
 obtain ⟨Θ1, own1, h1, h2⟩ := hR.weak k
 exact wp_mono (h w F Θ1 own1 a h1) fun _ _ _ ⟨S2, F2, Θ2, own2, k1, k2, k3⟩ => ⟨S2, F2, Θ2, own2, k1, k2, h2.trans k3⟩
/-- a row that the call has made is closed: it is a slice now -/
theorem Rel.freeze {w : World} {F : Nat → Nat} {Θ : Ty} {own : Who → List Nat} {S : St} {a : Act} (h : Rel w F Θ own S a) (t k n : Nat) (ht : S.tm t = .rw 0 k n) (es : List DD) (hk : hpg S.hp 0 k = some (.d (.st es))) (s : Sh) (hsp : 0 < s.w) (hes : DD.shs es = List.replicate n s)
  (S' : St) (hn : S'.n = S.n) (htm : ∀ u, u ≠ t → S'.tm u = S.tm u ∨ S'.tm u = .un) (ht' : S'.tm t = .d (.sl true s es)) (hhp : ∀ lv q, ¬ (lv = 0 ∧ q = k) → hpg S'.hp lv q = hpg S.hp lv q) (hk' : hpg S'.hp 0 k = none)
  (hnt : ∀ u, u ≠ t → (S'.tm u).npt (fun q => q = k)) (hnh : ∀ lv q cn, hpg S'.hp lv q = some cn → cn.npt (fun q => q = k)) : ∃ F' Θ' own', Rel w F' Θ' own' S' a ∧ Stp w F Θ own w F' Θ' own' := by
 classical
 obtain ⟨b, s0, cur, ty, z1, z2, z3, z4, z5, z6⟩ := h.hs 0 k _ hk
 have hvt := h.tm t
 rw [ht] at hvt
 simp only [rv] at hvt
 obtain ⟨ho, b', s1, y1, y2, y3, y4⟩ := hvt
 rw [z1] at y1
 simp only [Option.some.injEq, Prod.mk.injEq] at y1
 obtain ⟨rfl, rfl⟩ := y1
 simp only [AV.csh, DD.sh, Option.some.injEq, Sh.st.injEq] at z4
 rw [hes] at z4
 have hlen : es.length = n := by have := congrArg List.length hes; rwa [DD.shs_eq, List.length_map, List.length_replicate] at this
 have hall : ∀ d ∈ es, d.sh = s := fun d hd => by
  have : d.sh ∈ DD.shs es := by rw [DD.shs_eq]; exact List.mem_map_of_mem hd
  rw [hes] at this
  exact (List.mem_replicate.1 this).2
 simp only [rc, rp] at z6
 have hcl := rpS.length es _ _ z6
 rw [DD.shs_eq, Sh.ws_map es hall] at hcl
 have hs1 : n = 0 ∨ s1 = s := by
  cases n with
  | zero => exact .inl rfl
  | succ n => right; rw [List.replicate_succ, List.replicate_succ] at z4; exact (List.cons.inj z4).1.symm
 let F' := upd F b (es.length * s.w)
 have hks : Ks w F w F' (fun x => x = b) := by
  have e : w.setRow b cur = w := setRow_self w b cur ty (0, 0) z5
  have := ks_row (F := F) (n := es.length * s.w) (arr := cur) z5 (by omega) (fun _ _ => rfl)
  rwa [e] at this
 let Θ' : Ty := fun lv q => if lv = 0 ∧ q = k then none else Θ lv q
 have hT : ∀ lv q, ¬ (lv = 0 ∧ q = k) → Θ' lv q = Θ lv q := fun lv q hn => if_neg hn
 have hTT : ∀ lv q (x : Nat × Sh), Θ lv q = some x → Θ lv q = some x := fun _ _ _ q => q
 let own' : Who → List Nat := fun x => match x with
  | .t u => if u = t then (if s.w = 0 ∨ n = 0 then [] else b :: own (.h 0 k)) else if S'.tm u = S.tm u then own (.t u) else []
  | .h lv q => if lv = 0 ∧ q = k then [] else own (.h lv q)
  | .l lv q => if lv = 0 ∧ q = k then [] else own (.l lv q)
 have kp : ∀ x, x ≠ .l 0 k → Kp w F w F' (own x) := fun x hx => hks.kp (h.lt x) (fun q hq e => h.dj (.l 0 k) x (Ne.symm hx) q (by rw [z2, e]; simp) hq)
 have kp0 : Kp w F w F' [] := hks.kp (by simp) (by simp)
 have src : ∀ x y, y ∈ own' x → (x = .t t ∧ (y = b ∨ y ∈ own (.h 0 k))) ∨ (x ≠ .t t ∧ x ≠ .h 0 k ∧ x ≠ .l 0 k ∧ y ∈ own x) := by
  intro x y hy
  cases x with
  | t u =>
   simp only [own'] at hy
   split at hy
   ·rename_i e; subst e
    split at hy
    ·simp at hy
    ·exact .inl ⟨rfl, by simpa using hy⟩
   ·rename_i e
    split at hy
    ·exact .inr ⟨by simpa using e, by simp, by simp, hy⟩
    ·simp at hy
  | h lv q =>
   simp only [own'] at hy
   split at hy
   ·simp at hy
   ·rename_i e; exact .inr ⟨by simp, by simpa using e, by simp, hy⟩
  | l lv q =>
   simp only [own'] at hy
   split at hy
   ·simp at hy
   ·rename_i e; exact .inr ⟨by simp, by simp, by simpa using e, hy⟩
 have bh : b ∉ own (.h 0 k) := fun hb => h.dj (.l 0 k) (.h 0 k) (by simp) b (by rw [z2]; simp) hb
 refine ⟨F', Θ', own', ⟨h.n.trans hn.symm, h.df, fun u => ?_, fun lv q hq => ?_, fun lv q cn hq => ?_, fun x => ?_, fun x y hxy z hx hy => ?_, fun x z hz => ?_, fun z hz => ?_, h.gl.ks hks⟩, ⟨⟨rfl, rfl, rfl, Nat.le_refl _, hks.cell, hks.mono, fun z hz hne => hks.out z hz (fun e => hne ⟨.l 0 k, by rw [z2, e]; simp⟩)⟩, fun x z hz => ?_, fun lv q => if_neg (by simp)⟩⟩
 ·by_cases hu : u = t
  ·subst hu
   rw [ht']
   simp only [rv]
   refine ⟨[.slice (some ⟨b, 0, none⟩) es.length es.length], ?_, by rw [y2, hlen]; rfl⟩
   have hou : own' (.t u) = if s.w = 0 ∨ n = 0 then [] else b :: own (.h 0 k) := if_pos rfl
   rw [hou]
   have hsw : 0 < s.w ∨ n = 0 := by
    rcases hs1 with e | e
    ·exact .inr e
    ·subst e; exact .inl y3
   simp only [rp]
   refine ⟨hall, hsp, _, _, rfl, Nat.le_refl _, by omega, by simp, ?_⟩
   ·by_cases hn0 : s.w = 0 ∨ n = 0
    ·rw [if_pos hn0]
     left
     have : n = 0 := by rcases hn0 with e | e; rcases hsw with e2 | e2; omega; exact e2; exact e
     have hnil : es = [] := List.length_eq_zero_iff.1 (by omega)
     exact ⟨rfl, hnil, fun _ => by omega⟩
    ·rw [if_neg hn0]
     right
     have hk0 : Kp w F w F' (own (.h 0 k)) := kp _ (by simp)
     refine ⟨b, 0, own (.h 0 k), rfl, rpS.toE es cur.toList 0 _ (rpS.keep es _ _ z6 hk0) (fun j u hu => ?_), by show _ ≤ upd F b _ b; rw [upd_self]; omega, .inr ⟨trivial, rfl, rfl, upd_self _ _ _, cur, ty, z5, by simp at hcl; omega⟩⟩
     rw [cell_of_row w b _ cur ty (0, 0) z5, Nat.zero_add]
     simpa using hu
  ·have hnp := hnt u hu
   rcases htm u hu with e | e
   ·have : own' (.t u) = own (.t u) := by show (if _ then _ else if _ then _ else _) = _; rw [if_neg hu, if_pos e]
    rw [this]
    rw [e] at hnp ⊢
    exact rv.drop hT _ _ _ hnp (rv.keep hTT _ _ _ (h.tm u) (kp _ (by simp)))
   ·rw [e]
    by_cases e2 : S'.tm u = S.tm u
    ·have : own' (.t u) = own (.t u) := by show (if _ then _ else if _ then _ else _) = _; rw [if_neg hu, if_pos e2]
     rw [this]
     have h3 := h.tm u
     rw [← e2, e] at h3
     simpa only [rv] using h3
    ·have : own' (.t u) = [] := by show (if _ then _ else if _ then _ else _) = _; rw [if_neg hu, if_neg e2]
     rw [this]
     simp only [rv]
 ·by_cases e : lv = 0 ∧ q = k
  ·exact ⟨if_pos e, if_pos e, if_pos e⟩
  ·rw [hhp lv q e] at hq
   obtain ⟨h1, h2, h3⟩ := h.hn lv q hq
   exact ⟨(if_neg e).trans h1, (if_neg e).trans h2, (if_neg e).trans h3⟩
 ·have e : ¬ (lv = 0 ∧ q = k) := by
   rintro ⟨rfl, rfl⟩
   rw [hk'] at hq; cases hq
  have hnp := hnh lv q cn hq
  rw [hhp lv q e] at hq
  obtain ⟨b2, s2, cur2, t2, h1, h2, h3, h4, h5, h6⟩ := h.hs lv q cn hq
  have hne : b2 ≠ b := fun e2 => h.dj (.l lv q) (.l 0 k) (by simpa using e) b2 (by rw [h2]; simp) (by rw [z2, e2]; simp)
  refine ⟨b2, s2, cur2, t2, (if_neg e).trans h1, (if_neg e).trans h2, (upd_ne _ _ hne).trans h3, h4, h5, ?_⟩
  have : own' (.h lv q) = own (.h lv q) := if_neg e
  rw [this]
  exact rc.drop hT _ _ _ hnp (rc.keep hTT _ _ _ h6 (kp _ (by simp)))
 ·cases x with
  | t u =>
   show (if _ then (if _ then _ else _) else if _ then _ else _ : List Nat).Nodup
   split
   ·split
    ·exact List.nodup_nil
    ·exact List.nodup_cons.2 ⟨bh, h.nd _⟩
   ·split
    ·exact h.nd _
    ·exact List.nodup_nil
  | h lv q => show (if _ then _ else _ : List Nat).Nodup; split; exact List.nodup_nil; exact h.nd _
  | l lv q => show (if _ then _ else _ : List Nat).Nodup; split; exact List.nodup_nil; exact h.nd _
 ·rcases src x z hx with ⟨rfl, g⟩ | ⟨g1, g2, g3, g4⟩ <;> rcases src y z hy with ⟨rfl, k1⟩ | ⟨k1, k2, k3, k4⟩
  ·exact hxy rfl
  ·rcases g with rfl | g
   ·exact h.dj (.l 0 k) y (Ne.symm k3) z (by rw [z2]; simp) k4
   ·exact h.dj (.h 0 k) y (Ne.symm k2) z g k4
  ·rcases k1 with rfl | k1
   ·exact h.dj (.l 0 k) x (Ne.symm g3) z (by rw [z2]; simp) g4
   ·exact h.dj (.h 0 k) x (Ne.symm g2) z k1 g4
  ·exact h.dj x y hxy z g4 k4
 ·rcases src x z hz with ⟨rfl, rfl | g⟩ | ⟨g1, g2, g3, g4⟩
  ·exact h.lt (.l 0 k) z (by rw [z2]; simp)
  ·exact h.lt _ z g
  ·exact h.lt _ z g4
 ·have hb : b < w.heap.size := h.lt (.l 0 k) b (by rw [z2]; simp)
  exact (upd_ne _ _ (by omega)).trans (h.top z hz)
 ·left
  rcases src x z hz with ⟨rfl, rfl | g⟩ | ⟨g1, g2, g3, g4⟩
  ·exact ⟨.l 0 k, by rw [z2]; simp⟩
  ·exact ⟨_, g⟩
  ·exact ⟨_, g4⟩
end Go.Proofs.YtdooklofebdknaaGreat
