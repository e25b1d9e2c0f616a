/- Den21: regions that draw their order, one operation after the other; branches. No condition. -/
import Derived.Test.YtkmiecgcibjkbaaGreatDen20
namespace Go.Proofs.YtkmiecgcibjkbaaGreat
open Go.RowKit
inductive Kd where
  | val
  | ld (a b : Nat)
  | al
  | st (a b : Nat)
  | hp
def Ef.kd : Ef → Kd
  | .val => .val
  | .ld a b => .ld a b
  | .al _ _ => .al
  | .st a b _ => .st a b
  | .hp _ => .hp
def kcB : Kd → Kd → Bool
  | .val, .val => true
  | .val, .ld _ _ => true
  | .ld _ _, .val => true
  | .ld _ _, .ld _ _ => true
  | .val, .al => true
  | .al, .val => true
  | .ld _ _, .al => true
  | .val, .hp => true
  | .hp, .val => true
  | .val, .st _ _ => true
  | .st _ _, .val => true
  | .ld a b, .st p q => !(a == p && b == q)
  | .st a b, .ld p q => !(a == p && b == q)
  | _, _ => false
structure Sk where
  ts : List Nat
  kd : Kd
def FS.sk (f : FS) : Sk := ⟨f.ts, f.ef.kd⟩
theorem kcB_eq (x y : Ef) : kcB x.kd y.kd = kindB x y := by cases x <;> cases y <;> rfl
def skB (ops : Array Oper) (o : Oper) (x : Sk) (p : Oper) (y : Sk) : Bool :=
  (match o.dst with
   | some d => !(p.looksAt ops).contains d && !y.ts.contains d && p.dst != some d
   | none => true) &&
  (match p.dst with
   | some d => !(o.looksAt ops).contains d && !x.ts.contains d
   | none => true) &&
  (x.ts.all fun t => !y.ts.contains t) && kcB x.kd y.kd
theorem skB_eq (ops : Array Oper) (x y : FS) : skB ops x.o x.sk y.o y.sk = indB ops x y := by
  unfold skB indB
  rw [← kcB_eq]; rfl
def drawK (ops : Array Oper) (l : List Sk) : Bool :=
  (l.length == ops.size) && ((List.range ops.size).all fun i => match ops[i]? with
    | none => false
    | some o => o.after.toList.all fun e => !Region.binds .any e || decide (e.on < i)) &&
  ((List.range ops.size).all fun j => (List.range j).all fun i => depE ops ops.size j i || match ops[i]?, ops[j]?, l[i]?, l[j]? with
    | some o, some p, some x, some y => skB ops o x p y
    | _, _, _, _ => false)
theorem drawK_eq {ops : Array Oper} {fs : List FS} (ho : fs.map FS.o = ops.toList) (h : drawK ops (fs.map FS.sk) = true) : drawB ops fs = true := by
  have key : ∀ i : Nat, ops[i]? = (fs[i]?).map FS.o := fun i => by
    rw [← List.getElem?_map, ho]; simp
  unfold drawK at h
  unfold drawB
  simp only [Bool.and_eq_true, List.length_map] at h ⊢
  refine ⟨h.1, ?_⟩
  have h2 := h.2
  simp only [List.all_eq_true, Bool.or_eq_true, List.mem_range] at h2 ⊢
  intro j hj i hi
  rcases h2 j hj i hi with q | q
  · exact .inl q
  · refine .inr ?_
    rw [key i, key j, List.getElem?_map, List.getElem?_map] at q
    cases hx : fs[i]? with
    | none => rw [hx] at q; simp at q
    | some x =>
      cases hy : fs[j]? with
      | none => rw [hx, hy] at q; simp at q
      | some y =>
        rw [hx, hy] at q
        simp only [Option.map_some] at q
        simp only
        rw [← skB_eq]; exact q
theorem pth_ok {c : Cx} {mv : List Nat} {o : Oper} {S : St} (h : okP c mv o S) : (∀ lv q, (fsOf c mv o S).ef = .ld lv q → hpg S.hp lv q ≠ none) ∧ (∀ k cn, (fsOf c mv o S).ef = .al k cn → hpg S.hp 0 k = none) := by
  obtain ⟨-, -, h⟩ := h
  unfold fsOf
  split
  all_goals try (rename_i ho; rw [ho] at h; simp only at h)
  case h_1 =>
    obtain ⟨⟨ti, h1⟩, h2, k, h3, h4⟩ := h
    rw [h3, h1]
    exact ⟨fun _ _ e => (by cases e), fun _ _ e => (by cases e; exact h4)⟩
  case h_2 =>
    obtain ⟨-, -, -, k, h3, h4⟩ := h
    rw [h3]
    exact ⟨fun _ _ e => (by cases e), fun _ _ e => (by cases e; exact h4)⟩
  case h_3 =>
    split
    · split
      · cases mvB mv o.dst with
        | true => exact ⟨fun _ _ e => (by cases e), fun _ _ e => (by cases e)⟩
        | false => exact ⟨fun _ _ e => (by cases e; rename_i hq; rw [hq]; simp), fun _ _ e => (by cases e)⟩
      · exact ⟨fun _ _ e => (by cases e), fun _ _ e => (by cases e)⟩
    · exact ⟨fun _ _ e => (by cases e), fun _ _ e => (by cases e)⟩
    · exact ⟨fun _ _ e => (by cases e), fun _ _ e => (by cases e)⟩
  case h_7 =>
    obtain ⟨-, -, -, ⟨k, h3, h4⟩, -⟩ := h
    rw [h3]
    split
    · split
      · rename_i h5 _ _ _ _ _; cases h5; exact ⟨fun _ _ e => (by cases e), fun _ _ e => (by cases e; exact h4)⟩
      · exact ⟨fun _ _ e => (by cases e), fun _ _ e => (by cases e)⟩
    · exact ⟨fun _ _ e => (by cases e), fun _ _ e => (by cases e)⟩
  case h_8 =>
    split
    · rename_i hx
      refine ⟨fun _ _ e => ?_, fun _ _ e => (by cases e)⟩
      cases e
      obtain ⟨-, h⟩ := h
      rw [hx] at h
      split at h
      · obtain ⟨-, h⟩ := h
        split at h
        · rename_i h5; cases h5
        · rename_i h5
          cases h5
          split at h
          · rename_i h6; rw [h6]; simp
          · exact h.elim
        · rename_i h5; exact (h5 _ _ _ rfl).elim
      · exact h.elim
    · exact ⟨fun _ _ e => (by cases e), fun _ _ e => (by cases e)⟩
  case h_9 =>
    split
    · rename_i hx
      refine ⟨fun _ _ e => ?_, fun _ _ e => (by cases e)⟩
      cases e
      obtain ⟨-, -, h⟩ := h
      rw [hx] at h
      split at h
      · split at h
        · rename_i h5 _; cases h5
        · rename_i h5 _
          cases h5
          obtain ⟨-, cn, h6, -⟩ := h
          rw [h6]; simp
        · exact h.elim
      · exact h.elim
    · exact ⟨fun _ _ e => (by cases e), fun _ _ e => (by cases e)⟩
  all_goals first
    | exact ⟨fun _ _ e => (by cases e), fun _ _ e => (by cases e)⟩
    | (split <;> first
        | exact ⟨fun _ _ e => (by cases e), fun _ _ e => (by cases e)⟩
        | (split <;> exact ⟨fun _ _ e => (by cases e), fun _ _ e => (by cases e)⟩))
/-- the operations that are left of a region that draws -/
def DL (c : Cx) (ops : Array Oper) (acc : List Sk) (l : List Oper) (S : St) (K : St → Prop) : Prop := ∃ fs Sf, Pth c ops fs S Sf ∧ fs.map FS.o = l ∧ drawK ops (acc ++ fs.map FS.sk) = true ∧ K Sf
theorem DL.nil {c : Cx} {ops : Array Oper} {acc : List Sk} {S : St} {K : St → Prop} (hc : drawK ops acc = true) (h : K S) : DL c ops acc [] S K := ⟨[], S, rfl, rfl, by simpa using hc, h⟩
theorem DL.cons {c : Cx} {ops : Array Oper} {acc : List Sk} {o : Oper} {l : List Oper} {S S1 : St} {K : St → Prop} (f : FS) (ho : f.o = o) (hv : f.valid c ops S) (h1 : ∀ lv q, f.ef = .ld lv q → hpg S.hp lv q ≠ none) (h2 : ∀ k cn, f.ef = .al k cn → hpg S.hp 0 k = none) (e : f.ap S = S1) (k : DL c ops (acc ++ [f.sk]) l S1 K) : DL c ops acc (o :: l) S K := by
  subst e
  obtain ⟨fs, Sf, k1, k2, k3, k4⟩ := k
  exact ⟨f :: fs, Sf, ⟨⟨hv, h1, h2⟩, k1⟩, by rw [List.map_cons, ho, k2], by simpa using k3, k4⟩
theorem DL.op {c : Cx} (mv : List Nat) {ops : Array Oper} {acc : List Sk} {o : Oper} {l : List Oper} {S S1 : St} {K : St → Prop} (hg : o.guard = none) (h : okP c mv o S) (e : nx c mv o S = S1) (k : DL c ops (acc ++ [(fsOf c mv o S).sk]) l S1 K) : DL c ops acc (o :: l) S K :=
  DL.cons (fsOf c mv o S) (fs_o c mv o S) (valid_op (by unfold wnt; rw [hg]) h) (pth_ok h).1 (pth_ok h).2 (by rw [← nx_fs h]; exact e) k
theorem DL.call {c : Cx} {ops : Array Oper} {acc : List Sk} {o : Oper} {l : List Oper} {S : St} {K : St → Prop} (ts : List Nat) (f : Operand) (args : Array Operand) (argTypes : Array TypeId) (ho : o.op = .call { callee := .value f, args, argTypes }) (hg : o.guard = none) (hd : ∀ k, o.dst = some k → k < S.n)
    {g : Nat} {caps : List AV} (hf : evT c 0 S f = .fn g caps) (of : okO c 0 f) {fn : Func} {body : Code} (hfn : FnOk c.P g fn body) (hTs : argTypes.toList.length = args.toList.length) (hok : ∀ x ∈ argTypes.toList.zip args.toList, okO c x.1 x.2) (hn : (gvn ts args.toList).Nodup)
    {as' : List AV} (ha : (argTypes.toList.zip args.toList).map (fun x => argA c ts S x.1 x.2) ++ caps = as') {r : AV} (hc : ∀ h, CS c.P g as' h r h) {S1 : St} (e : (⟨S.n, putF (clrs S.tm (gvn ts args.toList)) o.dst r, S.hp⟩ : St) = S1) (k : DL c ops (acc ++ [⟨gvn ts args.toList, .val⟩]) l S1 K) : DL c ops acc (o :: l) S K := by
  subst ha
  exact DL.cons ⟨o, gvn ts args.toList, r, .val⟩ rfl (valid_call hd (by unfold wnt; rw [hg]) f args argTypes ho ts g caps hf of fn body hfn argTypes.toList hTs hok hn r hc) (fun _ _ h => by cases h) (fun _ _ h => by cases h) e k
theorem W.regD {c : Cx} {id : Nat} {ops : Array Oper} {S : St} {Q : Exit → St → Prop} (hm : c.P.follows .mixedOrders = true) (h : ∀ ops', ops' = ops → DL c ops' [] ops.toList S (Q .normal)) : W c (.region id ops true) S Q := by
  obtain ⟨fs, Sf, h1, h2, h3, h4⟩ := h ops rfl
  exact W.draw fs h1 hm h2 (drawK_eq h2 (by simpa using h3)) h4
end Go.Proofs.YtkmiecgcibjkbaaGreat
