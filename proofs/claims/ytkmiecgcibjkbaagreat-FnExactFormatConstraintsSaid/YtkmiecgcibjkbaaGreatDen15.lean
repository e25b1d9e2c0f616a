/- Den15: regions that draw their order: operations that do not look at one another may be run in any order. No condition. -/
import Derived.Test.YtkmiecgcibjkbaaGreatDen14
namespace Go.Proofs.YtkmiecgcibjkbaaGreat
open Go.RowKit
inductive Ef where
  | val
  | ld (lv k : Nat)
  | al (k : Nat) (cn : AV)
  | st (lv k : Nat) (cn : AV)
  | hp (h : HP)
structure FS where
  o : Oper
  ts : List Nat
  r : AV
  ef : Ef
def Ef.ap : Ef → HP → HP
  | .val, h => h
  | .ld _ _, h => h
  | .al k cn, h => hps h 0 k (some cn)
  | .st lv k cn, h => hps h lv k (some cn)
  | .hp h', _ => h'
def FS.ap (f : FS) (S : St) : St := ⟨S.n, putF (clrs S.tm f.ts) f.o.dst f.r, f.ef.ap S.hp⟩
def Ef.agr : Ef → HP → HP → Prop
  | .val, _, _ => True
  | .ld lv k, h, h' => hpg h' lv k = hpg h lv k
  | .al k _, h, h' => hpg h' 0 k = hpg h 0 k ∧ h'.length = h.length
  | .st lv k _, h, h' => hpg h' lv k = hpg h lv k
  | .hp _, h, h' => h' = h
/-- the state S' looks like S to the operation -/
structure FS.agr (ops : Array Oper) (f : FS) (S S' : St) : Prop where
  n : S'.n = S.n
  rd : ∀ t ∈ f.o.looksAt ops, (S'.tm t).vw = (S.tm t).vw
  ts : ∀ t ∈ f.ts, S'.tm t = S.tm t
  hp : f.ef.agr S.hp S'.hp
def FS.valid (c : Cx) (ops : Array Oper) (f : FS) (S : St) : Prop := ∀ S', f.agr ops S S' → OS c ops f.o S' (f.ap S')
theorem FS.agr.refl {ops : Array Oper} {f : FS} {S : St} : f.agr ops S S := ⟨rfl, fun _ _ => rfl, fun _ _ => rfl, by cases f.ef <;> simp [Ef.agr]⟩
theorem FS.agr.trans {ops : Array Oper} {f : FS} {S1 S2 S3 : St} (h : f.agr ops S1 S2) (k : f.agr ops S2 S3) : f.agr ops S1 S3 := by
  refine ⟨k.n.trans h.n, fun t ht => (k.rd t ht).trans (h.rd t ht), fun t ht => (k.ts t ht).trans (h.ts t ht), ?_⟩
  have h1 := h.hp; have h2 := k.hp
  cases he : f.ef <;> rw [he] at h1 h2 <;> simp only [Ef.agr] at h1 h2 ⊢
  · exact h2.trans h1
  · exact ⟨h2.1.trans h1.1, h2.2.trans h1.2⟩
  · exact h2.trans h1
  · exact h2.trans h1
theorem FS.valid.agr {c : Cx} {ops : Array Oper} {f : FS} {S S' : St} (h : f.valid c ops S) (k : f.agr ops S S') : f.valid c ops S' := fun S2 q => h S2 (k.trans q)
/-- kinds that may change their places: x ahead of y in the text, y done first -/
def kindB : Ef → Ef → Bool
  | .val, .val => true
  | .val, .ld _ _ => true
  | .ld _ _, .val => true
  | .ld _ _, .ld _ _ => true
  | .val, .al _ _ => true
  | .al _ _, .val => true
  | .ld _ _, .al _ _ => true
  | .val, .hp _ => true
  | .hp _, .val => true
  | .val, .st _ _ _ => true
  | .st _ _ _, .val => true
  | .ld a b, .st p q _ => !(a == p && b == q)
  | .st a b _, .ld p q => !(a == p && b == q)
  | _, _ => false
def indB (ops : Array Oper) (x y : FS) : Bool :=
  (match x.o.dst with
   | some d => !(y.o.looksAt ops).contains d && !y.ts.contains d && y.o.dst != some d
   | none => true) &&
  (match y.o.dst with
   | some d => !(x.o.looksAt ops).contains d && !x.ts.contains d
   | none => true) &&
  (x.ts.all fun t => !y.ts.contains t) && kindB x.ef y.ef
structure Ind (ops : Array Oper) (x y : FS) : Prop where
  xy : ∀ d, x.o.dst = some d → d ∉ y.o.looksAt ops ∧ d ∉ y.ts ∧ y.o.dst ≠ some d
  yx : ∀ d, y.o.dst = some d → d ∉ x.o.looksAt ops ∧ d ∉ x.ts
  ts : ∀ t ∈ x.ts, t ∉ y.ts
  kd : kindB x.ef y.ef = true
theorem ind_spec {ops : Array Oper} {x y : FS} (h : indB ops x y = true) : Ind ops x y := by
  simp only [indB, Bool.and_eq_true] at h
  obtain ⟨⟨⟨h1, h2⟩, h3⟩, h4⟩ := h
  refine ⟨fun d hd => ?_, fun d hd => ?_, fun t ht => ?_, h4⟩
  · rw [hd] at h1
    simp only [Bool.and_eq_true, Bool.not_eq_true', List.contains_eq_mem, decide_eq_false_iff_not, bne_iff_ne] at h1
    exact ⟨h1.1.1, h1.1.2, h1.2⟩
  · rw [hd] at h2
    simp only [Bool.and_eq_true, Bool.not_eq_true', List.contains_eq_mem, decide_eq_false_iff_not] at h2
    exact h2
  · simp only [List.all_eq_true, Bool.not_eq_true', List.contains_eq_mem, decide_eq_false_iff_not] at h3
    exact h3 t ht
theorem ap_tm (f : FS) (S : St) (t : Nat) (h : f.o.dst ≠ some t) : (f.ap S).tm t = if t ∈ f.ts then (S.tm t).vw else S.tm t := by
  show putF (clrs S.tm f.ts) f.o.dst f.r t = _
  have : putF (clrs S.tm f.ts) f.o.dst f.r t = clrs S.tm f.ts t := by
    cases hd : f.o.dst with
    | none => rfl
    | some d => exact upd_ne _ _ (fun e => h (by rw [hd, e]))
  rw [this, clrs_get]
theorem hps_len : ∀ (h : HP) (lv k : Nat) (v : Option AV), (hps h lv k v).length = h.length
  | [], _, _, _ => rfl
  | _ :: _, 0, _, _ => rfl
  | _ :: h, lv + 1, k, v => by simp only [hps, List.length_cons, hps_len h lv k v]
/-- what x does, y does not see: y looks the same ahead of x -/
theorem agr_y {ops : Array Oper} {x y : FS} (I : Ind ops x y) (S : St) : y.agr ops (x.ap S) S := by
  have hd : ∀ t, t ∈ y.o.looksAt ops ∨ t ∈ y.ts → x.o.dst ≠ some t := fun t ht e => by
    have := I.xy t e
    rcases ht with h | h
    · exact this.1 h
    · exact this.2.1 h
  refine ⟨rfl, fun t ht => ?_, fun t ht => ?_, ?_⟩
  · rw [ap_tm x S t (hd t (.inl ht))]
    split
    · rw [AV.vw_vw]
    · rfl
  · rw [ap_tm x S t (hd t (.inr ht)), if_neg (fun h => I.ts t h ht)]
  · have hk := I.kd
    show y.ef.agr (x.ef.ap S.hp) S.hp
    cases hx : x.ef <;> cases hy : y.ef <;> rw [hx, hy] at hk <;> simp only [kindB, Bool.false_eq_true] at hk <;> simp [Ef.agr, Ef.ap]
    rw [hpg_hps, if_neg]
    rintro ⟨rfl, rfl, -⟩
    simp at hk
/-- and x sees nothing of y, where y is done first (a new variable is another one than those that x reads) -/
theorem agr_x {ops : Array Oper} {x y : FS} (I : Ind ops x y) (S : St) (hy : ∀ k cn, y.ef = .al k cn → ∀ lv q, x.ef = .ld lv q → ¬ (lv = 0 ∧ q = k)) : x.agr ops S (y.ap S) := by
  have hd : ∀ t, t ∈ x.o.looksAt ops ∨ t ∈ x.ts → y.o.dst ≠ some t := fun t ht e => by
    have := I.yx t e
    rcases ht with h | h
    · exact this.1 h
    · exact this.2 h
  refine ⟨rfl, fun t ht => ?_, fun t ht => ?_, ?_⟩
  · rw [ap_tm y S t (hd t (.inl ht))]
    split
    · rw [AV.vw_vw]
    · rfl
  · rw [ap_tm y S t (hd t (.inr ht)), if_neg (fun h => I.ts t ht h)]
  · have hk := I.kd
    show x.ef.agr S.hp (y.ef.ap S.hp)
    cases hx : x.ef <;> cases hy2 : y.ef <;> rw [hx, hy2] at hk <;> simp only [kindB, Bool.false_eq_true] at hk <;> simp [Ef.agr, Ef.ap]
    · rename_i lv q k cn
      rw [hpg_hps, if_neg]
      rintro ⟨rfl, rfl, -⟩
      exact hy _ _ hy2 _ _ hx ⟨rfl, rfl⟩
    · rw [hpg_hps, if_neg]
      rintro ⟨rfl, rfl, -⟩
      simp at hk
theorem ap_comm {ops : Array Oper} {x y : FS} (I : Ind ops x y) (S : St) : x.ap (y.ap S) = y.ap (x.ap S) := by
  have htm : (x.ap (y.ap S)).tm = (y.ap (x.ap S)).tm := by
    funext t
    by_cases hx : x.o.dst = some t
    · have hy : y.o.dst ≠ some t := (I.xy t hx).2.2
      have h1 : (x.ap (y.ap S)).tm t = x.r := by
        show putF _ x.o.dst x.r t = _
        rw [hx]; exact upd_self _ _ _
      rw [h1, ap_tm y _ t hy, if_neg (I.xy t hx).2.1]
      show x.r = putF _ x.o.dst x.r t
      rw [hx]; exact (upd_self _ _ _).symm
    · by_cases hy : y.o.dst = some t
      · have h1 : (y.ap (x.ap S)).tm t = y.r := by
          show putF _ y.o.dst y.r t = _
          rw [hy]; exact upd_self _ _ _
        rw [h1, ap_tm x _ t hx, if_neg (I.yx t hy).2]
        show putF _ y.o.dst y.r t = _
        rw [hy]; exact upd_self _ _ _
      · rw [ap_tm x _ t hx, ap_tm y _ t hy, ap_tm y _ t hy, ap_tm x _ t hx]
        by_cases h1 : t ∈ x.ts
        · by_cases h2 : t ∈ y.ts
          · exact absurd h2 (I.ts t h1)
          · simp only [if_pos h1, if_neg h2]
        · simp only [if_neg h1]
  have hhp : (x.ap (y.ap S)).hp = (y.ap (x.ap S)).hp := by
    have hk := I.kd
    show x.ef.ap (y.ef.ap S.hp) = y.ef.ap (x.ef.ap S.hp)
    cases hx : x.ef <;> cases hy : y.ef <;> rw [hx, hy] at hk <;> simp only [kindB, Bool.false_eq_true] at hk <;> rfl
  show (⟨_, _, _⟩ : St) = ⟨_, _, _⟩
  congr 1
/-- a row of operations, each sound where it stands -/
def Pth (c : Cx) (ops : Array Oper) : List FS → St → St → Prop
  | [], S, S' => S = S'
  | f :: l, S, S' => (f.valid c ops S ∧ (∀ lv q, f.ef = .ld lv q → hpg S.hp lv q ≠ none) ∧ (∀ k cn, f.ef = .al k cn → hpg S.hp 0 k = none)) ∧ Pth c ops l (f.ap S) S'
theorem Pth.front {c : Cx} {ops : Array Oper} {y : FS} {l : List FS} : ∀ (xs : List FS) (S S' : St), Pth c ops (xs ++ y :: l) S S' → (∀ x ∈ xs, Ind ops x y) →
    (y.valid c ops S ∧ (∀ lv q, y.ef = .ld lv q → hpg S.hp lv q ≠ none) ∧ (∀ k cn, y.ef = .al k cn → hpg S.hp 0 k = none)) ∧ Pth c ops (xs ++ l) (y.ap S) S'
  | [], S, S', h, _ => h
  | x :: xs, S, S', h, hI => by
    obtain ⟨⟨h1, h2, h3⟩, h4⟩ := h
    obtain ⟨⟨k1, k2, k3⟩, k4⟩ := Pth.front xs (x.ap S) S' h4 (fun z hz => hI z (by simp [hz]))
    have I := hI x (by simp)
    have e1 := agr_y I S
    have hkd := I.kd
    have q2 : ∀ lv q, y.ef = .ld lv q → hpg S.hp lv q ≠ none := fun lv q hy => by
      have h0 := k2 lv q hy
      have h5 := e1.hp
      rw [hy] at h5
      simp only [Ef.agr] at h5
      rw [h5]; exact h0
    have q3 : ∀ k cn, y.ef = .al k cn → hpg S.hp 0 k = none := fun k cn hy => by
      have h0 := k3 k cn hy
      have h5 := e1.hp
      rw [hy] at h5
      simp only [Ef.agr] at h5
      rw [h5.1]; exact h0
    have hne : ∀ k cn, y.ef = .al k cn → ∀ lv q, x.ef = .ld lv q → ¬ (lv = 0 ∧ q = k) := fun k cn hy lv q hx ⟨e2, e3⟩ => by
      subst e2; subst e3
      exact h2 _ _ hx (q3 _ _ hy)
    have e2 := agr_x I S hne
    refine ⟨⟨k1.agr e1, q2, q3⟩, ⟨h1.agr e2, fun lv q hx => ?_, fun k cn hx => ?_⟩, ?_⟩
    · have h5 := e2.hp
      rw [hx] at h5
      simp only [Ef.agr] at h5
      rw [h5]; exact h2 lv q hx
    · have h5 := e2.hp
      rw [hx] at h5
      simp only [Ef.agr] at h5
      rw [h5.1]; exact h3 k cn hx
    · show Pth c ops (xs ++ l) (x.ap (y.ap S)) S'
      rw [ap_comm I]
      exact k4
/-- one operation waits for another one, by others or not -/
def depE (ops : Array Oper) : Nat → Nat → Nat → Bool
  | 0, _, _ => false
  | n + 1, a, i => match ops[a]? with
    | none => false
    | some o => o.after.toList.any fun e => Region.binds .any e && (e.on == i || depE ops n e.on i)
def drawB (ops : Array Oper) (fs : List FS) : Bool :=
  (fs.length == ops.size) && ((List.range ops.size).all fun i => match ops[i]? with
    | none => false
    | some o => o.after.toList.all fun e => !Region.binds .any e || decide (e.on < i)) &&
  ((List.range ops.size).all fun j => (List.range j).all fun i => depE ops ops.size j i || match fs[i]?, fs[j]? with
    | some x, some y => indB ops x y
    | _, _ => false)
end Go.Proofs.YtkmiecgcibjkbaaGreat
