/- Den18: tables of types, and rules to run a text by. No condition. -/
import Derived.Test.YtkmiecgcibjkbaaGreatDen17
namespace Go.Proofs.YtkmiecgcibjkbaaGreat
open Go.RowKit
mutual
def DD.zc : DD → List Value
  | .lf v => [v]
  | .sl _ _ _ => [.slice none 0 0]
  | .st fs => DD.zcs fs
def DD.zcs : List DD → List Value
  | [] => []
  | d :: ds => d.zc ++ DD.zcs ds
end
mutual
def DD.zB : DD → Bool
  | .lf (.int k n) => decide (k.min ≤ n) && decide (n ≤ k.max)
  | .lf (.string s) => s.size == 0
  | .lf (.bool _) => true
  | .lf _ => false
  | .sl o s es => o && decide (0 < s.w) && es.isEmpty
  | .st fs => DD.zBs fs
def DD.zBs : List DD → Bool
  | [] => true
  | d :: ds => d.zB && DD.zBs ds
end
mutual
theorem zB_rp (w : World) (F : Nat → Nat) : ∀ d : DD, d.zB = true → rp w F d d.zc []
  | .lf v, h => by
    cases v <;> simp only [DD.zB, Bool.and_eq_true, decide_eq_true_eq, Bool.false_eq_true] at h <;> simp only [rp, DD.zc]
    · exact ⟨trivial, trivial, trivial⟩
    · exact ⟨trivial, h, trivial⟩
    · refine ⟨trivial, ?_, trivial⟩
      simp only [beq_iff_eq] at h
      simp only [okLeaf, h]; exact Nat.zero_le _
  | .sl o s es, h => by
    simp only [DD.zB, Bool.and_eq_true, decide_eq_true_eq, List.isEmpty_iff] at h
    obtain ⟨⟨rfl, h2⟩, rfl⟩ := h
    simp only [rp, DD.zc]
    exact ⟨by simp, h2, none, 0, rfl, Nat.le_refl _, Nat.zero_le _, fun _ => rfl, .inl ⟨trivial, trivial, fun _ => rfl⟩⟩
  | .st fs, h => by
    simp only [DD.zB] at h
    simp only [rp, DD.zc]
    exact zBs_rp w F fs h
theorem zBs_rp (w : World) (F : Nat → Nat) : ∀ l : List DD, DD.zBs l = true → rpS w F l (DD.zcs l) []
  | [], _ => by simp only [rpS, DD.zcs]; exact ⟨trivial, trivial⟩
  | d :: l, h => by
    simp only [DD.zBs, Bool.and_eq_true] at h
    simp only [rpS, DD.zcs]
    exact ⟨_, _, [], [], rfl, rfl, zB_rp w F d h.1, zBs_rp w F l h.2⟩
end
def aggB (P : Program) (t : Nat) : Option Bool := (P.underlying t).map fun
  | .struct _ => true
  | .array _ _ => true
  | _ => false
def isSt : Sh → Bool
  | .st _ => true
  | .one => false
def fldB (P : Program) : List Field → List (Nat × Sh) → Nat → Bool
  | [], [], _ => true
  | f :: fs, (t, s) :: fl, off => f.type == t && f.offset == off && decide (0 < s.w) && ((P.info? t).map (·.size) == some s.w) && (aggB P t == some (isSt s)) && fldB P fs fl (off + s.w)
  | _, _, _ => false
theorem fld_spec (P : Program) : ∀ (fs : List Field) (fl : List (Nat × Sh)) (off : Nat), fldB P fs fl off = true → fs.length = fl.length ∧ ∀ (i : Nat) (t : Nat) (s : Sh), fl[i]? = some (t, s) → ∃ f, fs[i]? = some f ∧ f.type = t ∧ f.offset = off + Sh.ws ((fl.map Prod.snd).take i) ∧ 0 < s.w ∧
        (∃ j, P.info? t = some j ∧ j.size = s.w) ∧ (isAgg t).run P = fun w => .ok (match s with | .st _ => true | .one => false) w
  | [], [], off, _ => ⟨rfl, fun i t s h => by simp at h⟩
  | [], _ :: _, _, h => by simp [fldB] at h
  | _ :: _, [], _, h => by simp [fldB] at h
  | f :: fs, (t0, s0) :: fl, off, h => by
    simp only [fldB, Bool.and_eq_true, beq_iff_eq, decide_eq_true_eq] at h
    obtain ⟨⟨⟨⟨⟨h1, h2⟩, h3⟩, h4⟩, h5⟩, h6⟩ := h
    obtain ⟨k1, k2⟩ := fld_spec P fs fl _ h6
    refine ⟨by simp [k1], fun i t s hi => ?_⟩
    cases i with
    | zero =>
      simp only [List.getElem?_cons_zero, Option.some.injEq, Prod.mk.injEq] at hi
      obtain ⟨rfl, rfl⟩ := hi
      refine ⟨f, rfl, h1, by simp [h2, Sh.ws], h3, ?_, ?_⟩
      · cases hq : P.info? t0 with
        | none => rw [hq] at h4; cases h4
        | some j => rw [hq] at h4; exact ⟨j, rfl, by simpa using h4⟩
      · funext w
        unfold aggB at h5
        cases hq : P.underlying t0 with
        | none => rw [hq] at h5; cases h5
        | some d =>
          rw [hq] at h5
          simp only [Option.map_some, Option.some.injEq] at h5
          unfold isAgg
          rw [Sem.run_bind, run_underlying hq]
          cases s0 <;> cases d <;> simp [isSt] at h5 <;> rfl
    | succ i =>
      obtain ⟨f', g1, g2, g3, g4⟩ := k2 i t s (by simpa using hi)
      refine ⟨f', by simpa using g1, g2, ?_, g4⟩
      rw [g3]; simp only [List.map_cons, List.take_succ_cons, Sh.ws]; omega
def kdB (P : Program) (T : Nat) (sh : Sh) : KD → Bool
  | .lf => !isSt sh && (aggB P T == some false)
  | .str => !isSt sh && (match P.underlying T with | some .string => true | _ => false)
  | .bool => !isSt sh && (match P.underlying T with | some .bool => true | _ => false)
  | .int k => !isSt sh && (match P.underlying T with | some (.int k') => k == k' | _ => false)
  | .sl e s => !isSt sh && decide (0 < s.w) && (match P.underlying T with | some (.slice e') => e == e' | _ => false) && ((P.info? e).map (·.size) == some s.w)
  | .st fl => (match P.underlying T with | some (.struct fs) => fldB P fs.toList fl 0 | _ => false)
theorem one_of {sh : Sh} (h : (!isSt sh) = true) : sh = .one := by cases sh <;> simp [isSt] at h ⊢
theorem kd_spec (P : Program) (T : Nat) (sh : Sh) (k : KD) (hs : ∀ fl, k = .st fl → sh = .st (fl.map Prod.snd)) (h : kdB P T sh k = true) : KdOk P T sh k := by
  cases k <;> simp only [kdB, Bool.and_eq_true, beq_iff_eq] at h <;> simp only [KdOk]
  · refine ⟨one_of h.1, ?_⟩
    have h2 := h.2
    unfold aggB at h2
    cases hq : P.underlying T with
    | none => rw [hq] at h2; cases h2
    | some d =>
      rw [hq] at h2
      refine ⟨d, rfl, fun fs e => ?_, fun n e' e => ?_⟩
      · subst e; simp at h2
      · subst e; simp at h2
  · refine ⟨one_of h.1, ?_⟩
    have h2 := h.2
    split at h2 <;> first | assumption | cases h2
  · refine ⟨one_of h.1, ?_⟩
    have h2 := h.2
    split at h2 <;> first | assumption | cases h2
  · refine ⟨one_of h.1, ?_⟩
    have h2 := h.2
    split at h2
    · rename_i k' hq
      simp only [beq_iff_eq] at h2
      subst h2
      exact hq
    · cases h2
  · obtain ⟨⟨⟨h1, h2⟩, h3⟩, h4⟩ := h
    refine ⟨one_of h1, by simpa using h2, ?_, ?_⟩
    · split at h3
      · rename_i e' hq
        simp only [beq_iff_eq] at h3
        subst h3
        exact hq
      · cases h3
    · rename_i e s
      cases hq : P.info? e with
      | none => rw [hq] at h4; cases h4
      | some j => rw [hq] at h4; exact ⟨j, rfl, by simpa using h4⟩
  · rename_i fl
    refine ⟨hs fl rfl, ?_⟩
    split at h
    · rename_i fs hq
      obtain ⟨k1, k2⟩ := fld_spec P fs.toList fl 0 h
      refine ⟨fs, hq, by simpa using k1, fun i t s hi => ?_⟩
      obtain ⟨f, g1, g2, g3, g4⟩ := k2 i t s hi
      exact ⟨f, by simpa using g1, g2, by simpa using g3, g4⟩
    · cases h
/-- a row of the table of types, from what the program says -/
theorem TyOk.of {P : Program} {T : Nat} {ti : TI} (h1 : (P.info? T).map (fun i => (i.size, i.bytes, i.zero)) = some (ti.sh.w, ti.bytes, some (ti.z.mk ti.zc))) (h2 : ti.zc = ti.z.zc) (h3 : (ti.z.zB && decide (0 < ti.sh.w) && kdB P T ti.sh ti.kd) = true) (h4 : ti.z.sh = ti.sh)
    (h5 : ∀ fl, ti.kd = .st fl → ti.sh = .st (fl.map Prod.snd)) : TyOk P T ti := by
  simp only [Bool.and_eq_true, decide_eq_true_eq] at h3
  refine ⟨?_, h3.1.2, h4, fun w F => by rw [h2]; exact zB_rp w F _ h3.1.1, kd_spec P T _ _ h5 h3.2⟩
  cases hq : P.info? T with
  | none => rw [hq] at h1; cases h1
  | some i =>
    rw [hq] at h1
    simp only [Option.map_some, Option.some.injEq, Prod.mk.injEq] at h1
    exact ⟨i, rfl, h1.1, h1.2.1, h1.2.2⟩
/-- a list of temporaries or variables -/
def al : List (Nat × AV) → Nat → Option AV
  | [], _ => none
  | (j, v) :: r, k => bif k == j then some v else al r k
def tl (l : List (Nat × AV)) : Nat → AV := fun t => (al l t).getD .un
def okL (c : Cx) (mv : List Nat) (ops : Array Oper) : List Nat → St → Prop
  | [], _ => True
  | i :: l, S => (match ops[i]? with | some o => wnt ops o S = some true ∧ okP c mv o S | none => False) ∧ okL c mv ops l (match ops[i]? with | some o => nx c mv o S | none => S)
def runL (c : Cx) (mv : List Nat) (ops : Array Oper) : List Nat → St → St
  | [], S => S
  | i :: l, S => runL c mv ops l (match ops[i]? with | some o => nx c mv o S | none => S)
theorem WO.run {c : Cx} {mv : List Nat} {ops : Array Oper} {l2 : List Nat} {K : St → Prop} : ∀ (l1 : List Nat) {S : St}, okL c mv ops l1 S → WO c ops l2 (runL c mv ops l1 S) K → WO c ops (l1 ++ l2) S K
  | [], _, _, k => k
  | i :: l, S, h, k => by
    obtain ⟨h1, h2⟩ := h
    cases ho : ops[i]? with
    | none => rw [ho] at h1; exact h1.elim
    | some o =>
      rw [ho] at h1 h2
      refine WO.cons ho (OS.op h1.1 (ok_snd (mv := mv) h1.2)) (WO.run l h2 ?_)
      simpa only [runL, ho] using k
end Go.Proofs.YtkmiecgcibjkbaaGreat
