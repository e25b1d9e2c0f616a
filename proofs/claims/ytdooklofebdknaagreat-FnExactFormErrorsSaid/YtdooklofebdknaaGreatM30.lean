/- Dependencies that are valid, in two ways (plain); Den36: parts of several results that are taken over; variables that are closed and looked at by their address; structs compared; Den37: slices that may be changed in place (.ms): closed, grown, read and written; Den38: calls that look at a slice which may be changed; a variable closed ahead of a region; Den39: rows of functions, by rules that find . No condition but sizes. -/
import Derived.Test.YtdooklofebdknaaGreatM29
namespace Go.Proofs.YtdooklofebdknaaGreat
open Go.RowKit
set_option linter.unusedVariables false
set_option linter.unusedSimpArgs false
def depG (w : TProgram) (i : Nat) (p : TPackage) : Bool := decide (pIx w p.fName = (i : Int)) && p.fDeps.all fun d => within (pIx w d) 0 ((i : Int) - 1)
def depI (w : TProgram) (i : Nat) (p : TPackage) : Bool := sub p.fDeps ((w.fPackages.take i).map TPackage.fName)
def bad {α : Type} (p : Nat → α → Bool) (i : Nat) (x : α) : Option Unit := if p i x then none else some ()
def depsB (ok : TPackage → Bool) (w : TProgram) : Bool := (fs (bad fun i p => ok p && depG w i p) 0 w.fPackages).isNone && decide (w.fPackages.length ≤ 5)
def depsJ (ok : TPackage → Bool) (w : TProgram) : Bool := (fs (bad fun i p => ok p && depI w i p) 0 w.fPackages).isNone && (decide (w.fPackages.length ≤ 5) && dst (w.fPackages.map TPackage.fName))
theorem bad_none {α : Type} {p : Nat → α → Bool} {i : Nat} {x : α} : bad p i x = none ↔ p i x = true := by unfold bad; cases p i x <;> simp
theorem fs_bad {α : Type} {p : Nat → α → Bool} {l : List α} : (fs (bad p) 0 l).isNone = true ↔ ∀ k (h : k < l.length), p k l[k] = true := by
 constructor
 ·intro h k hk
  have key : ∀ (l : List α) (i : Nat), (fs (bad p) i l).isNone = true → ∀ k (h : k < l.length), p (i + k) l[k] = true := by
   intro l
   induction l with
   | nil => intro _ _ k hk; simp at hk
   | cons x l ih =>
    intro i h k hk
    rw [fs] at h
    cases hx : bad p i x with
    | some y => rw [hx] at h; simp at h
    | none =>
     rw [hx] at h
     cases k with
     | zero => simpa using bad_none.1 hx
     | succ k => have := ih (i + 1) h k (by simpa using hk); rw [show i + 1 + k = i + (k + 1) by omega] at this; simpa using this
  have := key l 0 h k hk
  simpa using this
 ·intro h
  rw [fs_none (fun k hk => by rw [Nat.zero_add]; exact bad_none.2 (h k hk))]; rfl
theorem pIx_iff {w : TProgram} {s : ByteArray} {i : Nat} : pIx w s = (i : Int) ↔ ∃ h : i < w.fPackages.length, w.fPackages[i].fName = s ∧ ∀ j (hj : j < i), ¬ (w.fPackages[j]'(by omega)).fName = s := by
 unfold pIx
 cases h : w.fPackages.findIdx? (fun q => decide (q.fName = s)) with
 | none =>
  simp only
  constructor
  ·intro q; omega
  ·rintro ⟨h1, h2, -⟩
   rw [List.findIdx?_eq_none_iff] at h
   have := h _ (List.getElem_mem h1)
   simp [h2] at this
 | some j =>
  have h' := h
  rw [List.findIdx?_eq_some_iff_getElem] at h'
  obtain ⟨h1, h2, h3⟩ := h'
  simp only
  constructor
  ·intro q
   have : j = i := by omega
   subst this
   exact ⟨h1, by simpa using h2, fun k hk => by simpa using h3 k hk⟩
  ·rintro ⟨g1, g2, g3⟩
   have : j = i := by
    rcases Nat.lt_trichotomy j i with q | q | q
    ·exact absurd (by simpa using h2) (g3 j q)
    ·exact q
    ·have := h3 i q; simp [g2] at this
   omega
theorem pIx_in {w : TProgram} {s : ByteArray} {i : Nat} (hi : i ≤ w.fPackages.length) : within (pIx w s) 0 ((i : Int) - 1) = true ↔ s ∈ (w.fPackages.take i).map TPackage.fName := by
 unfold within
 simp only [Bool.and_eq_true, decide_eq_true_eq]
 constructor
 ·rintro ⟨h1, h2⟩
  obtain ⟨n, hn⟩ := Int.eq_ofNat_of_zero_le h1
  obtain ⟨h3, h4, -⟩ := pIx_iff.1 hn
  refine List.mem_map.2 ⟨w.fPackages[n], ?_, h4⟩
  exact List.mem_take_iff_getElem.2 ⟨n, by omega, rfl⟩
 ·intro h
  obtain ⟨p, hp, rfl⟩ := List.mem_map.1 h
  obtain ⟨k, hk, rfl⟩ := List.mem_take_iff_getElem.1 hp
  have hkl : k < w.fPackages.length := by omega
  -- the first of that name
  have : ∃ j, j ≤ k ∧ pIx w w.fPackages[k].fName = (j : Int) := by
   cases h : w.fPackages.findIdx? (fun q => decide (q.fName = w.fPackages[k].fName)) with
   | none =>
    rw [List.findIdx?_eq_none_iff] at h
    have := h _ (List.getElem_mem hkl)
    simp at this
   | some j =>
    refine ⟨j, ?_, by unfold pIx; rw [h]⟩
    rw [List.findIdx?_eq_some_iff_getElem] at h
    obtain ⟨h1, h2, h3⟩ := h
    rcases Nat.lt_or_ge k j with q | q
    ·have := h3 k q; simp at this
    ·exact q
  obtain ⟨j, h1, h2⟩ := this
  rw [h2]; omega
theorem dst_iff (l : List ByteArray) : dst l = true ↔ ∀ i (h : i < l.length), ∀ j (hj : j < i), ¬ l[j] = l[i] := by
 unfold dst allB
 simp only [List.all_eq_true, List.mem_range]
 constructor
 ·intro h i hi j hj e
  have := h i hi
  unfold dstAt at this
  simp only [Bool.not_eq_true', List.getD_eq_getElem?_getD, List.getElem?_eq_getElem hi, Option.getD_some] at this
  have h2 : hasS (l.take i) l[i] = true := List.any_eq_true.2 ⟨l[j], List.mem_take_iff_getElem.2 ⟨j, by omega, rfl⟩, by simpa using e⟩
  rw [this] at h2; cases h2
 ·intro h i hi
  unfold dstAt
  simp only [Bool.not_eq_true', List.getD_eq_getElem?_getD, List.getElem?_eq_getElem hi, Option.getD_some]
  rw [Bool.eq_false_iff]
  intro q
  obtain ⟨x, hx, e⟩ := List.any_eq_true.1 q
  obtain ⟨j, hj, rfl⟩ := List.mem_take_iff_getElem.1 hx
  exact h i hi j (by omega) (by simpa using e)
theorem deps_eq (ok : TPackage → Bool) (w : TProgram) : depsB ok w = depsJ ok w := by
 have hsub : ∀ i, i < w.fPackages.length → ∀ p : TPackage, (p.fDeps.all fun d => within (pIx w d) 0 ((i : Int) - 1)) = depI w i p := fun i hi p => by
  have e : (fun d => within (pIx w d) 0 ((i : Int) - 1)) = fun d => hasS ((w.fPackages.take i).map TPackage.fName) d := by
   funext d
   rw [Bool.eq_iff_iff, pIx_in (by omega)]
   constructor
   ·intro q; exact List.any_eq_true.2 ⟨d, q, by simp⟩
   ·intro q
    obtain ⟨x, hx, e⟩ := List.any_eq_true.1 q
    have : x = d := by simpa using e
    subst this; exact hx
  rw [e]
  unfold depI sub
  rw [List.all_eq_not_any_not]
 rw [Bool.eq_iff_iff]
 unfold depsB depsJ
 simp only [Bool.and_eq_true, fs_bad]
 constructor
 ·rintro ⟨h1, h2⟩
  refine ⟨fun k hk => ?_, h2, (dst_iff _).2 fun i hi j hj e => ?_⟩
  ·have := h1 k hk
   unfold depG at this
   simp only [Bool.and_eq_true] at this
   exact ⟨this.1, by rw [← hsub k hk]; exact this.2.2⟩
  ·simp only [List.length_map] at hi
   have := h1 i hi
   unfold depG at this
   simp only [Bool.and_eq_true, decide_eq_true_eq] at this
   obtain ⟨g4, -, h4⟩ := pIx_iff.1 this.2.1
   simp only [List.getElem_map] at e
   exact h4 j hj e
 ·rintro ⟨h1, h2, h3⟩
  refine ⟨fun k hk => ?_, h2⟩
  have := h1 k hk
  unfold depG
  simp only [Bool.and_eq_true, decide_eq_true_eq]
  refine ⟨this.1, pIx_iff.2 ⟨hk, rfl, fun j hj => ?_⟩, by rw [hsub k hk]; exact this.2⟩
  have := (dst_iff _).1 h3 k (by simpa using hk) j hj
  simpa using this
section
variable {c : Cx} {o : Oper} {S : St}
end
section
variable {c : Cx} {ops : Array Oper} {o : Oper} {l : List Oper} {S S1 : St} {K : St → Prop}
end
/-- a variable is closed: its address shows a frozen value from now on -/
theorem Rel.freezeB {w : World} {F : Nat → Nat} {Θ : Ty} {own : Who → List Nat} {S : St} {a : Act} (h : Rel w F Θ own S a) (t k : Nat) (ht : S.tm t = .pt 0 k []) (x : DD) (hk : hpg S.hp 0 k = some (.d x))
  (S' : St) (hn : S'.n = S.n) (htm : ∀ u, u ≠ t → S'.tm u = S.tm u ∨ S'.tm u = .un) (ht' : S'.tm t = .el x.vw) (hhp : ∀ lv q, ¬ (lv = 0 ∧ q = k) → hpg S'.hp lv q = hpg S.hp lv q) (hk' : hpg S'.hp 0 k = none)
  (hnt : ∀ u, u ≠ t → (S'.tm u).npt (fun q => q = k)) (hnh : ∀ lv q cn, hpg S'.hp lv q = some cn → cn.npt (fun q => q = k)) : ∃ F' Θ' own', Rel w F' Θ' own' S' a ∧ Stp w F Θ own w F' Θ' own' := by
 classical
 obtain ⟨b, s0, cur, ty, z1, z2, z3, z4, z5, z6⟩ := h.hs 0 k _ hk
 have hvt := h.tm t
 rw [ht] at hvt
 simp only [rv] at hvt
 obtain ⟨ho, b', s1, off, y1, y2, y3⟩ := hvt
 rw [z1] at y1
 simp only [Option.some.injEq, Prod.mk.injEq] at y1
 obtain ⟨rfl, rfl⟩ := y1
 rw [offP_nil] at y2
 cases y2
 simp only [rc] at z6
 let F' := upd F b cur.size
 have hks : Ks w F w F' (fun x => x = b) := by
  have e : w.setRow b cur = w := setRow_self w b cur ty (0, 0) z5
  have := ks_row (F := F) (n := cur.size) (arr := cur) z5 (by omega) (fun _ _ => rfl)
  rwa [e] at this
 let Θ' : Ty := fun lv q => if lv = 0 ∧ q = k then none else Θ lv q
 have hT : ∀ lv q, ¬ (lv = 0 ∧ q = k) → Θ' lv q = Θ lv q := fun lv q hn => if_neg hn
 have hTT : ∀ lv q (x : Nat × Sh), Θ lv q = some x → Θ lv q = some x := fun _ _ _ q => q
 let own' : Who → List Nat := fun x => match x with
  | .t u => if u = t then [] else if S'.tm u = S.tm u then own (.t u) else []
  | .h lv q => if lv = 0 ∧ q = k then [] else own (.h lv q)
  | .l lv q => if lv = 0 ∧ q = k then [] else own (.l lv q)
 have kp : ∀ x, x ≠ .l 0 k → Kp w F w F' (own x) := fun x hx => hks.kp (h.lt x) (fun q hq e => h.dj (.l 0 k) x (Ne.symm hx) q (by rw [z2, e]; simp) hq)
 have kp0 : Kp w F w F' [] := hks.kp (by simp) (by simp)
 have src : ∀ x y, y ∈ own' x → x ≠ .t t ∧ x ≠ .h 0 k ∧ x ≠ .l 0 k ∧ y ∈ own x := by
  intro x y hy
  cases x with
  | t u =>
   simp only [own'] at hy
   split at hy
   ·simp at hy
   ·rename_i e
    split at hy
    ·exact ⟨by simpa using e, by simp, by simp, hy⟩
    ·simp at hy
  | h lv q =>
   simp only [own'] at hy
   split at hy
   ·simp at hy
   ·rename_i e; exact ⟨by simp, by simpa using e, by simp, hy⟩
  | l lv q =>
   simp only [own'] at hy
   split at hy
   ·simp at hy
   ·rename_i e; exact ⟨by simp, by simp, by simpa using e, hy⟩
 refine ⟨F', Θ', own', ⟨h.n.trans hn.symm, h.df, fun u => ?_, fun lv q hq => ?_, fun lv q cn hq => ?_, fun x => ?_, fun x y hxy z hx hy => ?_, fun x z hz => ?_, fun z hz => ?_, h.gl.ks hks⟩, ⟨⟨rfl, rfl, rfl, Nat.le_refl _, hks.cell, hks.mono, fun z hz hne => hks.out z hz (fun e => hne ⟨.l 0 k, by rw [z2, e]; simp⟩)⟩, fun x z hz => ?_, fun lv q => if_neg (by simp)⟩⟩
 ·by_cases hu : u = t
  ·subst hu
   rw [ht']
   simp only [rv]
   refine ⟨if_pos rfl, b, 0, cur.toList, y3, fun j u hu => ?_, rp.view x _ _ (rp.keep x _ _ z6 (kp _ (by simp))), ?_⟩
   ·rw [cell_of_row w b _ cur ty (0, 0) z5, Nat.zero_add]
    simpa using hu
   ·show _ ≤ upd F b cur.size b
    rw [upd_self]; simp
  ·have hnp := hnt u hu
   rcases htm u hu with e | e
   ·have : own' (.t u) = own (.t u) := by show (if _ then _ else if _ then _ else _) = _; rw [if_neg hu, if_pos e]
    rw [this]
    rw [e] at hnp ⊢
    exact rv.drop hT _ _ _ hnp (rv.keep hTT _ _ _ (h.tm u) (kp _ (by simp)))
   ·rw [e]
    by_cases e2 : S'.tm u = S.tm u
    ·have : own' (.t u) = own (.t u) := by show (if _ then _ else if _ then _ else _) = _; rw [if_neg hu, if_pos e2]
     rw [this]
     have h3 := h.tm u
     rw [← e2, e] at h3
     simpa only [rv] using h3
    ·have : own' (.t u) = [] := by show (if _ then _ else if _ then _ else _) = _; rw [if_neg hu, if_neg e2]
     rw [this]
     simp only [rv]
 ·by_cases e : lv = 0 ∧ q = k
  ·exact ⟨if_pos e, if_pos e, if_pos e⟩
  ·rw [hhp lv q e] at hq
   obtain ⟨h1, h2, h3⟩ := h.hn lv q hq
   exact ⟨(if_neg e).trans h1, (if_neg e).trans h2, (if_neg e).trans h3⟩
 ·have e : ¬ (lv = 0 ∧ q = k) := by
   rintro ⟨rfl, rfl⟩
   rw [hk'] at hq; cases hq
  have hnp := hnh lv q cn hq
  rw [hhp lv q e] at hq
  obtain ⟨b2, s2, cur2, t2, h1, h2, h3, h4, h5, h6⟩ := h.hs lv q cn hq
  have hne : b2 ≠ b := fun e2 => h.dj (.l lv q) (.l 0 k) (by simpa using e) b2 (by rw [h2]; simp) (by rw [z2, e2]; simp)
  refine ⟨b2, s2, cur2, t2, (if_neg e).trans h1, (if_neg e).trans h2, (upd_ne _ _ hne).trans h3, h4, h5, ?_⟩
  have : own' (.h lv q) = own (.h lv q) := if_neg e
  rw [this]
  exact rc.drop hT _ _ _ hnp (rc.keep hTT _ _ _ h6 (kp _ (by simp)))
 ·cases x with
  | t u =>
   show (if _ then _ else if _ then _ else _ : List Nat).Nodup
   split
   ·exact List.nodup_nil
   ·split
    ·exact h.nd _
    ·exact List.nodup_nil
  | h lv q => show (if _ then _ else _ : List Nat).Nodup; split; exact List.nodup_nil; exact h.nd _
  | l lv q => show (if _ then _ else _ : List Nat).Nodup; split; exact List.nodup_nil; exact h.nd _
 ·exact h.dj x y hxy z (src x z hx).2.2.2 (src y z hy).2.2.2
 ·exact h.lt _ z (src x z hz).2.2.2
 ·have hb : b < w.heap.size := h.lt (.l 0 k) b (by rw [z2]; simp)
  exact (upd_ne _ _ (by omega)).trans (h.top z hz)
 ·exact .inl ⟨_, (src x z hz).2.2.2⟩
theorem wz_freezeB {S : St} {f : Nat → Option AV} {h : HP} (t k : Nat) (x : DD) (L L2 : List (Nat × AV)) (hh : S.hp = f :: upH h) (ht : S.tm t = .pt 0 k []) (hk : f k = some (.d x))
  (h1 : ∀ p ∈ L, p.1 ≠ t ∧ S.tm p.1 = p.2 ∧ p.2.cl L2) (h2 : ∀ p ∈ L2, p.1 ≠ k ∧ f p.1 = some p.2 ∧ p.2.cl L2) : Wz S ⟨S.n, tl ((t, .el x.vw) :: L), al L2 :: upH h⟩ := by
 intro w F Θ own a hR
 have hk2 : al L2 k = none := by
  cases hq : al L2 k with
  | none => rfl
  | some v => exact absurd rfl (h2 _ (al_mem L2 k v hq)).1
 have hL : ∀ u v, al L u = some v → S.tm u = v ∧ v.cl L2 := fun u v hq => (h1 _ (al_mem L u v hq)).2
 have npk : ∀ v : AV, v.cl L2 → v.npt (fun q => q = k) := by
  have key : ∀ v : AV, v.npt (fun q => hpg (al L2 :: upH h) 0 q = none) → v.npt (fun q => q = k) := by
   intro v
   refine AV.npt_mono (fun q e => ?_) v
   subst e; exact hk2
  exact fun v hv => key v (AV.cl_npt v hv)
 -- contents that do not look at the row: those that are kept; all others are forgotten first
 have hw : Wk S ⟨S.n, fun u => if u = t then .pt 0 k [] else tl L u, (fun q => if q = k then f k else al L2 q) :: upH h⟩ := by
  refine ⟨rfl, fun u => ?_, fun lv q => ?_, fun u => ?_, fun lv q cn hq => ?_⟩
  ·show (if u = t then _ else _) = _ ∨ _
   by_cases hu : u = t
   ·subst hu; rw [if_pos rfl]; exact .inl ht.symm
   ·rw [if_neg hu]
    show (al L u).getD .un = _ ∨ (if u = t then _ else _) = _
    rw [if_neg hu]
    show _ ∨ (al L u).getD .un = _
    cases hq : al L u with
    | none => exact .inr rfl
    | some v => exact .inl (hL u v hq).1.symm
  ·rw [hh]
   cases lv with
   | zero =>
    show (if q = k then f k else al L2 q) = f q ∨ _
    by_cases hq : q = k
    ·subst hq; rw [if_pos rfl]; exact .inl rfl
    ·rw [if_neg hq]
     cases hq2 : al L2 q with
     | none => exact .inr ⟨rfl, by show (if q = k then f k else al L2 q) = none; rw [if_neg hq]; exact hq2⟩
     | some v => exact .inl (h2 _ (al_mem L2 q v hq2)).2.1.symm
   | succ lv => exact .inl rfl
  ·show (if u = t then _ else _ : AV).npt _
   have mono : ∀ v : AV, v.cl L2 → v.npt (fun q => (if q = k then f k else al L2 q) = none) := fun v hv => AV.npt_mono (fun q e => by
    show al L2 q = none
    by_cases hq : q = k
    ·subst hq; exact hk2
    ·rw [if_neg hq] at e; exact e) v (AV.cl_npt (h := upH h) v hv)
   by_cases hu : u = t
   ·rw [if_pos hu]
    simp only [AV.npt]
    intro _ e
    have e' : (if k = k then f k else al L2 k) = none := e
    rw [if_pos rfl, hk] at e'; cases e'
   ·rw [if_neg hu]
    show ((al L u).getD .un).npt _
    cases hq : al L u with
    | none => trivial
    | some v => exact mono v (hL u v hq).2
  ·have mono : ∀ v : AV, v.cl L2 → v.npt (fun q => (if q = k then f k else al L2 q) = none) := fun v hv => AV.npt_mono (fun q e => by
    show al L2 q = none
    by_cases hq : q = k
    ·subst hq; exact hk2
    ·rw [if_neg hq] at e; exact e) v (AV.cl_npt (h := upH h) v hv)
   cases lv with
   | zero =>
    have hq' : (if q = k then f k else al L2 q) = some cn := hq
    by_cases hqk : q = k
    ·rw [if_pos hqk, hk] at hq'
     cases hq'; trivial
    ·rw [if_neg hqk] at hq'
     exact mono cn (h2 _ (al_mem L2 q cn hq')).2.2
   | succ lv =>
    have hq' : hpg (upH h) lv q = some cn := hq
    rw [hpg_upH] at hq'
    cases hh2 : hpg h lv q with
    | none => rw [hh2] at hq'; cases hq'
    | some c0 =>
     rw [hh2] at hq'
     simp only [Option.map_some, Option.some.injEq] at hq'
     subst hq'
     exact AV.npt_up _ c0
 obtain ⟨Θ1, own1, r1, r2⟩ := hR.weak hw
 obtain ⟨F2, Θ2, own2, m1, m2⟩ := r1.freezeB t k (if_pos rfl) x (by show (if k = k then f k else _) = _; rw [if_pos rfl]; exact hk) ⟨S.n, tl ((t, .el x.vw) :: L), al L2 :: upH h⟩ rfl (fun u hu => by
   left
   show ((al ((t, _) :: L) u).getD .un) = (if u = t then _ else _)
   rw [if_neg hu]
   simp only [al, beq_eq_false_iff_ne.2 hu, cond_false]
   rfl) (by simp [tl, al]) (fun lv q hne => by
   cases lv with
   | zero =>
    show al L2 q = (if q = k then f k else al L2 q)
    rw [if_neg (fun e => hne ⟨rfl, e⟩)]
   | succ lv => rfl) hk2 (fun u hu => by
   show ((al ((t, _) :: L) u).getD .un).npt _
   simp only [al, beq_eq_false_iff_ne.2 hu, cond_false]
   cases hq : al L u with
   | none => trivial
   | some v => exact npk v (hL u v hq).2) (fun lv q cn hq => by
   cases lv with
   | zero => exact npk cn (h2 _ (al_mem L2 q cn hq)).2.2
   | succ lv =>
    have hq' : hpg (upH h) lv q = some cn := hq
    rw [hpg_upH] at hq'
    cases hh2 : hpg h lv q with
    | none => rw [hh2] at hq'; cases hq'
    | some c0 =>
     rw [hh2] at hq'
     simp only [Option.map_some, Option.some.injEq] at hq'
     subst hq'
     exact AV.npt_up _ c0)
 exact ⟨F2, Θ2, own2, m1, r2.trans m2⟩
theorem W.frzB {c : Cx} {code : Code} {S : St} {Q : Exit → St → Prop} {h : HP} (t k : Nat) (x : DD) (ts ks : List Nat) (hh : S.hp.tail = upH h) (h0 : S.hp ≠ []) (ht : S.tm t = .pt 0 k []) (hk : hd S k = some (.d x))
  (h1 : ∀ p ∈ tls S ts, p.1 ≠ t ∧ p.2.cl (hls (hd S) ks)) (h2 : ∀ p ∈ hls (hd S) ks, p.1 ≠ k ∧ p.2.cl (hls (hd S) ks)) {T : St} (e : (⟨S.n, tl ((t, .el x.vw) :: tls S ts), al (hls (hd S) ks) :: S.hp.tail⟩ : St) = T) (w : W c code T Q) : W c code S Q := by
 subst e
 have e1 : S.hp = hd S :: upH h := by rw [← hh]; exact hd_eq h0
 rw [hh] at w
 refine W.ahead (wz_freezeB t k x (tls S ts) (hls (hd S) ks) e1 ht hk (fun p hp => ⟨(h1 p hp).1, ?_, (h1 p hp).2⟩) (fun p hp => ⟨(h2 p hp).1, hls_get _ _ p hp, (h2 p hp).2⟩)) w
 obtain ⟨t, -, rfl⟩ := List.mem_map.1 hp
 rfl
mutual
/-- all that lies in a value is the value's own -/
def DD.ow : DD → Prop
 | .lf _ => True
 | .st fs => DD.ows fs
 | .sl o _ es => o = true ∧ DD.ows es
def DD.ows : List DD → Prop
 | [] => True
 | d :: ds => d.ow ∧ DD.ows ds
end
mutual
theorem rp.keepO {w w' : World} {F F' : Nat → Nat} : ∀ (d : DD) (cs : List Value) (bs : List Nat), rp w F d cs bs → d.ow → (∀ b ∈ bs, w'.heap[b]? = w.heap[b]? ∧ F' b = F b) → rp w' F' d cs bs
 | .lf v, cs, bs, h, _, _ => by simpa only [rp] using h
 | .st fs, cs, bs, h, o, k => by
  simp only [rp] at h ⊢
  simp only [DD.ow] at o
  exact rpS.keepO fs cs bs h o k
 | .sl o s es, cs, bs, h, q, k => by
  simp only [DD.ow] at q
  obtain ⟨rfl, q⟩ := q
  simp only [rp] at h ⊢
  obtain ⟨hs, hp, a, cap, h1, h2, h3, h4, h5⟩ := h
  refine ⟨hs, hp, a, cap, h1, h2, h3, h4, ?_⟩
  rcases h5 with h5 | ⟨b, off, r, ha, he, hf, h6⟩
  ·exact .inl h5
  ·rcases h6 with ⟨ho, -, -⟩ | ⟨-, hb, hoff, hF, cur, e, hh, hc⟩
   ·cases ho
   ·subst hb
    have hk := k b (by simp)
    exact .inr ⟨b, off, r, ha, rpE.keepO hk.1 es off r he q (fun x hx => k x (by simp [hx])), by rw [hk.2]; exact hf, .inr ⟨trivial, rfl, hoff, hk.2.trans hF, cur, e, hk.1.trans hh, hc⟩⟩
theorem rpS.keepO {w w' : World} {F F' : Nat → Nat} : ∀ (l : List DD) (cs : List Value) (bs : List Nat), rpS w F l cs bs → DD.ows l → (∀ b ∈ bs, w'.heap[b]? = w.heap[b]? ∧ F' b = F b) → rpS w' F' l cs bs
 | [], cs, bs, h, _, _ => by simpa only [rpS] using h
 | d :: l, cs, bs, h, o, k => by
  simp only [rpS] at h ⊢
  simp only [DD.ows] at o
  obtain ⟨c1, c2, b1, b2, h1, h2, h3, h4⟩ := h
  subst h2
  exact ⟨c1, c2, b1, b2, h1, rfl, rp.keepO d c1 b1 h3 o.1 (fun x hx => k x (by simp [hx])), rpS.keepO l c2 b2 h4 o.2 (fun x hx => k x (by simp [hx]))⟩
theorem rpE.keepO {w w' : World} {F F' : Nat → Nat} {b : Nat} (hb : w'.heap[b]? = w.heap[b]?) : ∀ (l : List DD) (off : Nat) (bs : List Nat), rpE w F l b off bs → DD.ows l → (∀ b ∈ bs, w'.heap[b]? = w.heap[b]? ∧ F' b = F b) → rpE w' F' l b off bs
 | [], _, bs, h, _, _ => by simpa only [rpE] using h
 | d :: l, off, bs, h, o, k => by
  simp only [rpE] at h ⊢
  simp only [DD.ows] at o
  obtain ⟨cs, b1, b2, h1, h2, h3, h4⟩ := h
  subst h1
  exact ⟨cs, b1, b2, rfl, fun j u hu => by rw [cell_same hb]; exact h2 j u hu, rp.keepO d cs b1 h3 o.1 (fun x hx => k x (by simp [hx])), rpE.keepO hb l _ b2 h4 o.2 (fun x hx => k x (by simp [hx]))⟩
end
/-- closed: the frozen part of its block as long as the row -/
theorem rms.sl {w : World} {F : Nat → Nat} {s : Sh} {es : List DD} {v : Value} {bs : List Nat} (h : rms w F s es v bs) (hn : bs.Nodup) : ∃ F1, rp w F1 (.sl true s es) [v] bs ∧ (∀ x, x ∉ bs.head? → F1 x = F x) ∧ ∀ x ∈ bs.head?, F x = 0 ∧ F1 x = es.length * s.w := by
 obtain ⟨h0, h1, a, cap, rfl, h3, h4, h5, h6⟩ := h
 rcases h6 with ⟨rfl, rfl, rfl⟩ | ⟨b, r, cur, e, rfl, rfl, g1, g2, g3, g4⟩
 ·refine ⟨F, ?_, fun _ _ => rfl, by simp⟩
  simp only [rp]
  exact ⟨h0, h1, a, 0, rfl, by simp, by omega, h5, .inl ⟨trivial, trivial, fun _ => rfl⟩⟩
 ·have hbr := (List.nodup_cons.1 hn).1
  refine ⟨upd F b (es.length * s.w), ?_, fun x hx => upd_ne _ _ (fun e => hx (by simp [e])), fun x hx => ?_⟩
  ·simp only [rp]
   refine ⟨h0, h1, _, cap, rfl, h3, h4, h5, .inr ⟨b, 0, r, rfl, ?_, by rw [upd_self]; omega, .inr ⟨trivial, rfl, rfl, upd_self _ _ _, cur, e, g3, g4⟩⟩⟩
   exact rpE.keepB rfl es 0 r g2 ⟨fun _ _ _ => rfl, fun x => by
    by_cases e : x = b
    ·subst e; rw [g1]; exact Nat.zero_le _
    ·rw [upd_ne _ _ e]; exact Nat.le_refl _, fun x hx => ⟨rfl, upd_ne _ _ (fun e => hbr (by rw [← e]; exact hx))⟩⟩
  ·simp at hx; subst hx; exact ⟨g1, upd_self _ _ _⟩
/-- and opened again, where what lies in it is its own -/
theorem rms.of {w : World} {F F1 : Nat → Nat} {s : Sh} {es : List DD} {v : Value} {bs : List Nat} (h : rp w F1 (.sl true s es) [v] bs) (ho : DD.ows es) (hn : bs.Nodup) (hF : ∀ x ∈ bs, x ∉ bs.head? → F x = F1 x) (h0 : ∀ x ∈ bs.head?, F x = 0) : rms w F s es v bs := by
 simp only [rp, List.cons.injEq, and_true] at h
 obtain ⟨g0, g1, a, cap, rfl, g3, g4, g5, g6⟩ := h
 refine ⟨g0, g1, a, cap, rfl, g3, g4, g5, ?_⟩
 rcases g6 with ⟨rfl, rfl, g7⟩ | ⟨b, off, r, rfl, k1, k2, k3⟩
 ·exact .inl ⟨rfl, rfl, g7 trivial⟩
 ·rcases k3 with ⟨e, -, -⟩ | ⟨-, rfl, rfl, k5, cur, e, k6, k7⟩
  ·simp at e
  ·have hbr := (List.nodup_cons.1 hn).1
   exact .inr ⟨b, r, cur, e, rfl, rfl, h0 b (by simp), rpE.keepO rfl es 0 r k1 ho (fun x hx => ⟨rfl, hF x (by simp [hx]) (by simp; rintro rfl; exact hbr hx)⟩), k6, k7⟩
section
variable {c : Cx} {S : St}
end
section
variable {c : Cx} {o : Oper} {S : St}
end
mutual
/-- what lies in it is its own -/
def AV.ow : AV → Prop
 | .un => True
 | .d x => x.ow
 | .tp l => AV.ows l
 | _ => False
def AV.ows : List AV → Prop
 | [] => True
 | a :: l => a.ow ∧ AV.ows l
end
mutual
theorem rv.keepO {w w' : World} {F F' : Nat → Nat} {Θ Θ' : Ty} : ∀ (a : AV) (v : Value) (bs : List Nat), a.ow → rv w F Θ a v bs → (∀ b ∈ bs, w'.heap[b]? = w.heap[b]? ∧ F' b = F b) → rv w' F' Θ' a v bs
 | .un, v, bs, _, h, _ => by simpa only [rv] using h
 | .d x, v, bs, n, h, k => by
  simp only [rv] at h ⊢
  obtain ⟨cs, h1, h2⟩ := h
  exact ⟨cs, rp.keepO x cs bs h1 n k, h2⟩
 | .tp l, v, bs, n, h, k => by
  simp only [AV.ow] at n
  simp only [rv] at h ⊢
  obtain ⟨vs, h1, h2⟩ := h
  exact ⟨vs, h1, rvS.keepO l vs bs n h2 k⟩
 | .pt _ _ _, v, bs, n, h, _ => n.elim
 | .el _, v, bs, n, h, _ => n.elim
 | .rw _ _ _, v, bs, n, h, _ => n.elim
 | .fn _ _, v, bs, n, h, _ => n.elim
 | .fr _, v, bs, n, h, _ => n.elim
 | .ep _, v, bs, n, h, _ => n.elim
 | .ms _ _, v, bs, n, h, _ => n.elim
 | .mb _ _ _, v, bs, n, h, _ => n.elim
 | .mp _ _ _ _, v, bs, n, h, _ => n.elim
theorem rvS.keepO {w w' : World} {F F' : Nat → Nat} {Θ Θ' : Ty} : ∀ (l : List AV) (vs : List Value) (bs : List Nat), AV.ows l → rvS w F Θ l vs bs → (∀ b ∈ bs, w'.heap[b]? = w.heap[b]? ∧ F' b = F b) → rvS w' F' Θ' l vs bs
 | [], vs, bs, _, h, _ => by simpa only [rvS] using h
 | a :: l, vs, bs, n, h, k => by
  simp only [AV.ows] at n
  simp only [rvS] at h ⊢
  obtain ⟨v, r, b1, b2, h1, h2, h3, h4⟩ := h
  subst h2
  exact ⟨v, r, b1, b2, h1, rfl, rv.keepO a v b1 n.1 h3 (fun b hb => k b (by simp [hb])), rvS.keepO l r b2 n.2 h4 (fun b hb => k b (by simp [hb]))⟩
end
/-- a variable is closed ahead of a region -/
theorem W.fzR {c : Cx} {id : Nat} {ops : Array Oper} {d : Bool} {S T : St} {Q : Exit → St → Prop} {h : HP} (t k : Nat) (ts ks : List Nat) {x : DD} (w : W c (.region id ops d) T Q) (ht : S.tm t = .pt 0 k [] := by rfl) (hk : hd S k = some (.d x) := by rfl) (hh : S.hp.tail = upH h := by rfl) (h0 : S.hp ≠ [] := by simp)
  (h1 : ∀ p ∈ tls S ts, p.1 ≠ t ∧ p.2.cl (hls (hd S) ks) := by simp) (h2 : ∀ p ∈ hls (hd S) ks, p.1 ≠ k ∧ p.2.cl (hls (hd S) ks) := by simp) (e : (⟨S.n, tl ((t, .el x.vw) :: tls S ts), al (hls (hd S) ks) :: S.hp.tail⟩ : St) = T := by simp; rfl) : W c (.region id ops d) S Q :=
 W.frzB t k x ts ks hh h0 ht hk h1 h2 e w
/-- captured variables that are closed -/
class VwOk (l : List AV) : Prop where
 ok : AV.vws l = l
def psT (ps : Array (Nat × Operand)) : List Nat := ps.toList.filterMap fun p => match p.2 with
 | .tmp t => some t
 | _ => none
section
variable {c : Cx} {ops : Array Oper} {o : Oper} {l : List Oper} {S S1 : St} {K : St → Prop}
theorem Xfr {k0 T n e : Nat} {ps : Array (Nat × Operand)} {ii : TypeInfo} {z : Value} {fs : List AV} (k : WL c ops l S1 K) (ho : o.op = .buildSlice T n ps := by rfl) (hd : o.dst = some k0 := by rfl) (hg : o.guard = none := by rfl) (hn : n = (psT ps).length := by rfl) (hps : ps.toList = (List.range' 0 (psT ps).length).zip ((psT ps).map .tmp) := by rfl) (hk : k0 < S.n := by simp)
  (hf : ((psT ps).map fun t => (S.tm t).vw) = fs := by simp [psT]; rfl) (hfF : ∀ a ∈ fs, a.isF := by simp [AV.isF]) (hu : c.P.underlying T = some (.slice e) := by rfl) (hi : c.P.info? e = some ii := by rfl) (hsz : ii.size = 1 := by rfl) (hz : ii.zero = some z := by rfl) (hzc : z.cells.size = 1 := by rfl) (hn2 : (psT ps).length ≤ 1000 := by decide) (h0 : 0 < (psT ps).length := by decide)
  (e1 : (⟨S.n, upd S.tm k0 (.fr fs), S.hp⟩ : St) = S1 := by simp; rfl) : WL c ops (o :: l) S K := by
 subst hn
 exact WL.opFr hg hd hk T (psT ps) ho hps hu hi hsz hz hzc hn2 h0 hf hfF e1 k
theorem XlenFr {k0 T e : Nat} {x : Operand} {fs : List AV} (k : WL c ops l S1 K) (ho : o.op = .call { callee := .builtin .len, args := #[x], argTypes := #[T] } := by rfl) (hx : evT c 0 S x = .fr fs := by rfl) (hd : o.dst = some k0 := by rfl) (hg : o.guard = none := by rfl) (hk : k0 < S.n := by simp) (hu : c.P.underlying T = some (.slice e) := by rfl) (ox : okO c 0 x := by trivial)
  (e1 : (⟨S.n, upd S.tm k0 (.d (.lf (.int .i64 (fs.length : Int)))), S.hp⟩ : St) = S1 := by simp [H]; rfl) : WL c ops (o :: l) S K := WL.lenFr hg hd hk T x ho hu hx ox e1 k
theorem XixFr {k0 T e : Nat} {x i : Operand} {ii : TypeInfo} {fs : List AV} {ki : IntKind} {j : Nat} {f : AV} (k : WL c ops l S1 K) (ho : o.op = .indexAddr T x i := by rfl) (hx : evT c T S x = .fr fs := by rfl) (hj : evT c 0 S i = .d (.lf (.int ki (j : Int))) := by rfl) (hf : fs[j]? = some f := by simp [H]; rfl) (hd : o.dst = some k0 := by rfl) (hg : o.guard = none := by rfl) (hk : k0 < S.n := by simp) (hu : c.P.underlying T = some (.slice e) := by rfl) (hi : c.P.info? e = some ii := by rfl) (hsz : ii.size = 1 := by rfl) (ox : okO c T x := by trivial) (oi : okO c 0 i := by trivial)
  (e1 : (⟨S.n, upd S.tm k0 (.ep f), S.hp⟩ : St) = S1 := by simp [H]; rfl) : WL c ops (o :: l) S K := WL.ixFr hg hd hk T x i ho hu hi hsz hx ox j hj oi hf e1 k
theorem XldEp {k0 T : Nat} {x : Operand} {f : AV} (k : WL c ops l S1 K) (ho : o.op = .load T x := by rfl) (hx : evT c 0 S x = .ep f := by rfl) (hT : (isAgg T).run c.P = (fun w => .ok false w) := by rfl) (hd : o.dst = some k0 := by rfl) (hg : o.guard = none := by rfl) (hk : k0 < S.n := by simp) (ox : okO c 0 x := by trivial)
  (e1 : (⟨S.n, upd S.tm k0 f, S.hp⟩ : St) = S1 := by simp [H]; rfl) : WL c ops (o :: l) S K := WL.ldEp hg hd hk T x ho hT hx ox e1 k
/-- a call that changes callers' variables -/
theorem XlH (ts : List Nat) {f : Operand} {args : Array Operand} {argTypes : Array TypeId} {g : Nat} {cs as' : List AV} {r : AV} {h' : HP} {fn : Func} (hget : c.P.funcs[g]? = some fn) (hc : CS c.P g as' S.hp r h') (k : WL c ops l S1 K)
  (ho : o.op = .call { callee := .value f, args, argTypes } := by rfl) (hg : o.guard = none := by rfl) (hf : evT c 0 S f = .fn g cs := by rfl) (of : okO c 0 f := by simp) (hd : ∀ k, o.dst = some k → k < S.n := by simp) (hTs : argTypes.toList.length = args.toList.length := by rfl) (hok : ∀ x ∈ argTypes.toList.zip args.toList, okO c x.1 x.2 := by simp) (hn : (gvn ts args.toList).Nodup := by simp [G])
  (ha : (argTypes.toList.zip args.toList).map (fun x => argA c ts S x.1 x.2) ++ cs = as' := by first | (simp (disch := first | (simp; done) | omega) [M, G, H, i64w]; done) | (simp (disch := first | (simp; done) | omega) [M, G, H, i64w]; rfl) | rfl) (hb : fn.body.isSome = true := by rfl) (hnm : (fn.name == "runtime.NumGoroutine") = false := by rfl)
  (e : (⟨S.n, putF (clrs S.tm (gvn ts args.toList)) o.dst r, h'⟩ : St) = S1 := by first | (simp (disch := first | (simp; done) | omega) [M, G, H, i64w]; rfl) | rfl) : WL c ops (o :: l) S K := by
 obtain ⟨b, hfn⟩ := fok (c := c) hget hb hnm
 exact WL.call ts f args argTypes ho hg hd hf of hfn hTs hok hn ha hc e k
theorem valid_callH (hd : ∀ k, o.dst = some k → k < S.n) (hw : wnt ops o S = some true) (f : Operand) (args : Array Operand) (argTypes : Array TypeId) (ho : o.op = .call { callee := .value f, args, argTypes }) (ts : List Nat)
  (g : Nat) (caps : List AV) (hf : evT c 0 S f = .fn g caps) (of : okO c 0 f) (fn : Func) (body : Code) (hg : FnOk c.P g fn body) (Ts : List Nat) (hTs : Ts.length = args.toList.length) (hok : ∀ x ∈ Ts.zip args.toList, okO c x.1 x.2) (hn : (gvn ts args.toList).Nodup)
  (r : AV) (h' : HP) (hc : CS c.P g ((Ts.zip args.toList).map (fun x => argA c ts S x.1 x.2) ++ caps) S.hp r h') : (⟨o, gvn ts args.toList, r, .hp h'⟩ : Fsk).valid c ops S := by
 intro S1 k
 have hmem : ∀ x ∈ args.toList, x ∈ o.op.operands.toList := fun x hx => by rw [ho]; simp [Op.operands, Call.operands] at hx ⊢; exact .inr hx
 have ef : evT c 0 S1 f = evT c 0 S f := ev_agr (fun t e => k.rd t (look_mem (by rw [ho, e]; simp [Op.operands, Call.operands]))) 0
 have ea : ((Ts.zip args.toList).map (fun x => argA c ts S1 x.1 x.2)) = (Ts.zip args.toList).map (fun x => argA c ts S x.1 x.2) := by
  refine List.map_congr_left fun x hx => ?_
  obtain ⟨T, x⟩ := x
  have hx2 := (List.of_mem_zip hx).2
  cases x with
  | tmp t =>
   simp only [argA]
   cases hq : ts.contains t with
   | true =>
    simp only [cond_true]
    refine k.ts t ?_
    simp only [gvn, List.mem_flatMap]
    exact ⟨.tmp t, hx2, by simp only [hq, cond_true, List.mem_singleton]⟩
   | false => simp only [cond_false]; exact k.rd t (look_mem (hmem _ hx2))
  | _ => rfl
 have hh : S1.hp = S.hp := k.hp
 exact OS.call (c := c) (by rw [k.n]; exact hd) ((wnt_agr k.rd).trans hw) f args argTypes ho ts g caps (ef.trans hf) of fn body hg Ts hTs hok hn r h' (by rw [ea, hh]; exact hc)
/-- the same where a region draws its order -/
theorem XDlH {acc : List Sk} (ts : List Nat) {f : Operand} {args : Array Operand} {argTypes : Array TypeId} {g : Nat} {cs as' : List AV} {r : AV} {h' : HP} {fn : Func} (hget : c.P.funcs[g]? = some fn) (hc : CS c.P g as' S.hp r h') (k : DL c ops (acc ++ [⟨gvn ts args.toList, .hp⟩]) l S1 K)
  (ho : o.op = .call { callee := .value f, args, argTypes } := by rfl) (hg : o.guard = none := by rfl) (hf : evT c 0 S f = .fn g cs := by rfl) (of : okO c 0 f := by simp) (hd : ∀ k, o.dst = some k → k < S.n := by simp) (hTs : argTypes.toList.length = args.toList.length := by rfl) (hok : ∀ x ∈ argTypes.toList.zip args.toList, okO c x.1 x.2 := by simp) (hn : (gvn ts args.toList).Nodup := by simp [G])
  (ha : (argTypes.toList.zip args.toList).map (fun x => argA c ts S x.1 x.2) ++ cs = as' := by first | (simp (disch := first | (simp; done) | omega) [M, G, H, i64w]; done) | (simp (disch := first | (simp; done) | omega) [M, G, H, i64w]; rfl) | rfl) (hb : fn.body.isSome = true := by rfl) (hnm : (fn.name == "runtime.NumGoroutine") = false := by rfl)
  (e : (⟨S.n, putF (clrs S.tm (gvn ts args.toList)) o.dst r, h'⟩ : St) = S1 := by first | (simp (disch := first | (simp; done) | omega) [M, G, H, i64w]; rfl) | rfl) : DL c ops acc (o :: l) S K := by
 obtain ⟨b, hfn⟩ := fok (c := c) hget hb hnm
 subst ha
 exact DL.cons ⟨o, gvn ts args.toList, r, .hp h'⟩ rfl (valid_callH hd (by unfold wnt; rw [hg]) f args argTypes ho ts g cs hf of fn b hfn argTypes.toList hTs hok hn r h' hc) (fun _ _ h => by cases h) (fun _ _ h => by cases h) e k
end
/-- one step with a row of functions -/
theorem GF {P A : Prop} (k : A) (h : A → P := by
 first
  | exact fun k => XlenFr k
  | exact fun k => XixFr k
  | exact fun k => XldEp k
  | exact fun k => Xfr k) : P := h k
end Go.Proofs.YtdooklofebdknaaGreat
