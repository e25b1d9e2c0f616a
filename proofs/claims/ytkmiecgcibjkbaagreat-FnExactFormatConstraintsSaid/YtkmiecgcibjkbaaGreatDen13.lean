/- Den13: what is forgotten, rows that are closed, functions. No condition. -/
import Derived.Test.YtkmiecgcibjkbaaGreatDen12
namespace Go.Proofs.YtkmiecgcibjkbaaGreat
open Go.RowKit
mutual
def AV.npt (D : Nat → Prop) : AV → Prop
  | .un => True
  | .d _ => True
  | .pt lv k _ => lv = 0 → ¬ D k
  | .el _ => True
  | .rw lv k _ => lv = 0 → ¬ D k
  | .tp l => AV.npts D l
  | .fn _ c => AV.npts D c
def AV.npts (D : Nat → Prop) : List AV → Prop
  | [] => True
  | a :: l => a.npt D ∧ AV.npts D l
end
mutual
theorem AV.npt_up (D : Nat → Prop) : ∀ a : AV, a.up.npt D
  | .un => trivial
  | .d _ => trivial
  | .pt _ _ _ => by simp only [AV.up, AV.npt]; intro h; omega
  | .el _ => trivial
  | .rw _ _ _ => by simp only [AV.up, AV.npt]; intro h; omega
  | .tp l => by simp only [AV.up, AV.npt]; exact AV.npts_up D l
  | .fn _ c => by simp only [AV.up, AV.npt]; exact AV.npts_up D c
theorem AV.npts_up (D : Nat → Prop) : ∀ l : List AV, AV.npts D (AV.ups l)
  | [] => trivial
  | a :: l => by simp only [AV.ups, AV.npts]; exact ⟨AV.npt_up D a, AV.npts_up D l⟩
end
mutual
theorem rv.drop {w : World} {F : Nat → Nat} {Θ Θ' : Ty} {D : Nat → Prop} (hT : ∀ lv q, ¬ (lv = 0 ∧ D q) → Θ' lv q = Θ lv q) : ∀ (a : AV) (v : Value) (bs : List Nat), a.npt D → rv w F Θ a v bs → rv w F Θ' a v bs
  | .un, v, bs, _, h => by simpa only [rv] using h
  | .d x, v, bs, _, h => by simpa only [rv] using h
  | .pt lv k p, v, bs, n, h => by
    simp only [AV.npt] at n
    simpa only [rv, hT lv k (fun ⟨h1, h2⟩ => n h1 h2)] using h
  | .el x, v, bs, _, h => by simpa only [rv] using h
  | .rw lv k m, v, bs, n, h => by
    simp only [AV.npt] at n
    simpa only [rv, hT lv k (fun ⟨h1, h2⟩ => n h1 h2)] using h
  | .tp l, v, bs, n, h => by
    simp only [AV.npt] at n
    simp only [rv] at h ⊢
    obtain ⟨vs, h1, h2⟩ := h
    exact ⟨vs, h1, rvS.drop hT l vs bs n h2⟩
  | .fn f c, v, bs, n, h => by
    simp only [AV.npt] at n
    simp only [rv] at h ⊢
    obtain ⟨vs, h1, h2⟩ := h
    exact ⟨vs, h1, rvS.drop hT c vs bs n h2⟩
theorem rvS.drop {w : World} {F : Nat → Nat} {Θ Θ' : Ty} {D : Nat → Prop} (hT : ∀ lv q, ¬ (lv = 0 ∧ D q) → Θ' lv q = Θ lv q) : ∀ (l : List AV) (vs : List Value) (bs : List Nat), AV.npts D l → rvS w F Θ l vs bs → rvS w F Θ' l vs bs
  | [], vs, bs, _, h => by simpa only [rvS] using h
  | a :: l, vs, bs, n, h => by
    simp only [AV.npts] at n
    simp only [rvS] at h ⊢
    obtain ⟨v, r, b1, b2, h1, h2, h3, h4⟩ := h
    exact ⟨v, r, b1, b2, h1, h2, rv.drop hT a v b1 n.1 h3, rvS.drop hT l r b2 n.2 h4⟩
end
theorem rc.drop {w : World} {F : Nat → Nat} {Θ Θ' : Ty} {D : Nat → Prop} (hT : ∀ lv q, ¬ (lv = 0 ∧ D q) → Θ' lv q = Θ lv q) (c : AV) (cs : List Value) (bs : List Nat) (n : c.npt D) (h : rc w F Θ c cs bs) : rc w F Θ' c cs bs := by
  cases c <;> simp only [rc] at h ⊢
  case d x => exact h
  all_goals
    obtain ⟨v, h1, h2, h3⟩ := h
    exact ⟨v, h1, h2, rv.drop hT _ _ _ n h3⟩
structure Wk (S S' : St) : Prop where
  n : S'.n = S.n
  tm : ∀ t, S'.tm t = S.tm t ∨ S'.tm t = .un
  hp : ∀ lv k, hpg S'.hp lv k = hpg S.hp lv k ∨ (lv = 0 ∧ hpg S'.hp lv k = none)
  nt : ∀ t, (S'.tm t).npt (fun k => hpg S'.hp 0 k = none)
  nh : ∀ lv q cn, hpg S'.hp lv q = some cn → cn.npt (fun k => hpg S'.hp 0 k = none)
theorem Rel.weak {w : World} {F : Nat → Nat} {Θ : Ty} {own : Who → List Nat} {S S' : St} {a : Act} (h : Rel w F Θ own S a) (k : Wk S S') : ∃ Θ' own', Rel w F Θ' own' S' a ∧ Stp w F Θ own w F Θ' own' := by
  classical
  let Θ' : Ty := fun lv q => if lv = 0 ∧ hpg S'.hp 0 q = none then none else Θ lv q
  have hT : ∀ lv q, ¬ (lv = 0 ∧ hpg S'.hp 0 q = none) → Θ' lv q = Θ lv q := fun lv q hn => if_neg hn
  let own' : Who → List Nat := fun x => match x with
    | .t t => if S'.tm t = S.tm t then own (.t t) else []
    | .h lv q => if lv = 0 ∧ hpg S'.hp 0 q = none then [] else own (.h lv q)
    | .l lv q => if lv = 0 ∧ hpg S'.hp 0 q = none then [] else own (.l lv q)
  have sub : ∀ x b, b ∈ own' x → b ∈ own x := by
    intro x b hb
    cases x with
    | t t => simp only [own'] at hb; split at hb; exact hb; simp at hb
    | h lv q => simp only [own'] at hb; split at hb; simp at hb; exact hb
    | l lv q => simp only [own'] at hb; split at hb; simp at hb; exact hb
  refine ⟨Θ', own', ⟨h.n.trans k.n.symm, h.df, fun t => ?_, fun lv q hq => ?_, fun lv q cn hq => ?_, fun x => ?_, fun x y hxy b hx hy => h.dj x y hxy b (sub x b hx) (sub y b hy), fun x b hb => h.lt x b (sub x b hb), h.top⟩, ⟨Ks.refl _ _ _, fun x b hb => .inl ⟨x, sub x b hb⟩, fun lv q => ?_⟩⟩
  · have hn := k.nt t
    by_cases e : S'.tm t = S.tm t
    · have : own' (.t t) = own (.t t) := if_pos e
      rw [this]
      rw [e] at hn ⊢
      exact rv.drop hT _ _ _ hn (h.tm t)
    · have : own' (.t t) = [] := if_neg e
      rw [this, (k.tm t).resolve_left e]
      simp only [rv]
  · by_cases e : lv = 0 ∧ hpg S'.hp 0 q = none
    · exact ⟨if_pos e, if_pos e, if_pos e⟩
    · have : hpg S.hp lv q = none := by
        rcases k.hp lv q with e1 | ⟨rfl, e1⟩
        · rw [← e1]; exact hq
        · exact absurd ⟨rfl, e1⟩ e
      obtain ⟨h1, h2, h3⟩ := h.hn lv q this
      exact ⟨(if_neg e).trans h1, (if_neg e).trans h2, (if_neg e).trans h3⟩
  · have e : ¬ (lv = 0 ∧ hpg S'.hp 0 q = none) := by
      rintro ⟨rfl, e⟩
      rw [hq] at e; cases e
    have : hpg S.hp lv q = some cn := by
      rcases k.hp lv q with e1 | ⟨rfl, e1⟩
      · rw [← e1]; exact hq
      · exact absurd ⟨rfl, e1⟩ e
    obtain ⟨b, s, cur, t, h1, h2, h3, h4, h5, h6⟩ := h.hs lv q cn this
    exact ⟨b, s, cur, t, (if_neg e).trans h1, (if_neg e).trans h2, h3, h4, h5, by
      have : own' (.h lv q) = own (.h lv q) := if_neg e
      rw [this]
      exact rc.drop hT _ _ _ (k.nh lv q cn hq) h6⟩
  · cases x with
    | t t => show (if _ then _ else _ : List Nat).Nodup; split; exact h.nd _; exact List.nodup_nil
    | h lv q => show (if _ then _ else _ : List Nat).Nodup; split; exact List.nodup_nil; exact h.nd _
    | l lv q => show (if _ then _ else _ : List Nat).Nodup; split; exact List.nodup_nil; exact h.nd _
  · exact if_neg (by simp)
theorem W.weak {c : Cx} {code : Code} {S S' : St} {Q : Exit → St → Prop} (k : Wk S S') (h : W c code S' Q) : W c code S Q := fun w F Θ own a hR => by
  obtain ⟨Θ1, own1, h1, h2⟩ := hR.weak k
  exact wp_mono (h w F Θ1 own1 a h1) fun _ _ _ ⟨S2, F2, Θ2, own2, k1, k2, k3⟩ => ⟨S2, F2, Θ2, own2, k1, k2, h2.trans k3⟩
/-- a row that the call has made is closed: it is a slice now -/
theorem Rel.freeze {w : World} {F : Nat → Nat} {Θ : Ty} {own : Who → List Nat} {S : St} {a : Act} (h : Rel w F Θ own S a) (t k n : Nat) (ht : S.tm t = .rw 0 k n) (es : List DD) (hk : hpg S.hp 0 k = some (.d (.st es))) (s : Sh) (hsp : 0 < s.w) (hes : DD.shs es = List.replicate n s)
    (S' : St) (hn : S'.n = S.n) (htm : ∀ u, u ≠ t → S'.tm u = S.tm u ∨ S'.tm u = .un) (ht' : S'.tm t = .d (.sl true s es)) (hhp : ∀ lv q, ¬ (lv = 0 ∧ q = k) → hpg S'.hp lv q = hpg S.hp lv q) (hk' : hpg S'.hp 0 k = none)
    (hnt : ∀ u, u ≠ t → (S'.tm u).npt (fun q => q = k)) (hnh : ∀ lv q cn, hpg S'.hp lv q = some cn → cn.npt (fun q => q = k)) : ∃ F' Θ' own', Rel w F' Θ' own' S' a ∧ Stp w F Θ own w F' Θ' own' := by
  classical
  obtain ⟨b, s0, cur, ty, z1, z2, z3, z4, z5, z6⟩ := h.hs 0 k _ hk
  have hvt := h.tm t
  rw [ht] at hvt
  simp only [rv] at hvt
  obtain ⟨ho, b', s1, y1, y2, y3, y4⟩ := hvt
  rw [z1] at y1
  simp only [Option.some.injEq, Prod.mk.injEq] at y1
  obtain ⟨rfl, rfl⟩ := y1
  simp only [AV.csh, DD.sh, Option.some.injEq, Sh.st.injEq] at z4
  rw [hes] at z4
  have hlen : es.length = n := by have := congrArg List.length hes; rwa [DD.shs_eq, List.length_map, List.length_replicate] at this
  have hall : ∀ d ∈ es, d.sh = s := fun d hd => by
    have : d.sh ∈ DD.shs es := by rw [DD.shs_eq]; exact List.mem_map_of_mem hd
    rw [hes] at this
    exact (List.mem_replicate.1 this).2
  simp only [rc, rp] at z6
  have hcl := rpS.length es _ _ z6
  rw [DD.shs_eq, Sh.ws_map es hall] at hcl
  have hs1 : n = 0 ∨ s1 = s := by
    cases n with
    | zero => exact .inl rfl
    | succ n => right; rw [List.replicate_succ, List.replicate_succ] at z4; exact (List.cons.inj z4).1.symm
  let F' := upd F b (es.length * s.w)
  have hks : Ks w F w F' (fun x => x = b) := by
    have e : w.setRow b cur = w := setRow_self w b cur ty (0, 0) z5
    have := ks_row (F := F) (n := es.length * s.w) (arr := cur) z5 (by omega) (fun _ _ => rfl)
    rwa [e] at this
  let Θ' : Ty := fun lv q => if lv = 0 ∧ q = k then none else Θ lv q
  have hT : ∀ lv q, ¬ (lv = 0 ∧ q = k) → Θ' lv q = Θ lv q := fun lv q hn => if_neg hn
  have hTT : ∀ lv q (x : Nat × Sh), Θ lv q = some x → Θ lv q = some x := fun _ _ _ q => q
  let own' : Who → List Nat := fun x => match x with
    | .t u => if u = t then (if s.w = 0 ∨ n = 0 then [] else b :: own (.h 0 k)) else if S'.tm u = S.tm u then own (.t u) else []
    | .h lv q => if lv = 0 ∧ q = k then [] else own (.h lv q)
    | .l lv q => if lv = 0 ∧ q = k then [] else own (.l lv q)
  have kp : ∀ x, x ≠ .l 0 k → Kp w F w F' (own x) := fun x hx => hks.kp (h.lt x) (fun q hq e => h.dj (.l 0 k) x (Ne.symm hx) q (by rw [z2, e]; simp) hq)
  have kp0 : Kp w F w F' [] := hks.kp (by simp) (by simp)
  have src : ∀ x y, y ∈ own' x → (x = .t t ∧ (y = b ∨ y ∈ own (.h 0 k))) ∨ (x ≠ .t t ∧ x ≠ .h 0 k ∧ x ≠ .l 0 k ∧ y ∈ own x) := by
    intro x y hy
    cases x with
    | t u =>
      simp only [own'] at hy
      split at hy
      · rename_i e; subst e
        split at hy
        · simp at hy
        · exact .inl ⟨rfl, by simpa using hy⟩
      · rename_i e
        split at hy
        · exact .inr ⟨by simpa using e, by simp, by simp, hy⟩
        · simp at hy
    | h lv q =>
      simp only [own'] at hy
      split at hy
      · simp at hy
      · rename_i e; exact .inr ⟨by simp, by simpa using e, by simp, hy⟩
    | l lv q =>
      simp only [own'] at hy
      split at hy
      · simp at hy
      · rename_i e; exact .inr ⟨by simp, by simp, by simpa using e, hy⟩
  have bh : b ∉ own (.h 0 k) := fun hb => h.dj (.l 0 k) (.h 0 k) (by simp) b (by rw [z2]; simp) hb
  refine ⟨F', Θ', own', ⟨h.n.trans hn.symm, h.df, fun u => ?_, fun lv q hq => ?_, fun lv q cn hq => ?_, fun x => ?_, fun x y hxy z hx hy => ?_, fun x z hz => ?_, fun z hz => ?_⟩, ⟨⟨rfl, rfl, rfl, Nat.le_refl _, hks.cell, hks.mono, fun z hz hne => hks.out z hz (fun e => hne ⟨.l 0 k, by rw [z2, e]; simp⟩)⟩, fun x z hz => ?_, fun lv q => if_neg (by simp)⟩⟩
  · by_cases hu : u = t
    · subst hu
      rw [ht']
      simp only [rv]
      refine ⟨[.slice (some ⟨b, 0, none⟩) es.length es.length], ?_, by rw [y2, hlen]; rfl⟩
      have hou : own' (.t u) = if s.w = 0 ∨ n = 0 then [] else b :: own (.h 0 k) := if_pos rfl
      rw [hou]
      have hsw : 0 < s.w ∨ n = 0 := by
        rcases hs1 with e | e
        · exact .inr e
        · subst e; exact .inl y3
      simp only [rp]
      refine ⟨hall, hsp, _, _, rfl, Nat.le_refl _, by omega, by simp, ?_⟩
      · by_cases hn0 : s.w = 0 ∨ n = 0
        · rw [if_pos hn0]
          left
          have : n = 0 := by rcases hn0 with e | e; rcases hsw with e2 | e2; omega; exact e2; exact e
          have hnil : es = [] := List.length_eq_zero_iff.1 (by omega)
          exact ⟨rfl, hnil, fun _ => by omega⟩
        · rw [if_neg hn0]
          right
          have hk0 : Kp w F w F' (own (.h 0 k)) := kp _ (by simp)
          refine ⟨b, 0, own (.h 0 k), rfl, rpS.toE es cur.toList 0 _ (rpS.keep es _ _ z6 hk0) (fun j u hu => ?_), by show _ ≤ upd F b _ b; rw [upd_self]; omega, .inr ⟨trivial, rfl, rfl, upd_self _ _ _, cur, ty, z5, by simp at hcl; omega⟩⟩
          rw [cell_of_row w b _ cur ty (0, 0) z5, Nat.zero_add]
          simpa using hu
    · have hnp := hnt u hu
      rcases htm u hu with e | e
      · have : own' (.t u) = own (.t u) := by show (if _ then _ else if _ then _ else _) = _; rw [if_neg hu, if_pos e]
        rw [this]
        rw [e] at hnp ⊢
        exact rv.drop hT _ _ _ hnp (rv.keep hTT _ _ _ (h.tm u) (kp _ (by simp)))
      · rw [e]
        by_cases e2 : S'.tm u = S.tm u
        · have : own' (.t u) = own (.t u) := by show (if _ then _ else if _ then _ else _) = _; rw [if_neg hu, if_pos e2]
          rw [this]
          have h3 := h.tm u
          rw [← e2, e] at h3
          simpa only [rv] using h3
        · have : own' (.t u) = [] := by show (if _ then _ else if _ then _ else _) = _; rw [if_neg hu, if_neg e2]
          rw [this]
          simp only [rv]
  · by_cases e : lv = 0 ∧ q = k
    · exact ⟨if_pos e, if_pos e, if_pos e⟩
    · rw [hhp lv q e] at hq
      obtain ⟨h1, h2, h3⟩ := h.hn lv q hq
      exact ⟨(if_neg e).trans h1, (if_neg e).trans h2, (if_neg e).trans h3⟩
  · have e : ¬ (lv = 0 ∧ q = k) := by
      rintro ⟨rfl, rfl⟩
      rw [hk'] at hq; cases hq
    have hnp := hnh lv q cn hq
    rw [hhp lv q e] at hq
    obtain ⟨b2, s2, cur2, t2, h1, h2, h3, h4, h5, h6⟩ := h.hs lv q cn hq
    have hne : b2 ≠ b := fun e2 => h.dj (.l lv q) (.l 0 k) (by simpa using e) b2 (by rw [h2]; simp) (by rw [z2, e2]; simp)
    refine ⟨b2, s2, cur2, t2, (if_neg e).trans h1, (if_neg e).trans h2, (upd_ne _ _ hne).trans h3, h4, h5, ?_⟩
    have : own' (.h lv q) = own (.h lv q) := if_neg e
    rw [this]
    exact rc.drop hT _ _ _ hnp (rc.keep hTT _ _ _ h6 (kp _ (by simp)))
  · cases x with
    | t u =>
      show (if _ then (if _ then _ else _) else if _ then _ else _ : List Nat).Nodup
      split
      · split
        · exact List.nodup_nil
        · exact List.nodup_cons.2 ⟨bh, h.nd _⟩
      · split
        · exact h.nd _
        · exact List.nodup_nil
    | h lv q => show (if _ then _ else _ : List Nat).Nodup; split; exact List.nodup_nil; exact h.nd _
    | l lv q => show (if _ then _ else _ : List Nat).Nodup; split; exact List.nodup_nil; exact h.nd _
  · rcases src x z hx with ⟨rfl, g⟩ | ⟨g1, g2, g3, g4⟩ <;> rcases src y z hy with ⟨rfl, k1⟩ | ⟨k1, k2, k3, k4⟩
    · exact hxy rfl
    · rcases g with rfl | g
      · exact h.dj (.l 0 k) y (Ne.symm k3) z (by rw [z2]; simp) k4
      · exact h.dj (.h 0 k) y (Ne.symm k2) z g k4
    · rcases k1 with rfl | k1
      · exact h.dj (.l 0 k) x (Ne.symm g3) z (by rw [z2]; simp) g4
      · exact h.dj (.h 0 k) x (Ne.symm g2) z k1 g4
    · exact h.dj x y hxy z g4 k4
  · rcases src x z hz with ⟨rfl, rfl | g⟩ | ⟨g1, g2, g3, g4⟩
    · exact h.lt (.l 0 k) z (by rw [z2]; simp)
    · exact h.lt _ z g
    · exact h.lt _ z g4
  · have hb : b < w.heap.size := h.lt (.l 0 k) b (by rw [z2]; simp)
    exact (upd_ne _ _ (by omega)).trans (h.top z hz)
  · left
    rcases src x z hz with ⟨rfl, rfl | g⟩ | ⟨g1, g2, g3, g4⟩
    · exact ⟨.l 0 k, by rw [z2]; simp⟩
    · exact ⟨_, g⟩
    · exact ⟨_, g4⟩
end Go.Proofs.YtkmiecgcibjkbaaGreat
