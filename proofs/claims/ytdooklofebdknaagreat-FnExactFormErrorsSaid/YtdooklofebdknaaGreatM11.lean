/- Den7: variables: made, read, written. No condition but sizes. -/
import Derived.Test.YtdooklofebdknaaGreatM10
namespace Go.Proofs.YtdooklofebdknaaGreat
open Go.RowKit
def tset (Θ : Ty) (k : Nat) (x : Nat × Sh) : Ty := fun lv q => if lv = 0 ∧ q = k then some x else Θ lv q
theorem ks_local {w : World} {F : Nat → Nat} {g : Nat} {cur arr : Array Value} {t : TypeId} (hg : w.heap[g]? = some (.cells cur t (0, 0))) (hn : F g = 0) : Ks w F (w.setRow g arr) F (fun b => b = g) := by
 have h := ks_row (F := F) (n := 0) (arr := arr) hg (by omega) (fun o ho => by omega)
 have e : upd F g 0 = F := by
  funext b
  by_cases hb : b = g
  ·subst hb; rw [upd_self, hn]
  ·rw [upd_ne _ _ hb]
 rwa [e] at h
theorem ks_alloc {w : World} {F : Nat → Nat} {o : Obj} (E : Nat → Prop) (ht : ∀ b, w.heap.size ≤ b → F b = 0) : Ks w F (w.alloc o) F E := by
 have h := ks_new (F := F) (o := o) (n := 0) E ht
 have e : upd F w.heap.size 0 = F := by
  funext b
  by_cases hb : b = w.heap.size
  ·subst hb; rw [upd_self, ht _ (Nat.le_refl _)]
  ·rw [upd_ne _ _ hb]
 rwa [e] at h
/-- a new variable of the call -/
theorem Rel.alloc {w : World} {F : Nat → Nat} {Θ : Ty} {own : Who → List Nat} {S : St} {a : Act} (h : Rel w F Θ own S a) (k : Nat) (hk : k < S.n) (hkn : hpg S.hp 0 k = none) (hne : 0 < S.hp.length) (ts : List Nat)
  (cn : AV) (cs : List Value) (bs : List Nat) (s : Sh) (T : TypeId) (hcs : cn.csh = some s) (hrc : rc w F Θ cn cs bs) (hn : bs.Nodup) (hb : ∀ b ∈ bs, ∃ t ∈ ts, b ∈ own (.t t)) (r : AV) (v : Value)
  (hr : rv (w.alloc (.cells cs.toArray T)) F (tset Θ k (w.heap.size, s)) r v []) :
  ∃ own', Rel (w.alloc (.cells cs.toArray T)) F (tset Θ k (w.heap.size, s)) own' ⟨S.n, upd (clrs S.tm ts) k r, hps S.hp 0 k (some cn)⟩ (a.put (some k) v) ∧ Stp w F Θ own (w.alloc (.cells cs.toArray T)) F (tset Θ k (w.heap.size, s)) own' := by
 have hks : Ks w F (w.alloc (.cells cs.toArray T)) F (fun _ => False) := ks_alloc _ h.top
 have kp : ∀ bs : List Nat, (∀ b ∈ bs, b < w.heap.size) → Kp w F (w.alloc (.cells cs.toArray T)) F bs := fun bs hl => hks.kp hl (by simp)
 have hT : ∀ lv q (x : Nat × Sh), Θ lv q = some x → tset Θ k (w.heap.size, s) lv q = some x := fun lv q x hx => by
  unfold tset
  rw [if_neg]; exact hx
  rintro ⟨rfl, rfl⟩
  rw [(h.hn 0 q hkn).1] at hx; cases hx
 have hbl : ∀ b ∈ bs, b < w.heap.size := fun b hq => by obtain ⟨t, _, q⟩ := hb b hq; exact h.lt _ b q
 let own' : Who → List Nat := fun x => if x = .h 0 k then bs else if x = .l 0 k then [w.heap.size] else if x = .t k then [] else if (∃ t ∈ ts, x = .t t) then [] else own x
 have o1 : own' (.h 0 k) = bs := if_pos rfl
 have o2 : own' (.l 0 k) = [w.heap.size] := by show (if _ then _ else if _ then _ else _) = _; rw [if_neg (by simp), if_pos rfl]
 have o3 : own' (.t k) = [] := by show (if _ then _ else if _ then _ else if _ then _ else _) = _; rw [if_neg (by simp), if_neg (by simp), if_pos rfl]
 have o4 : ∀ t, t ≠ k → t ∈ ts → own' (.t t) = [] := fun t ht hm => by
  show (if _ then _ else if _ then _ else if _ then _ else if _ then _ else _) = _
  rw [if_neg (by simp), if_neg (by simp), if_neg (by simpa using ht), if_pos ⟨t, hm, rfl⟩]
 have o5 : ∀ t, t ≠ k → t ∉ ts → own' (.t t) = own (.t t) := fun t ht hm => by
  show (if _ then _ else if _ then _ else if _ then _ else if _ then _ else _) = _
  rw [if_neg (by simp), if_neg (by simp), if_neg (by simpa using ht), if_neg (by rintro ⟨q, hq, e⟩; cases e; exact hm hq)]
 have o6 : ∀ lv q, ¬ (lv = 0 ∧ q = k) → own' (.h lv q) = own (.h lv q) ∧ own' (.l lv q) = own (.l lv q) := fun lv q hq => by
  refine ⟨?_, ?_⟩ <;>
  ·show (if _ then _ else if _ then _ else if _ then _ else if _ then _ else _) = _
   rw [if_neg (by first | (simp; done) | simpa using hq), if_neg (by first | (simp; done) | simpa using hq), if_neg (by simp), if_neg (by rintro ⟨q, hq, e⟩; cases e)]
 have o7 : ∀ x b, b ∈ own' x → (b ∈ bs ∧ x = .h 0 k) ∨ (b = w.heap.size ∧ x = .l 0 k) ∨ (b ∈ own x ∧ ∀ t ∈ ts, x ≠ .t t) := fun x b hx => by
  have hx' : b ∈ (if x = .h 0 k then bs else if x = .l 0 k then [w.heap.size] else if x = .t k then [] else if (∃ t ∈ ts, x = .t t) then [] else own x) := hx
  split at hx'
  ·exact .inl ⟨hx', ‹_›⟩
  ·split at hx'
   ·exact .inr (.inl ⟨by simpa using hx', ‹_›⟩)
   ·split at hx'
    ·simp at hx'
    ·split at hx'
     ·simp at hx'
     ·rename_i hq; exact .inr (.inr ⟨hx', fun t ht e => hq ⟨t, ht, e⟩⟩)
 have hga := hpg_hps S.hp 0 k (some cn)
 refine ⟨own', ⟨?_, ?_, ?_, ?_, ?_, ?_, ?_, ?_, ?_, h.gl.ks hks⟩, ?_, ?_, ?_⟩
 ·rw [size_put, h.n]
 ·rw [defers_put, h.df]
 ·intro t
  rw [getD_put a k t v (by rw [h.n]; exact hk)]
  show rv _ _ _ (upd (clrs S.tm ts) k r t) _ _
  by_cases ht : t = k
  ·subst ht
   rw [upd_self, if_pos rfl, o3]; exact hr
  ·rw [upd_ne _ _ ht, if_neg ht, clrs_get]
   by_cases hm : t ∈ ts
   ·rw [if_pos hm, o4 t ht hm]
    exact rv.keep hT _ _ _ (rv.view _ _ _ (h.tm t)) (kp _ (by simp))
   ·rw [if_neg hm, o5 t ht hm]
    exact rv.keep hT _ _ _ (h.tm t) (kp _ (h.lt _))
 ·intro lv q hq
  rw [hga] at hq
  split at hq
  ·cases hq
  ·rename_i hne2
   have hne3 : ¬ (lv = 0 ∧ q = k) := fun ⟨e1, e2⟩ => hne2 ⟨e1, e2, hne⟩
   have := h.hn lv q hq
   rw [(o6 lv q hne3).1, (o6 lv q hne3).2]
   refine ⟨?_, this.2⟩
   unfold tset; rw [if_neg hne3]; exact this.1
 ·intro lv q c hq
  rw [hga] at hq
  split at hq
  ·rename_i he
   obtain ⟨rfl, rfl, -⟩ := he
   cases hq
   refine ⟨w.heap.size, s, cs.toArray, T, ?_, o2, h.top _ (Nat.le_refl _), hcs, alloc_at rfl, ?_⟩
   ·unfold tset; rw [if_pos ⟨rfl, rfl⟩]
   ·rw [o1]
    exact rc.keep hT cn cs bs hrc (kp bs hbl)
  ·rename_i hne2
   have hne3 : ¬ (lv = 0 ∧ q = k) := fun ⟨e1, e2⟩ => hne2 ⟨e1, e2, hne⟩
   obtain ⟨b, s', cur, t, h1, h2, h3, h4, h5, h6⟩ := h.hs lv q c hq
   rw [(o6 lv q hne3).1, (o6 lv q hne3).2]
   refine ⟨b, s', cur, t, hT _ _ _ h1, h2, h3, h4, ?_, rc.keep hT c _ _ h6 (kp _ (h.lt _))⟩
   exact ((kp [b] (by intro x hx; simp at hx; subst hx; exact h.lt (.l lv q) _ (by rw [h2]; simp))).own b (by simp)).1.trans h5
 ·intro x
  show (if _ then _ else if _ then _ else if _ then _ else if _ then _ else _ : List Nat).Nodup
  split
  ·exact hn
  ·split
   ·simp
   ·split
    ·simp
    ·split
     ·simp
     ·exact h.nd x
 ·intro x y hxy b hbx hby
  have hlt : ∀ x, b ∈ own x → b < w.heap.size := fun x q => h.lt x b q
  rcases o7 x b hbx with ⟨h1, rfl⟩ | ⟨h1, rfl⟩ | ⟨h1, h2⟩ <;> rcases o7 y b hby with ⟨g1, rfl⟩ | ⟨g1, rfl⟩ | ⟨g1, g2⟩
  ·exact hxy rfl
  ·have := hbl b h1; omega
  ·obtain ⟨t, ht, q⟩ := hb b h1; exact h.dj y (.t t) (g2 t ht) b g1 q
  ·have := hbl b g1; omega
  ·exact hxy rfl
  ·have := hlt _ g1; omega
  ·obtain ⟨t, ht, q⟩ := hb b g1; exact h.dj x (.t t) (h2 t ht) b h1 q
  ·have := hlt _ h1; omega
  ·exact h.dj x y hxy b h1 g1
 ·intro x b hbx
  have hs1 : (w.alloc (.cells cs.toArray T)).heap.size = w.heap.size + 1 := by simp
  rw [hs1]
  rcases o7 x b hbx with ⟨h1, -⟩ | ⟨h1, -⟩ | ⟨h1, -⟩
  ·have := hbl b h1; omega
  ·omega
  ·have := h.lt x b h1; omega
 ·intro b hb2
  have hb3 : w.heap.size + 1 ≤ b := by simpa using hb2
  exact h.top b (by omega)
 ·exact ⟨hks.os, hks.tape, hks.output, hks.size, hks.cell, hks.mono, fun b hb _ => hks.out b hb (by simp)⟩
 ·intro x b hbx
  rcases o7 x b hbx with ⟨h1, -⟩ | ⟨h1, -⟩ | ⟨h1, -⟩
  ·obtain ⟨t, _, q⟩ := hb b h1; exact .inl ⟨_, q⟩
  ·exact .inr (by omega)
  ·exact .inl ⟨_, h1⟩
 ·intro lv q
  unfold tset; rw [if_neg (by simp)]
/-- what lies in a variable is replaced (its cells in w' : cs'); the temporaries ts have given away what they owned -/
theorem Rel.set {w w' : World} {F : Nat → Nat} {Θ : Ty} {own : Who → List Nat} {S : St} {a : Act} (h : Rel w F Θ own S a) (d : Option Nat) (hd : ∀ k, d = some k → k < S.n) (lv k : Nat) (cn cn' : AV) (hc : hpg S.hp lv k = some cn) (ts : List Nat) (b : Nat) (s : Sh) (hΘ : Θ lv k = some (b, s))
  (cs' : List Value) (T : TypeId) (bs bd : List Nat) (hcs : cn'.csh = some s) (hrc : rc w' F Θ cn' cs' bs) (hat : w'.heap[b]? = some (.cells cs'.toArray T (0, 0))) (hks : Ks w F w' F (fun x => x = b)) (hsz : w'.heap.size = w.heap.size)
  (r : AV) (v : Value) (hr : rv w' F Θ r v bd) (hn : (bs ++ bd).Nodup) (hb : ∀ x ∈ bs ++ bd, x ∈ own (.h lv k) ∨ ∃ t ∈ ts, x ∈ own (.t t)) :
  ∃ own', Rel w' F Θ own' ⟨S.n, putF (clrs S.tm ts) d r, hps S.hp lv k (some cn')⟩ (a.put d v) ∧ Stp w F Θ own w' F Θ own' := by
 obtain ⟨b0, s0, cur, t0, z1, z2, z3, z4, z5, z6⟩ := h.hs lv k cn hc
 rw [hΘ] at z1
 cases z1
 have hT : ∀ lv q (x : Nat × Sh), Θ lv q = some x → Θ lv q = some x := fun _ _ _ q => q
 have hbo : ∀ x, x ≠ .l lv k → b ∉ own x := fun x hx hb => h.dj (.l lv k) x (Ne.symm hx) b (by rw [z2]; simp) hb
 have kp : ∀ x, x ≠ .l lv k → Kp w F w' F (own x) := fun x hx => hks.kp (h.lt x) (fun q hq e => hbo x hx (e ▸ hq))
 have kp0 : Kp w F w' F [] := hks.kp (by simp) (by simp)
 let own' : Who → List Nat := fun x => if x = .h lv k then bs else if (∃ k, d = some k ∧ x = .t k) then bd else if (∃ t ∈ ts, x = .t t) then [] else own x
 have o1 : own' (.h lv k) = bs := if_pos rfl
 have o2 : ∀ t, d = some t → own' (.t t) = bd := fun t ht => by
  show (if _ then _ else if _ then _ else _) = _
  rw [if_neg (by simp), if_pos ⟨t, ht, rfl⟩]
 have o3 : ∀ t, d ≠ some t → t ∈ ts → own' (.t t) = [] := fun t ht hm => by
  show (if _ then _ else if _ then _ else if _ then _ else _) = _
  rw [if_neg (by simp), if_neg (by rintro ⟨q, hq, e⟩; cases e; exact ht hq), if_pos ⟨t, hm, rfl⟩]
 have o4 : ∀ t, d ≠ some t → t ∉ ts → own' (.t t) = own (.t t) := fun t ht hm => by
  show (if _ then _ else if _ then _ else if _ then _ else _) = _
  rw [if_neg (by simp), if_neg (by rintro ⟨q, hq, e⟩; cases e; exact ht hq), if_neg (by rintro ⟨q, hq, e⟩; cases e; exact hm hq)]
 have o5 : ∀ l q, ¬ (l = lv ∧ q = k) → own' (.h l q) = own (.h l q) := fun l q hne => by
  show (if _ then _ else if _ then _ else if _ then _ else _) = _
  rw [if_neg (by simpa using hne), if_neg (by rintro ⟨q, hq, e⟩; cases e), if_neg (by rintro ⟨q, hq, e⟩; cases e)]
 have o6 : ∀ l q, own' (.l l q) = own (.l l q) := fun l q => by
  show (if _ then _ else if _ then _ else if _ then _ else _) = _
  rw [if_neg (by simp), if_neg (by rintro ⟨q, hq, e⟩; cases e), if_neg (by rintro ⟨q, hq, e⟩; cases e)]
 have o7 : ∀ x y, y ∈ own' x → (y ∈ bs ∧ x = .h lv k) ∨ (y ∈ bd ∧ ∃ k, d = some k ∧ x = .t k) ∨ (y ∈ own x ∧ x ≠ .h lv k ∧ ∀ t ∈ ts, x ≠ .t t) := fun x y hx => by
  have hx' : y ∈ (if x = .h lv k then bs else if (∃ k, d = some k ∧ x = .t k) then bd else if (∃ t ∈ ts, x = .t t) then [] else own x) := hx
  split at hx'
  ·exact .inl ⟨hx', ‹_›⟩
  ·split at hx'
   ·exact .inr (.inl ⟨hx', ‹_›⟩)
   ·split at hx'
    ·simp at hx'
    ·rename_i h1 _ hq; exact .inr (.inr ⟨hx', h1, fun t ht e => hq ⟨t, ht, e⟩⟩)
 have hnb := List.nodup_append.1 hn
 have src : ∀ y, y ∈ bs ++ bd → ∀ x, y ∈ own x → x ≠ .h lv k → (∀ t ∈ ts, x ≠ .t t) → False := fun y hy x hx h1 h2 => by
  rcases hb y hy with q | ⟨t, ht, q⟩
  ·exact h.dj x (.h lv k) h1 y hx q
  ·exact h.dj x (.t t) (h2 t ht) y hx q
 have hga := hpg_hps S.hp lv k (some cn')
 have hlv := hpg_lt S.hp lv k cn hc
 refine ⟨own', ⟨?_, ?_, ?_, ?_, ?_, ?_, ?_, ?_, ?_, h.gl.ks hks⟩, ?_, ?_, fun _ _ => rfl⟩
 ·rw [size_put, h.n]
 ·rw [defers_put, h.df]
 ·intro t
  show rv w' F Θ (putF (clrs S.tm ts) d r t) _ _
  by_cases hdt : d = some t
  ·subst hdt
   rw [getD_put a t t v (by rw [h.n]; exact hd t rfl), if_pos rfl, o2 t rfl]
   simpa only [putF, upd_self] using hr
  ·have e1 : putF (clrs S.tm ts) d r t = clrs S.tm ts t := by
    cases d with
    | none => rfl
    | some q => exact upd_ne _ _ (fun e => hdt (by rw [e]))
   have e2 : (a.put d v).tmps.getD t undef = a.tmps.getD t undef := by
    cases d with
    | none => rfl
    | some q => rw [getD_put a q t v (by rw [h.n]; exact hd q rfl), if_neg (fun e => hdt (by rw [e]))]
   rw [e1, e2, clrs_get]
   by_cases hm : t ∈ ts
   ·rw [if_pos hm, o3 t hdt hm]
    exact rv.keep hT _ _ _ (rv.view _ _ _ (h.tm t)) kp0
   ·rw [if_neg hm, o4 t hdt hm]
    exact rv.keep hT _ _ _ (h.tm t) (kp _ (by simp))
 ·intro l q hq
  rw [hga] at hq
  split at hq
  ·cases hq
  ·rename_i hne2
   have hne3 : ¬ (l = lv ∧ q = k) := fun ⟨e1, e2⟩ => hne2 ⟨e1, e2, hlv⟩
   rw [o5 l q hne3, o6]
   exact h.hn l q hq
 ·intro l q c hq
  rw [hga] at hq
  split at hq
  ·rename_i he
   obtain ⟨rfl, rfl, -⟩ := he
   cases hq
   exact ⟨b, s, cs'.toArray, T, hΘ, (o6 _ _).trans z2, z3, hcs, hat, by rw [o1]; exact hrc⟩
  ·rename_i hne2
   have hne3 : ¬ (l = lv ∧ q = k) := fun ⟨e1, e2⟩ => hne2 ⟨e1, e2, hlv⟩
   obtain ⟨b', s', cur', t', h1, h2, h3, h4, h5, h6⟩ := h.hs l q c hq
   rw [o5 l q hne3, o6]
   have hlk : Who.l l q ≠ .l lv k := fun e => by cases e; exact hne3 ⟨rfl, rfl⟩
   refine ⟨b', s', cur', t', h1, h2, h3, h4, ?_, rc.keep hT c _ _ h6 (kp _ (by simp))⟩
   exact ((kp _ hlk).own b' (by rw [h2]; simp)).1.trans h5
 ·intro x
  show (if _ then _ else if _ then _ else if _ then _ else _ : List Nat).Nodup
  split
  ·exact hnb.1
  ·split
   ·exact hnb.2.1
   ·split
    ·simp
    ·exact h.nd x
 ·intro x y hxy z hzx hzy
  rcases o7 x z hzx with ⟨h1, rfl⟩ | ⟨h1, p, hp, rfl⟩ | ⟨h1, h2, h3⟩ <;> rcases o7 y z hzy with ⟨g1, rfl⟩ | ⟨g1, p2, hp2, rfl⟩ | ⟨g1, g2, g3⟩
  ·exact hxy rfl
  ·exact hnb.2.2 z h1 z g1 rfl
  ·exact src z (by simp [h1]) y g1 g2 g3
  ·exact hnb.2.2 z g1 z h1 rfl
  ·rw [hp] at hp2; cases hp2; exact hxy rfl
  ·exact src z (by simp [h1]) y g1 g2 g3
  ·exact src z (by simp [g1]) x h1 h2 h3
  ·exact src z (by simp [g1]) x h1 h2 h3
  ·exact h.dj x y hxy z h1 g1
 ·intro x z hz
  rw [hsz]
  have all : ∀ z ∈ bs ++ bd, z < w.heap.size := fun z hz => by
   rcases hb z hz with q | ⟨t, ht, q⟩
   ·exact h.lt _ z q
   ·exact h.lt _ z q
  rcases o7 x z hz with ⟨h1, -⟩ | ⟨h1, -⟩ | ⟨h1, -⟩
  ·exact all z (by simp [h1])
  ·exact all z (by simp [h1])
  ·exact h.lt x z h1
 ·intro x hx
  exact h.top x (by rw [hsz] at hx; exact hx)
 ·exact ⟨hks.os, hks.tape, hks.output, hks.size, hks.cell, hks.mono, fun x hx hne => hks.out x hx (fun e => hne ⟨.l lv k, by rw [z2, e]; simp⟩)⟩
 ·intro x z hz
  left
  rcases o7 x z hz with ⟨h1, -⟩ | ⟨h1, -⟩ | ⟨h1, -⟩
  ·rcases hb z (by simp [h1]) with q | ⟨t, ht, q⟩
   ·exact ⟨_, q⟩
   ·exact ⟨_, q⟩
  ·rcases hb z (by simp [h1]) with q | ⟨t, ht, q⟩
   ·exact ⟨_, q⟩
   ·exact ⟨_, q⟩
  ·exact ⟨_, h1⟩
end Go.Proofs.YtdooklofebdknaaGreat
