/- Den1: the state of a call (temporaries and variables), and how it lies in a world; What start-up code has laid, of this program: block, cell, value (none: there is no such cell); Den2: a state and a world that belong together, and how the pair goes on. No condition but sizes. -/
import Derived.Test.YtdooklofebdknaaGreatM01
import Derived.Test.YtdooklofebdknaaGreatM06
namespace Go.Proofs.YtdooklofebdknaaGreat
open Go.RowKit
/-- what a temporary holds: nothing known, a value, the address of a variable (level, key, path), the address of a frozen value, a row that may be written, several results, a function, a frozen row of functions, the address of one of them, a slice that may be changed in place (with its block, once that is known), an address within such a block -/
inductive AV where
 | un
 | d (x : DD)
 | pt (lv k : Nat) (p : List Nat)
 | el (x : DD)
 | rw (lv k n : Nat)
 | tp (l : List AV)
 | fn (f : Nat) (c : List AV)
 | fr (l : List AV)
 | ep (a : AV)
 | ms (s : Sh) (es : List DD)
 | mb (b : Nat) (s : Sh) (es : List DD)
 | mp (b : Nat) (s : Sh) (i : Nat) (p : List Nat)
instance : Inhabited AV := ⟨.un⟩
mutual
def AV.vw : AV → AV
 | .un => .un
 | .d x => .d x.vw
 | .pt lv k p => .pt lv k p
 | .el x => .el x
 | .rw lv k n => .rw lv k n
 | .tp l => .tp (AV.vws l)
 | .fn f c => .fn f (AV.vws c)
 | .fr l => .fr (AV.vws l)
 | .ep a => .ep a.vw
 | .ms _ _ => .un
 | .mb _ _ _ => .un
 | .mp b s i p => .mp b s i p
def AV.vws : List AV → List AV
 | [] => []
 | a :: l => a.vw :: AV.vws l
end
mutual
def AV.up : AV → AV
 | .un => .un
 | .d x => .d x
 | .pt lv k p => .pt (lv + 1) k p
 | .el x => .el x
 | .rw lv k n => .rw (lv + 1) k n
 | .tp l => .tp (AV.ups l)
 | .fn f c => .fn f (AV.ups c)
 | .fr l => .fr (AV.ups l)
 | .ep a => .ep a.up
 | .ms s l => .ms s l
 | .mb b s l => .mb b s l
 | .mp b s i p => .mp b s i p
def AV.ups : List AV → List AV
 | [] => []
 | a :: l => a.up :: AV.ups l
end
mutual
def AV.dn : AV → AV
 | .un => .un
 | .d x => .d x
 | .pt lv k p => .pt (lv - 1) k p
 | .el x => .el x
 | .rw lv k n => .rw (lv - 1) k n
 | .tp l => .tp (AV.dns l)
 | .fn f c => .fn f (AV.dns c)
 | .fr l => .fr (AV.dns l)
 | .ep a => .ep a.dn
 | .ms s l => .ms s l
 | .mb b s l => .mb b s l
 | .mp b s i p => .mp b s i p
def AV.dns : List AV → List AV
 | [] => []
 | a :: l => a.dn :: AV.dns l
end
mutual
def AV.nz : AV → Prop
 | .un => True
 | .d _ => True
 | .pt lv _ _ => 0 < lv
 | .el _ => True
 | .rw lv _ _ => 0 < lv
 | .tp l => AV.nzs l
 | .fn _ c => AV.nzs c
 | .fr l => AV.nzs l
 | .ep a => a.nz
 | .ms _ _ => True
 | .mb _ _ _ => True
 | .mp _ _ _ _ => True
def AV.nzs : List AV → Prop
 | [] => True
 | a :: l => a.nz ∧ AV.nzs l
end
def offP : Sh → List Nat → Option Nat
 | _, [] => some 0
 | .one, _ :: _ => none
 | .st l, i :: p => match l[i]? with
  | some s => (offP s p).map (Sh.ws (l.take i) + ·)
  | none => none
def getP : DD → List Nat → DD
 | d, [] => d
 | .st fs, i :: p => getP (fs.getD i default) p
 | d, _ :: _ => d
def setP : DD → List Nat → DD → DD
 | _, [], x => x
 | .st fs, i :: p, x => .st (fs.set i (setP (fs.getD i default) p x))
 | d, _ :: _, _ => d
abbrev Ty := Nat → Nat → Option (Nat × Sh)
/-- a slice that may be changed in place: nothing of its row is frozen -/
def rms (w : World) (F : Nat → Nat) (s : Sh) (es : List DD) (v : Value) (bs : List Nat) : Prop := (∀ e ∈ es, e.sh = s) ∧ 0 < s.w ∧ ∃ a cap, v = .slice a es.length cap ∧ es.length ≤ cap ∧ cap ≤ maxLen ∧ (a = none → cap = 0) ∧
 ((bs = [] ∧ es = [] ∧ cap = 0) ∨ ∃ b r cur e, a = some ⟨b, 0, none⟩ ∧ bs = b :: r ∧ F b = 0 ∧ rpE w F es b 0 r ∧ w.heap[b]? = some (.cells cur e (0, 0)) ∧ cap * s.w ≤ cur.size)
theorem cell_same {w w' : World} {b : Nat} (h : w'.heap[b]? = w.heap[b]?) (o : Nat) : w'.cell? ⟨b, o, none⟩ = w.cell? ⟨b, o, none⟩ := by
 unfold World.cell?
 simp only [h]
/-- the elements of a row that stays as it is -/
theorem rpE.keepB {w w' : World} {F F' : Nat → Nat} {b : Nat} (hb : w'.heap[b]? = w.heap[b]?) : ∀ (l : List DD) (off : Nat) (bs : List Nat), rpE w F l b off bs → Kp w F w' F' bs → rpE w' F' l b off bs
 | [], _, bs, h, _ => by simpa only [rpE] using h
 | d :: l, off, bs, h, k => by
  simp only [rpE] at h ⊢
  obtain ⟨cs, b1, b2, h1, h2, h3, h4⟩ := h
  subst h1
  refine ⟨cs, b1, b2, rfl, fun j u hu => ?_, rp.keep d cs b1 h3 (k.sub (fun x hx => by simp [hx])), rpE.keepB hb l _ b2 h4 (k.sub (fun x hx => by simp [hx]))⟩
  rw [cell_same hb]; exact h2 j u hu
theorem rms.keep {w w' : World} {F F' : Nat → Nat} {s : Sh} {es : List DD} {v : Value} {bs : List Nat} (h : rms w F s es v bs) (k : Kp w F w' F' bs) : rms w' F' s es v bs := by
 obtain ⟨h0, h1, a, cap, h2, h3, h4, h5, h6⟩ := h
 refine ⟨h0, h1, a, cap, h2, h3, h4, h5, ?_⟩
 rcases h6 with h6 | ⟨b, r, cur, e, rfl, rfl, g1, g2, g3, g4⟩
 ·exact .inl h6
 ·have kb := k.own b (by simp)
  exact .inr ⟨b, r, cur, e, rfl, rfl, kb.2.trans g1, rpE.keepB kb.1 es 0 r g2 (k.sub (fun x hx => by simp [hx])), kb.1.trans g3, g4⟩
mutual
def rv (w : World) (F : Nat → Nat) (Θ : Ty) : AV → Value → List Nat → Prop
 | .un, _, bs => bs = []
 | .d x, v, bs => ∃ cs, rp w F x cs bs ∧ v = x.mk cs
 | .pt lv k p, v, bs => bs = [] ∧ ∃ b s off, Θ lv k = some (b, s) ∧ offP s p = some off ∧ v = .pointer (some ⟨b, off, none⟩)
 | .el x, v, bs => bs = [] ∧ ∃ b off cs, v = .pointer (some ⟨b, off, none⟩) ∧ Cells w b off cs ∧ rp w F x cs [] ∧ off + cs.length ≤ F b
 | .rw lv k n, v, bs => bs = [] ∧ ∃ b s, Θ lv k = some (b, .st (List.replicate n s)) ∧ v = .slice (some ⟨b, 0, none⟩) n n ∧ 0 < s.w ∧ n ≤ maxLen
 | .tp l, v, bs => ∃ vs, v = .tuple vs.toArray ∧ rvS w F Θ l vs bs
 | .fn f c, v, bs => ∃ vs, v = .func (.func f) #[] vs.toArray ∧ rvS w F Θ c vs bs
 | .fr l, v, bs => bs = [] ∧ ∃ b vs, v = .slice (some ⟨b, 0, none⟩) l.length l.length ∧ l.length ≤ maxLen ∧ Cells w b 0 vs ∧ rvS w F Θ l vs [] ∧ l.length ≤ F b
 | .ep a, v, bs => bs = [] ∧ ∃ b off u, v = .pointer (some ⟨b, off, none⟩) ∧ Cells w b off [u] ∧ rv w F Θ a u [] ∧ off < F b
 | .ms s es, v, bs => rms w F s es v bs
 | .mb b s es, v, bs => ∃ r, bs = b :: r ∧ rms w F s es v (b :: r)
 | .mp b s i p, v, bs => bs = [] ∧ ∃ off, offP s p = some off ∧ v = .pointer (some ⟨b, i * s.w + off, none⟩)
def rvS (w : World) (F : Nat → Nat) (Θ : Ty) : List AV → List Value → List Nat → Prop
 | [], vs, bs => vs = [] ∧ bs = []
 | a :: l, vs, bs => ∃ v r b1 b2, vs = v :: r ∧ bs = b1 ++ b2 ∧ rv w F Θ a v b1 ∧ rvS w F Θ l r b2
end
theorem rvS.length {w : World} {F : Nat → Nat} {Θ : Ty} : ∀ (l : List AV) (vs : List Value) (bs : List Nat), rvS w F Θ l vs bs → vs.length = l.length
 | [], vs, bs, h => by
  simp only [rvS] at h
  rw [h.1]; rfl
 | a :: l, vs, bs, h => by
  simp only [rvS] at h
  obtain ⟨v, r, b1, b2, rfl, -, -, h4⟩ := h
  simp [rvS.length l r b2 h4]
theorem AV.vws_length : ∀ l : List AV, (AV.vws l).length = l.length
 | [] => rfl
 | a :: l => by simp [AV.vws, AV.vws_length l]
theorem AV.ups_length : ∀ l : List AV, (AV.ups l).length = l.length
 | [] => rfl
 | a :: l => by simp [AV.ups, AV.ups_length l]
theorem AV.dns_length : ∀ l : List AV, (AV.dns l).length = l.length
 | [] => rfl
 | a :: l => by simp [AV.dns, AV.dns_length l]
mutual
theorem rv.keep {w w' : World} {F F' : Nat → Nat} {Θ Θ' : Ty} (hT : ∀ lv k x, Θ lv k = some x → Θ' lv k = some x) : ∀ (a : AV) (v : Value) (bs : List Nat), rv w F Θ a v bs → Kp w F w' F' bs → rv w' F' Θ' a v bs
 | .un, v, bs, h, _ => by simpa only [rv] using h
 | .d x, v, bs, h, k => by
  simp only [rv] at h ⊢
  obtain ⟨cs, h1, h2⟩ := h
  exact ⟨cs, rp.keep x cs bs h1 k, h2⟩
 | .pt lv k p, v, bs, h, _ => by
  simp only [rv] at h ⊢
  obtain ⟨h0, b, s, off, h1, h2⟩ := h
  exact ⟨h0, b, s, off, hT _ _ _ h1, h2⟩
 | .el x, v, bs, h, k => by
  simp only [rv] at h ⊢
  obtain ⟨h0, b, off, cs, h1, h2, h3, h4⟩ := h
  refine ⟨h0, b, off, cs, h1, ?_, rp.keep x cs [] h3 (k.sub (by simp)), Nat.le_trans h4 (k.mono b)⟩
  intro j u hu
  have hj := (List.getElem?_eq_some_iff.1 hu).1
  rw [k.cell b _ (by omega)]
  exact h2 j u hu
 | .rw lv k n, v, bs, h, _ => by
  simp only [rv] at h ⊢
  obtain ⟨h0, b, s, h1, h2⟩ := h
  exact ⟨h0, b, s, hT _ _ _ h1, h2⟩
 | .tp l, v, bs, h, k => by
  simp only [rv] at h ⊢
  obtain ⟨vs, h1, h2⟩ := h
  exact ⟨vs, h1, rvS.keep hT l vs bs h2 k⟩
 | .fn f c, v, bs, h, k => by
  simp only [rv] at h ⊢
  obtain ⟨vs, h1, h2⟩ := h
  exact ⟨vs, h1, rvS.keep hT c vs bs h2 k⟩
 | .fr l, v, bs, h, k => by
  simp only [rv] at h ⊢
  obtain ⟨h0, b, vs, h1, h2, h3, h4, h5⟩ := h
  refine ⟨h0, b, vs, h1, h2, ?_, rvS.keep hT l vs [] h4 (k.sub (by simp)), Nat.le_trans h5 (k.mono b)⟩
  have hl := rvS.length l vs [] h4
  intro j u hu
  have hj := (List.getElem?_eq_some_iff.1 hu).1
  rw [k.cell b _ (by omega)]
  exact h3 j u hu
 | .ep a, v, bs, h, k => by
  simp only [rv] at h ⊢
  obtain ⟨h0, b, off, u, h1, h2, h3, h4⟩ := h
  refine ⟨h0, b, off, u, h1, ?_, rv.keep hT a u [] h3 (k.sub (by simp)), Nat.lt_of_lt_of_le h4 (k.mono b)⟩
  intro j x hx
  have hj := (List.getElem?_eq_some_iff.1 hx).1
  simp only [List.length_singleton] at hj
  rw [k.cell b _ (by omega)]
  exact h2 j x hx
 | .ms s l, v, bs, h, k => by
  simp only [rv] at h ⊢
  exact h.keep k
 | .mb b s l, v, bs, h, k => by
  simp only [rv] at h ⊢
  obtain ⟨r, rfl, h2⟩ := h
  exact ⟨r, rfl, h2.keep k⟩
 | .mp _ _ _ _, v, bs, h, _ => by simpa only [rv] using h
theorem rvS.keep {w w' : World} {F F' : Nat → Nat} {Θ Θ' : Ty} (hT : ∀ lv k x, Θ lv k = some x → Θ' lv k = some x) : ∀ (l : List AV) (vs : List Value) (bs : List Nat), rvS w F Θ l vs bs → Kp w F w' F' bs → rvS w' F' Θ' l vs bs
 | [], vs, bs, h, _ => by simpa only [rvS] using h
 | a :: l, vs, bs, h, k => by
  simp only [rvS] at h ⊢
  obtain ⟨v, r, b1, b2, h1, h2, h3, h4⟩ := h
  subst h2
  exact ⟨v, r, b1, b2, h1, rfl, rv.keep hT a v b1 h3 (k.sub (fun x hx => by simp [hx])), rvS.keep hT l r b2 h4 (k.sub (fun x hx => by simp [hx]))⟩
end
theorem DD.mk_vw : ∀ (x : DD) (cs : List Value), x.vw.mk cs = x.mk cs
 | .lf _, _ => by simp only [DD.vw, DD.mk]
 | .sl _ _ _, _ => by simp only [DD.vw, DD.mk]
 | .st _, _ => by simp only [DD.vw, DD.mk]
mutual
theorem rv.view {w : World} {F : Nat → Nat} {Θ : Ty} : ∀ (a : AV) (v : Value) (bs : List Nat), rv w F Θ a v bs → rv w F Θ a.vw v []
 | .un, v, bs, _ => by simp only [rv, AV.vw]
 | .d x, v, bs, h => by
  simp only [rv, AV.vw] at h ⊢
  obtain ⟨cs, h1, h2⟩ := h
  exact ⟨cs, rp.view x cs bs h1, by rw [DD.mk_vw]; exact h2⟩
 | .pt lv k p, v, bs, h => by
  simp only [rv, AV.vw] at h ⊢
  exact ⟨trivial, h.2⟩
 | .el x, v, bs, h => by
  simp only [rv, AV.vw] at h ⊢
  exact ⟨trivial, h.2⟩
 | .rw lv k n, v, bs, h => by
  simp only [rv, AV.vw] at h ⊢
  exact ⟨trivial, h.2⟩
 | .tp l, v, bs, h => by
  simp only [rv, AV.vw] at h ⊢
  obtain ⟨vs, h1, h2⟩ := h
  exact ⟨vs, h1, rvS.view l vs bs h2⟩
 | .fn f c, v, bs, h => by
  simp only [rv, AV.vw] at h ⊢
  obtain ⟨vs, h1, h2⟩ := h
  exact ⟨vs, h1, rvS.view c vs bs h2⟩
 | .fr l, v, bs, h => by
  simp only [rv, AV.vw, AV.vws_length] at h ⊢
  obtain ⟨-, b, vs, h1, h2, h3, h4, h5⟩ := h
  exact ⟨trivial, b, vs, h1, h2, h3, rvS.view l vs [] h4, h5⟩
 | .ep a, v, bs, h => by
  simp only [rv, AV.vw] at h ⊢
  obtain ⟨-, b, off, u, h1, h2, h3, h4⟩ := h
  exact ⟨trivial, b, off, u, h1, h2, rv.view a u [] h3, h4⟩
 | .ms _ _, v, bs, _ => by simp only [rv, AV.vw]
 | .mb _ _ _, v, bs, _ => by simp only [rv, AV.vw]
 | .mp _ _ _ _, v, bs, h => by
  simp only [rv, AV.vw] at h ⊢
  exact ⟨trivial, h.2⟩
theorem rvS.view {w : World} {F : Nat → Nat} {Θ : Ty} : ∀ (l : List AV) (vs : List Value) (bs : List Nat), rvS w F Θ l vs bs → rvS w F Θ (AV.vws l) vs []
 | [], vs, bs, h => by
  simp only [rvS, AV.vws] at h ⊢
  exact ⟨h.1, trivial⟩
 | a :: l, vs, bs, h => by
  simp only [rvS, AV.vws] at h ⊢
  obtain ⟨v, r, b1, b2, h1, h2, h3, h4⟩ := h
  exact ⟨v, r, [], [], h1, rfl, rv.view a v b1 h3, rvS.view l r b2 h4⟩
end
def Ty.push (Θ : Ty) : Ty
 | 0, _ => none
 | lv + 1, k => Θ lv k
def Ty.pop (Θ : Ty) : Ty := fun lv k => Θ (lv + 1) k
mutual
theorem rv.push {w : World} {F : Nat → Nat} {Θ Θ' : Ty} (hT : ∀ lv k, Θ' (lv + 1) k = Θ lv k) : ∀ (a : AV) (v : Value) (bs : List Nat), rv w F Θ a v bs → rv w F Θ' a.up v bs
 | .un, v, bs, h => by simpa only [rv, AV.up] using h
 | .d x, v, bs, h => by simpa only [rv, AV.up] using h
 | .pt lv k p, v, bs, h => by simpa only [rv, AV.up, hT] using h
 | .el x, v, bs, h => by simpa only [rv, AV.up] using h
 | .rw lv k n, v, bs, h => by simpa only [rv, AV.up, hT] using h
 | .tp l, v, bs, h => by
  simp only [rv, AV.up] at h ⊢
  obtain ⟨vs, h1, h2⟩ := h
  exact ⟨vs, h1, rvS.push hT l vs bs h2⟩
 | .fn f c, v, bs, h => by
  simp only [rv, AV.up] at h ⊢
  obtain ⟨vs, h1, h2⟩ := h
  exact ⟨vs, h1, rvS.push hT c vs bs h2⟩
 | .fr l, v, bs, h => by
  simp only [rv, AV.up, AV.ups_length] at h ⊢
  obtain ⟨h0, b, vs, h1, h2, h3, h4, h5⟩ := h
  exact ⟨h0, b, vs, h1, h2, h3, rvS.push hT l vs [] h4, h5⟩
 | .ep a, v, bs, h => by
  simp only [rv, AV.up] at h ⊢
  obtain ⟨h0, b, off, u, h1, h2, h3, h4⟩ := h
  exact ⟨h0, b, off, u, h1, h2, rv.push hT a u [] h3, h4⟩
 | .ms s l, v, bs, h => by simpa only [rv, AV.up] using h
 | .mb b s l, v, bs, h => by simpa only [rv, AV.up] using h
 | .mp _ _ _ _, v, bs, h => by simpa only [rv, AV.up] using h
theorem rvS.push {w : World} {F : Nat → Nat} {Θ Θ' : Ty} (hT : ∀ lv k, Θ' (lv + 1) k = Θ lv k) : ∀ (l : List AV) (vs : List Value) (bs : List Nat), rvS w F Θ l vs bs → rvS w F Θ' (AV.ups l) vs bs
 | [], vs, bs, h => by simpa only [rvS, AV.ups] using h
 | a :: l, vs, bs, h => by
  simp only [rvS, AV.ups] at h ⊢
  obtain ⟨v, r, b1, b2, h1, h2, h3, h4⟩ := h
  exact ⟨v, r, b1, b2, h1, h2, rv.push hT a v b1 h3, rvS.push hT l r b2 h4⟩
end
mutual
theorem rv.pop {w : World} {F : Nat → Nat} {Θ Θ' : Ty} (hT : ∀ lv k, Θ' (lv + 1) k = Θ lv k) : ∀ (a : AV) (v : Value) (bs : List Nat), a.nz → rv w F Θ' a v bs → rv w F Θ a.dn v bs
 | .un, v, bs, _, h => by simpa only [rv, AV.dn] using h
 | .d x, v, bs, _, h => by simpa only [rv, AV.dn] using h
 | .pt (lv + 1) k p, v, bs, _, h => by simpa only [rv, AV.dn, hT, Nat.add_sub_cancel] using h
 | .pt 0 k p, v, bs, n, h => by simp only [AV.nz] at n; omega
 | .el x, v, bs, _, h => by simpa only [rv, AV.dn] using h
 | .rw (lv + 1) k n, v, bs, _, h => by simpa only [rv, AV.dn, hT, Nat.add_sub_cancel] using h
 | .rw 0 k _, v, bs, n, h => by simp only [AV.nz] at n; omega
 | .tp l, v, bs, n, h => by
  simp only [rv, AV.dn, AV.nz] at h n ⊢
  obtain ⟨vs, h1, h2⟩ := h
  exact ⟨vs, h1, rvS.pop hT l vs bs n h2⟩
 | .fn f c, v, bs, n, h => by
  simp only [rv, AV.dn, AV.nz] at h n ⊢
  obtain ⟨vs, h1, h2⟩ := h
  exact ⟨vs, h1, rvS.pop hT c vs bs n h2⟩
 | .fr l, v, bs, n, h => by
  simp only [rv, AV.dn, AV.nz, AV.dns_length] at h n ⊢
  obtain ⟨h0, b, vs, h1, h2, h3, h4, h5⟩ := h
  exact ⟨h0, b, vs, h1, h2, h3, rvS.pop hT l vs [] n h4, h5⟩
 | .ep a, v, bs, n, h => by
  simp only [rv, AV.dn, AV.nz] at h n ⊢
  obtain ⟨h0, b, off, u, h1, h2, h3, h4⟩ := h
  exact ⟨h0, b, off, u, h1, h2, rv.pop hT a u [] n h3, h4⟩
 | .ms s l, v, bs, _, h => by simpa only [rv, AV.dn] using h
 | .mb b s l, v, bs, _, h => by simpa only [rv, AV.dn] using h
 | .mp _ _ _ _, v, bs, _, h => by simpa only [rv, AV.dn] using h
theorem rvS.pop {w : World} {F : Nat → Nat} {Θ Θ' : Ty} (hT : ∀ lv k, Θ' (lv + 1) k = Θ lv k) : ∀ (l : List AV) (vs : List Value) (bs : List Nat), AV.nzs l → rvS w F Θ' l vs bs → rvS w F Θ (AV.dns l) vs bs
 | [], vs, bs, _, h => by simpa only [rvS, AV.dns] using h
 | a :: l, vs, bs, n, h => by
  simp only [rvS, AV.dns, AV.nzs] at h n ⊢
  obtain ⟨v, r, b1, b2, h1, h2, h3, h4⟩ := h
  exact ⟨v, r, b1, b2, h1, h2, rv.pop hT a v b1 n.1 h3, rvS.pop hT l r b2 n.2 h4⟩
end
/-- a field of a struct, and the struct with another field -/
theorem rpS.focus {w : World} {F : Nat → Nat} : ∀ (l : List DD) (cs : List Value) (bs : List Nat), rpS w F l cs bs → ∀ (i : Nat) (e : DD), l[i]? = some e →
  ∃ c1 ce c2 b1 be b2, cs = c1 ++ (ce ++ c2) ∧ bs = b1 ++ (be ++ b2) ∧ c1.length = Sh.ws ((DD.shs l).take i) ∧ rp w F e ce be ∧
   ∀ x cx bx, rp w F x cx bx → rpS w F (l.set i x) (c1 ++ (cx ++ c2)) (b1 ++ (bx ++ b2))
 | [], _, _, _, i, e, he => by simp at he
 | d :: l, cs, bs, h, 0, e, he => by
  simp only [List.getElem?_cons_zero, Option.some.injEq] at he
  subst he
  simp only [rpS] at h
  obtain ⟨c1, c2, b1, b2, rfl, rfl, h3, h4⟩ := h
  refine ⟨[], c1, c2, [], b1, b2, rfl, rfl, rfl, h3, fun x cx bx hx => ?_⟩
  simp only [List.set_cons_zero, rpS, List.nil_append]
  exact ⟨cx, c2, bx, b2, rfl, rfl, hx, h4⟩
 | d :: l, cs, bs, h, i + 1, e, he => by
  simp only [List.getElem?_cons_succ] at he
  simp only [rpS] at h
  obtain ⟨c1, c2, b1, b2, rfl, rfl, h3, h4⟩ := h
  obtain ⟨d1, de, d2, q1, qe, q2, rfl, rfl, g1, g2, g3⟩ := rpS.focus l c2 b2 h4 i e he
  refine ⟨c1 ++ d1, de, d2, b1 ++ q1, qe, q2, by simp, by simp, ?_, g2, fun x cx bx hx => ?_⟩
  ·simp only [DD.shs, List.take_succ_cons, Sh.ws, List.length_append, g1, rp.length d c1 b1 h3]
  ·simp only [List.set_cons_succ, rpS]
   exact ⟨c1, d1 ++ (cx ++ d2), b1, q1 ++ (bx ++ q2), by simp, by simp, h3, g3 x cx bx hx⟩
theorem shs_get {l : List DD} {i : Nat} {s : Sh} (h : (DD.shs l)[i]? = some s) : ∃ e, l[i]? = some e ∧ e.sh = s := by
 rw [DD.shs_eq, List.getElem?_map] at h
 cases hq : l[i]? with
 | none => rw [hq] at h; cases h
 | some e => rw [hq] at h; simp only [Option.map_some, Option.some.injEq] at h; exact ⟨e, rfl, h⟩
theorem shs_set {l : List DD} {i : Nat} {e x : DD} (h : l[i]? = some e) (hx : x.sh = e.sh) : DD.shs (l.set i x) = DD.shs l := by
 rw [DD.shs_eq, DD.shs_eq, List.map_set, hx]
 refine List.ext_getElem? fun j => ?_
 by_cases hj : i = j
 ·subst hj
  have := (List.getElem?_eq_some_iff.1 h).1
  rw [List.getElem?_set_self (by simpa using this), List.getElem?_map, h]; rfl
 ·rw [List.getElem?_set_ne hj]
/-- a part of a value, and the value with another part -/
theorem rp.focus {w : World} {F : Nat → Nat} : ∀ (p : List Nat) (d : DD) (cs : List Value) (bs : List Nat), rp w F d cs bs → ∀ off, offP d.sh p = some off →
  ∃ c1 ce c2 b1 be b2, cs = c1 ++ (ce ++ c2) ∧ bs = b1 ++ (be ++ b2) ∧ c1.length = off ∧ rp w F (getP d p) ce be ∧
   ∀ x cx bx, x.sh = (getP d p).sh → rp w F x cx bx → rp w F (setP d p x) (c1 ++ (cx ++ c2)) (b1 ++ (bx ++ b2)) ∧ (setP d p x).sh = d.sh
 | [], d, cs, bs, h, off, ho => by
  simp only [offP, Option.some.injEq] at ho
  subst ho
  exact ⟨[], cs, [], [], bs, [], by simp, by simp, rfl, by simpa only [getP] using h, fun x cx bx hs hx => ⟨by simpa only [setP, List.nil_append, List.append_nil] using hx, by simpa only [setP, getP] using hs⟩⟩
 | i :: p, .lf _, cs, bs, h, off, ho => by simp [DD.sh, offP] at ho
 | i :: p, .sl _ _ _, cs, bs, h, off, ho => by simp [DD.sh, offP] at ho
 | i :: p, .st l, cs, bs, h, off, ho => by
  simp only [DD.sh, offP] at ho
  cases hq : (DD.shs l)[i]? with
  | none => rw [hq] at ho; cases ho
  | some s =>
   rw [hq] at ho
   obtain ⟨e, he, hes⟩ := shs_get hq
   simp only [rp] at h
   obtain ⟨c1, ce, c2, b1, be, b2, rfl, rfl, g1, g2, g3⟩ := rpS.focus l cs bs h i e he
   subst hes
   cases hq2 : offP e.sh p with
   | none => simp [hq2] at ho
   | some o2 =>
    simp only [hq2, Option.map_some, Option.some.injEq] at ho
    obtain ⟨d1, de, d2, q1, qe, q2, rfl, rfl, k1, k2, k3⟩ := rp.focus p e ce be g2 o2 hq2
    have hg : l.getD i default = e := by rw [List.getD_eq_getElem?_getD, he]; rfl
    refine ⟨c1 ++ d1, de, d2 ++ c2, b1 ++ q1, qe, q2 ++ b2, by simp, by simp, by simp [g1, k1, ho], by simpa only [getP, hg] using k2, fun x cx bx hs hx => ?_⟩
    simp only [getP, hg] at hs
    obtain ⟨m1, m2⟩ := k3 x cx bx hs hx
    have := g3 _ _ _ m1
    refine ⟨?_, ?_⟩
    ·simp only [setP, hg, rp]
     simpa using this
    ·simp only [setP, hg, DD.sh, shs_set he m2]
def glb : List (Nat × Nat × Option Value) := []
abbrev HP := List (Nat → Option AV)
def upd {α : Type} (f : Nat → α) (k : Nat) (v : α) : Nat → α := fun t => bif t == k then v else f t
theorem upd_self {α : Type} (f : Nat → α) (k : Nat) (v : α) : upd f k v k = v := by simp [upd]
theorem upd_ne {α : Type} (f : Nat → α) {k t : Nat} (v : α) (h : t ≠ k) : upd f k v t = f t := by simp [upd, beq_eq_false_iff_ne.2 h]
structure St where
 n : Nat
 tm : Nat → AV
 hp : HP
def hpg : HP → Nat → Nat → Option AV
 | [], _, _ => none
 | f :: _, 0, k => f k
 | _ :: h, lv + 1, k => hpg h lv k
def hps : HP → Nat → Nat → Option AV → HP
 | [], _, _, _ => []
 | f :: h, 0, k, v => upd f k v :: h
 | f :: h, lv + 1, k, v => f :: hps h lv k v
theorem hpg_hps : ∀ (h : HP) (lv k : Nat) (v : Option AV) (lv' k' : Nat), hpg (hps h lv k v) lv' k' = if lv' = lv ∧ k' = k ∧ lv < h.length then v else hpg h lv' k'
 | [], lv, k, v, lv', k' => by simp [hps, hpg]
 | f :: h, 0, k, v, 0, k' => by
  by_cases hk : k' = k
  ·subst hk; simp [hps, hpg, upd]
  ·simp [hps, hpg, upd, hk, beq_eq_false_iff_ne.2 hk]
 | f :: h, 0, k, v, lv' + 1, k' => by simp [hps, hpg]
 | f :: h, lv + 1, k, v, 0, k' => by simp [hps, hpg]
 | f :: h, lv + 1, k, v, lv' + 1, k' => by
  simp only [hps, hpg, hpg_hps h lv k v lv' k', List.length_cons, Nat.add_lt_add_iff_right, Nat.add_right_cancel_iff]
theorem hpg_lt : ∀ (h : HP) (lv k : Nat) (v : AV), hpg h lv k = some v → lv < h.length
 | [], _, _, _, e => by simp [hpg] at e
 | _ :: _, 0, _, _, _ => by simp
 | _ :: h, lv + 1, k, v, e => by
  have := hpg_lt h lv k v e
  simp only [List.length_cons]; omega
def AV.csh : AV → Option Sh
 | .d x => some x.sh
 | .un => none
 | .tp _ => none
 | _ => some .one
/-- the cells of a variable -/
def rc (w : World) (F : Nat → Nat) (Θ : Ty) : AV → List Value → List Nat → Prop
 | .d x, cs, bs => rp w F x cs bs
 | .un, _, _ => False
 | .tp _, _, _ => False
 | c, cs, bs => ∃ v, cs = [v] ∧ v.oneCell' = true ∧ rv w F Θ c v bs
theorem rc.keep {w w' : World} {F F' : Nat → Nat} {Θ Θ' : Ty} (hT : ∀ lv k x, Θ lv k = some x → Θ' lv k = some x) (c : AV) (cs : List Value) (bs : List Nat) (h : rc w F Θ c cs bs) (k : Kp w F w' F' bs) : rc w' F' Θ' c cs bs := by
 cases c <;> simp only [rc] at h ⊢
 case d x => exact rp.keep _ _ _ h k
 all_goals
  obtain ⟨v, h1, h2, h3⟩ := h
  exact ⟨v, h1, h2, rv.keep hT _ _ _ h3 k⟩
/-- who owns: a temporary, what lies in a variable, the variable itself -/
inductive Who where
 | t (k : Nat)
 | h (lv k : Nat)
 | l (lv k : Nat)
 deriving DecidableEq
/-- what start-up code has laid and nobody changes: block, cell, value (the list glb of the text Glb) -/
def Gl (w : World) (F : Nat → Nat) : Prop := ∀ p ∈ glb, p.2.1 < F p.1 ∧ w.cell? ⟨p.1, p.2.1, none⟩ = p.2.2
structure Rel (w : World) (F : Nat → Nat) (Θ : Ty) (own : Who → List Nat) (S : St) (a : Act) : Prop where
 n : a.tmps.size = S.n
 df : a.defers = []
 tm : ∀ t, rv w F Θ (S.tm t) (a.tmps.getD t undef) (own (.t t))
 hn : ∀ lv k, hpg S.hp lv k = none → Θ lv k = none ∧ own (.h lv k) = [] ∧ own (.l lv k) = []
 hs : ∀ lv k c, hpg S.hp lv k = some c → ∃ b s cur t, Θ lv k = some (b, s) ∧ own (.l lv k) = [b] ∧ F b = 0 ∧ c.csh = some s ∧ w.heap[b]? = some (.cells cur t (0, 0)) ∧ rc w F Θ c cur.toList (own (.h lv k))
 nd : ∀ x, (own x).Nodup
 dj : ∀ x y, x ≠ y → ∀ b ∈ own x, b ∉ own y
 lt : ∀ x, ∀ b ∈ own x, b < w.heap.size
 top : ∀ b, w.heap.size ≤ b → F b = 0
 gl : Gl w F
structure Ks (w : World) (F : Nat → Nat) (w' : World) (F' : Nat → Nat) (E : Nat → Prop) : Prop where
 os : w'.os = w.os
 tape : w'.tape = w.tape
 output : w'.output = w.output
 size : w.heap.size ≤ w'.heap.size
 cell : ∀ b o, o < F b → w'.cell? ⟨b, o, none⟩ = w.cell? ⟨b, o, none⟩
 mono : ∀ b, F b ≤ F' b
 out : ∀ b, b < w.heap.size → ¬ E b → w'.heap[b]? = w.heap[b]? ∧ F' b = F b
structure Stp (w : World) (F : Nat → Nat) (Θ : Ty) (own : Who → List Nat) (w' : World) (F' : Nat → Nat) (Θ' : Ty) (own' : Who → List Nat) : Prop where
 ks : Ks w F w' F' (fun b => ∃ x, b ∈ own x)
 fr : ∀ x b, b ∈ own' x → (∃ y, b ∈ own y) ∨ w.heap.size ≤ b
 ty : ∀ lv k, Θ' (lv + 1) k = Θ (lv + 1) k
theorem Gl.ks {w w' : World} {F F' : Nat → Nat} {E : Nat → Prop} (h : Gl w F) (k : Ks w F w' F' E) : Gl w' F' := fun p hp => ⟨Nat.lt_of_lt_of_le (h p hp).1 (k.mono _), (k.cell _ _ (h p hp).1).trans (h p hp).2⟩
theorem Ks.refl (w : World) (F : Nat → Nat) (E : Nat → Prop) : Ks w F w F E := ⟨rfl, rfl, rfl, Nat.le_refl _, fun _ _ _ => rfl, fun _ => Nat.le_refl _, fun _ _ _ => ⟨rfl, rfl⟩⟩
theorem Ks.trans {w0 w1 w2 : World} {F0 F1 F2 : Nat → Nat} {E E1 : Nat → Prop} (h : Ks w0 F0 w1 F1 E) (k : Ks w1 F1 w2 F2 E1) (hE : ∀ b, E1 b → E b ∨ w0.heap.size ≤ b) : Ks w0 F0 w2 F2 E where
 os := k.os.trans h.os
 tape := k.tape.trans h.tape
 output := k.output.trans h.output
 size := Nat.le_trans h.size k.size
 cell := fun b o ho => (k.cell b o (Nat.lt_of_lt_of_le ho (h.mono b))).trans (h.cell b o ho)
 mono := fun b => Nat.le_trans (h.mono b) (k.mono b)
 out := fun b hb hn => by
  have h1 := h.out b hb hn
  have h2 := k.out b (Nat.lt_of_lt_of_le hb h.size) (fun q => by rcases hE b q with q | q; exact hn q; omega)
  exact ⟨h2.1.trans h1.1, h2.2.trans h1.2⟩
theorem Stp.refl (w : World) (F : Nat → Nat) (Θ : Ty) (own : Who → List Nat) : Stp w F Θ own w F Θ own := ⟨Ks.refl _ _ _, fun x _ hb => .inl ⟨x, hb⟩, fun _ _ => rfl⟩
theorem Stp.trans {w0 w1 w2 : World} {F0 F1 F2 : Nat → Nat} {T0 T1 T2 : Ty} {o0 o1 o2 : Who → List Nat} (h : Stp w0 F0 T0 o0 w1 F1 T1 o1) (k : Stp w1 F1 T1 o1 w2 F2 T2 o2) : Stp w0 F0 T0 o0 w2 F2 T2 o2 where
 ks := h.ks.trans k.ks (fun b ⟨x, hx⟩ => h.fr x b hx)
 fr := fun x b hb => by
  rcases k.fr x b hb with ⟨y, hy⟩ | hy
  ·exact h.fr y b hy
  ·exact .inr (Nat.le_trans h.ks.size hy)
 ty := fun lv q => (k.ty lv q).trans (h.ty lv q)
def clrs (tm : Nat → AV) : List Nat → Nat → AV
 | [] => tm
 | t :: ts => clrs (upd tm t (tm t).vw) ts
mutual
theorem AV.vw_vw : ∀ a : AV, a.vw.vw = a.vw
 | .un => rfl
 | .d x => by simp only [AV.vw, DD.vw_vw]
 | .pt _ _ _ => rfl
 | .el _ => rfl
 | .rw _ _ _ => rfl
 | .tp l => by simp only [AV.vw, AV.vws_vws l]
 | .fn _ c => by simp only [AV.vw, AV.vws_vws c]
 | .fr l => by simp only [AV.vw, AV.vws_vws l]
 | .ep a => by simp only [AV.vw, AV.vw_vw a]
 | .ms _ _ => rfl
 | .mb _ _ _ => rfl
 | .mp _ _ _ _ => rfl
theorem AV.vws_vws : ∀ l : List AV, AV.vws (AV.vws l) = AV.vws l
 | [] => rfl
 | a :: l => by simp only [AV.vws, AV.vw_vw a, AV.vws_vws l]
end
theorem clrs_get : ∀ (ts : List Nat) (tm : Nat → AV) (t : Nat), clrs tm ts t = if t ∈ ts then (tm t).vw else tm t
 | [], tm, t => by simp [clrs]
 | x :: ts, tm, t => by
  rw [clrs, clrs_get ts]
  by_cases hx : t = x
  ·subst hx
   simp only [upd_self, AV.vw_vw, List.mem_cons, true_or, if_true]
   split <;> rfl
  ·simp only [upd_ne _ _ hx, List.mem_cons, hx, false_or]
def putF (tm : Nat → AV) (d : Option Nat) (r : AV) : Nat → AV := match d with
 | some k => upd tm k r
 | none => tm
theorem size_put (a : Act) (d : Option Nat) (v : Value) : (a.put d v).tmps.size = a.tmps.size := by cases d <;> simp [Act.put]
theorem defers_put (a : Act) (d : Option Nat) (v : Value) : (a.put d v).defers = a.defers := by cases d <;> rfl
theorem getD_put (a : Act) (k t : Nat) (v : Value) (hk : k < a.tmps.size) : (a.put (some k) v).tmps.getD t undef = if t = k then v else a.tmps.getD t undef := by
 simp only [Act.put, Array.getD_eq_getD_getElem?, Array.getElem?_setIfInBounds]
 by_cases h : t = k
 ·subst h; simp [hk]
 ·simp [h, Ne.symm h]
/-- the general step: the result r owns bs; the temporaries ts have given away what they owned; all other owners are kept -/
theorem Rel.fin {w w' : World} {F F' : Nat → Nat} {Θ : Ty} {own : Who → List Nat} {S : St} {a : Act} (h : Rel w F Θ own S a) (d : Option Nat) (hd : ∀ k, d = some k → k < S.n) (ts : List Nat) (r : AV) (v : Value) (bs : List Nat)
  (hk : Ks w F w' F' (fun b => ∃ t ∈ ts, b ∈ own (.t t))) (htop : ∀ b, w'.heap.size ≤ b → F' b = 0)
  (hr : rv w' F' Θ r v bs) (hn : bs.Nodup) (hb : ∀ b ∈ bs, (∃ t ∈ ts, b ∈ own (.t t)) ∨ w.heap.size ≤ b) (hl : ∀ b ∈ bs, b < w'.heap.size) :
  ∃ own', Rel w' F' Θ own' ⟨S.n, putF (clrs S.tm ts) d r, S.hp⟩ (a.put d v) ∧ Stp w F Θ own w' F' Θ own' := by
 have kp0 : Kp w F w' F' [] := ⟨hk.cell, hk.mono, by simp⟩
 have kp : ∀ x, (∀ t ∈ ts, x ≠ .t t) → Kp w F w' F' (own x) := fun x hx => ⟨hk.cell, hk.mono, fun b hb => hk.out b (h.lt x b hb) (fun ⟨t, ht, hbt⟩ => h.dj x (.t t) (hx t ht) b hb hbt)⟩
 have hT : ∀ lv k (x : Nat × Sh), Θ lv k = some x → Θ lv k = some x := fun _ _ _ q => q
 let own' : Who → List Nat := fun x => if (∃ k, d = some k ∧ x = .t k) then bs else if (∃ t ∈ ts, x = .t t) then [] else own x
 have o1 : ∀ k, d = some k → own' (.t k) = bs := fun k hk => if_pos ⟨k, hk, rfl⟩
 have o2 : ∀ t, (∀ k, d = some k → t ≠ k) → t ∈ ts → own' (.t t) = [] := fun t hne ht => by
  show (if _ then _ else _) = _
  rw [if_neg (by rintro ⟨k, hk, e⟩; cases e; exact hne _ hk rfl), if_pos ⟨t, ht, rfl⟩]
 have o3 : ∀ t, (∀ k, d = some k → t ≠ k) → t ∉ ts → own' (.t t) = own (.t t) := fun t hne ht => by
  show (if _ then _ else _) = _
  rw [if_neg (by rintro ⟨k, hk, e⟩; cases e; exact hne _ hk rfl), if_neg (by rintro ⟨q, hq, e⟩; cases e; exact ht hq)]
 have o4 : ∀ lv k, own' (.h lv k) = own (.h lv k) := fun lv k => by
  show (if _ then _ else _) = _
  rw [if_neg (by rintro ⟨k, hk, e⟩; cases e), if_neg (by rintro ⟨q, hq, e⟩; cases e)]
 have o5 : ∀ lv k, own' (.l lv k) = own (.l lv k) := fun lv k => by
  show (if _ then _ else _) = _
  rw [if_neg (by rintro ⟨k, hk, e⟩; cases e), if_neg (by rintro ⟨q, hq, e⟩; cases e)]
 have o6 : ∀ x b, b ∈ own' x → (b ∈ bs ∧ ∃ k, d = some k ∧ x = .t k) ∨ (b ∈ own x ∧ ∀ t ∈ ts, x ≠ .t t) := fun x b hb => by
  have hb' : b ∈ (if (∃ k, d = some k ∧ x = .t k) then bs else if (∃ t ∈ ts, x = .t t) then [] else own x) := hb
  split at hb'
  ·rename_i hx; exact .inl ⟨hb', hx⟩
  ·split at hb'
   ·simp at hb'
   ·rename_i hx; exact .inr ⟨hb', fun t ht e => hx ⟨t, ht, e⟩⟩
 refine ⟨own', ⟨?_, ?_, ?_, ?_, ?_, ?_, ?_, ?_, htop, h.gl.ks hk⟩, ?_, ?_, fun _ _ => rfl⟩
 ·rw [size_put, h.n]
 ·rw [defers_put, h.df]
 ·intro t
  by_cases hdt : d = some t
  ·subst hdt
   have ht := hd t rfl
   rw [getD_put a t t v (by rw [h.n]; exact ht), if_pos rfl, o1 t rfl]
   simpa only [putF, upd_self] using hr
  ·have hne : ∀ k, d = some k → t ≠ k := fun k hk e => hdt (e ▸ hk)
   have e1 : putF (clrs S.tm ts) d r t = clrs S.tm ts t := by
    cases d with
    | none => rfl
    | some k => exact upd_ne _ _ (hne k rfl)
   have e2 : (a.put d v).tmps.getD t undef = a.tmps.getD t undef := by
    cases d with
    | none => rfl
    | some k => rw [getD_put a k t v (by rw [h.n]; exact hd k rfl), if_neg (hne k rfl)]
   show rv w' F' Θ (putF (clrs S.tm ts) d r t) _ _
   rw [e1, e2, clrs_get]
   by_cases ht : t ∈ ts
   ·rw [if_pos ht, o2 t hne ht]
    exact rv.keep hT _ _ _ (rv.view _ _ _ (h.tm t)) kp0
   ·rw [if_neg ht, o3 t hne ht]
    exact rv.keep hT _ _ _ (h.tm t) (kp _ (fun q hq e => by cases e; exact ht hq))
 ·intro lv k hq
  rw [o4, o5]
  exact h.hn lv k hq
 ·intro lv k c hq
  obtain ⟨b, s, cur, t, h1, h2, h3, h4, h5, h6⟩ := h.hs lv k c hq
  have kl := (kp (.l lv k) (fun _ _ e => by cases e)).own b (by rw [h2]; simp)
  refine ⟨b, s, cur, t, h1, (o5 lv k).trans h2, kl.2.trans h3, h4, kl.1.trans h5, ?_⟩
  rw [o4]
  exact rc.keep hT _ _ _ h6 (kp _ (fun _ _ e => by cases e))
 ·intro x
  show (if _ then _ else if _ then _ else _ : List Nat).Nodup
  split
  ·exact hn
  ·split
   ·exact List.nodup_nil
   ·exact h.nd x
 ·intro x y hxy b hbx hby
  rcases o6 x b hbx with ⟨h1, k, hk1, rfl⟩ | ⟨h1, h2⟩
  ·rcases o6 y b hby with ⟨g1, k2, hk2, rfl⟩ | ⟨g1, g2⟩
   ·rw [hk1] at hk2; cases hk2; exact hxy rfl
   ·rcases hb b h1 with ⟨t, ht, q⟩ | q
    ·exact h.dj y (.t t) (g2 t ht) b g1 q
    ·have := h.lt y b g1; omega
  ·rcases o6 y b hby with ⟨g1, k2, hk2, rfl⟩ | ⟨g1, g2⟩
   ·rcases hb b g1 with ⟨t, ht, q⟩ | q
    ·exact h.dj x (.t t) (h2 t ht) b h1 q
    ·have := h.lt x b h1; omega
   ·exact h.dj x y hxy b h1 g1
 ·intro x b hbx
  rcases o6 x b hbx with ⟨h1, -⟩ | ⟨h1, -⟩
  ·exact hl b h1
  ·exact Nat.lt_of_lt_of_le (h.lt x b h1) hk.size
 ·exact ⟨hk.os, hk.tape, hk.output, hk.size, hk.cell, hk.mono, fun b hb hne => hk.out b hb (fun ⟨t, _, hbt⟩ => hne ⟨.t t, hbt⟩)⟩
 ·intro x b hbx
  rcases o6 x b hbx with ⟨h1, -⟩ | ⟨h1, -⟩
  ·rcases hb b h1 with ⟨t, _, q⟩ | q
   ·exact .inl ⟨_, q⟩
   ·exact .inr q
  ·exact .inl ⟨_, h1⟩
/-- a step that leaves the world as it is -/
theorem Rel.pure {w : World} {F : Nat → Nat} {Θ : Ty} {own : Who → List Nat} {S : St} {a : Act} (h : Rel w F Θ own S a) (d : Option Nat) (hd : ∀ k, d = some k → k < S.n) (ts : List Nat) (hts : ts.Nodup) (r : AV) (v : Value)
  (hr : rv w F Θ r v (ts.flatMap fun t => own (.t t))) : ∃ own', Rel w F Θ own' ⟨S.n, putF (clrs S.tm ts) d r, S.hp⟩ (a.put d v) ∧ Stp w F Θ own w F Θ own' := by
 refine h.fin d hd ts r v _ (Ks.refl _ _ _) h.top hr ?_ (fun b hb => ?_) (fun b hb => ?_)
 ·refine List.pairwise_flatMap.2 ⟨fun t _ => h.nd _, ?_⟩
  refine List.Pairwise.imp (fun {x y} hxy b hb c hc e => ?_) hts
  subst e
  exact h.dj (.t x) (.t y) (fun e => hxy (by cases e; rfl)) b hb hc
 ·obtain ⟨t, ht, q⟩ := List.mem_flatMap.1 hb
  exact .inl ⟨t, ht, q⟩
 ·obtain ⟨t, ht, q⟩ := List.mem_flatMap.1 hb
  exact h.lt _ b q
end Go.Proofs.YtdooklofebdknaaGreat
