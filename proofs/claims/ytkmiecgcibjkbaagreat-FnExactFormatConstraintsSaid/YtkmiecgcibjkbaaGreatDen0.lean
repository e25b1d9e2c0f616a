/- Den0: values without memory (with marks of what is owned), and how they lie in a world. No condition. -/
import Derived.Test.YtkmiecgcibjkbaaGreatBase
namespace Go.Proofs.YtkmiecgcibjkbaaGreat
open Go.RowKit
/-- the shape of a value: one cell, or a struct -/
inductive Sh where
  | one
  | st (l : List Sh)
/-- a value: a leaf, a struct, a slice (o: whether the call may append to it and owns what lies in it; s: its elements' shape) -/
inductive DD where
  | lf (v : Value)
  | st (fs : List DD)
  | sl (o : Bool) (s : Sh) (es : List DD)
instance : Inhabited DD := ⟨.lf (.bool false)⟩
mutual
def Sh.w : Sh → Nat
  | .one => 1
  | .st l => Sh.ws l
def Sh.ws : List Sh → Nat
  | [] => 0
  | s :: l => s.w + Sh.ws l
end
mutual
def DD.sh : DD → Sh
  | .lf _ => .one
  | .sl _ _ _ => .one
  | .st fs => .st (DD.shs fs)
def DD.shs : List DD → List Sh
  | [] => []
  | d :: ds => d.sh :: DD.shs ds
end
mutual
def DD.vw : DD → DD
  | .lf v => .lf v
  | .sl _ s es => .sl false s (DD.vws es)
  | .st fs => .st (DD.vws fs)
def DD.vws : List DD → List DD
  | [] => []
  | d :: ds => d.vw :: DD.vws ds
end
theorem DD.shs_eq : ∀ l : List DD, DD.shs l = l.map DD.sh
  | [] => rfl
  | d :: l => by simp only [DD.shs, DD.shs_eq l, List.map_cons]
theorem DD.vws_eq : ∀ l : List DD, DD.vws l = l.map DD.vw
  | [] => rfl
  | d :: l => by simp only [DD.vws, DD.vws_eq l, List.map_cons]
mutual
theorem DD.sh_vw : ∀ d : DD, d.vw.sh = d.sh
  | .lf _ => rfl
  | .sl _ _ _ => by simp only [DD.vw, DD.sh]
  | .st fs => by simp only [DD.vw, DD.sh, DD.shs_vw fs]
theorem DD.shs_vw : ∀ l : List DD, DD.shs (DD.vws l) = DD.shs l
  | [] => rfl
  | d :: l => by simp only [DD.vws, DD.shs, DD.sh_vw d, DD.shs_vw l]
end
mutual
theorem DD.vw_vw : ∀ d : DD, d.vw.vw = d.vw
  | .lf _ => rfl
  | .sl _ _ es => by simp only [DD.vw, DD.vws_vws es]
  | .st fs => by simp only [DD.vw, DD.vws_vws fs]
theorem DD.vws_vws : ∀ l : List DD, DD.vws (DD.vws l) = DD.vws l
  | [] => rfl
  | d :: l => by simp only [DD.vws, DD.vw_vw d, DD.vws_vws l]
end
/-- the value as the machine holds it -/
def DD.mk : DD → List Value → Value
  | .st _, cs => .agg cs.toArray
  | _, cs => cs.headD undef
mutual
def rp (w : World) (F : Nat → Nat) : DD → List Value → List Nat → Prop
  | .lf v, cs, bs => cs = [v] ∧ okLeaf v ∧ bs = []
  | .st fs, cs, bs => rpS w F fs cs bs
  | .sl o s es, cs, bs => (∀ e ∈ es, e.sh = s) ∧ 0 < s.w ∧ ∃ a cap, cs = [.slice a es.length cap] ∧ es.length ≤ cap ∧ cap ≤ maxLen ∧ (a = none → cap = 0) ∧
      ((bs = [] ∧ es = [] ∧ (o = true → cap = 0)) ∨
       ∃ b off r, a = some ⟨b, off, none⟩ ∧ rpE w F es b off r ∧ off + es.length * s.w ≤ F b ∧
         ((o = false ∧ bs = [] ∧ r = []) ∨
          (o = true ∧ bs = b :: r ∧ off = 0 ∧ F b = es.length * s.w ∧ ∃ cur e, w.heap[b]? = some (.cells cur e (0, 0)) ∧ cap * s.w ≤ cur.size)))
def rpS (w : World) (F : Nat → Nat) : List DD → List Value → List Nat → Prop
  | [], cs, bs => cs = [] ∧ bs = []
  | d :: ds, cs, bs => ∃ c1 c2 b1 b2, cs = c1 ++ c2 ∧ bs = b1 ++ b2 ∧ rp w F d c1 b1 ∧ rpS w F ds c2 b2
def rpE (w : World) (F : Nat → Nat) : List DD → Nat → Nat → List Nat → Prop
  | [], _, _, bs => bs = []
  | d :: ds, b, off, bs => ∃ cs b1 b2, bs = b1 ++ b2 ∧ Cells w b off cs ∧ rp w F d cs b1 ∧ rpE w F ds b (off + d.sh.w) b2
end
theorem Sh.ws_map {s : Sh} : ∀ l : List DD, (∀ e ∈ l, e.sh = s) → Sh.ws (l.map DD.sh) = l.length * s.w
  | [], _ => by simp [Sh.ws]
  | d :: l, h => by
    rw [List.map_cons, Sh.ws, Sh.ws_map l (fun e he => h e (by simp [he])), h d (by simp), List.length_cons, Nat.add_mul]
    omega
mutual
theorem rp.length {w : World} {F : Nat → Nat} : ∀ (d : DD) (cs : List Value) (bs : List Nat), rp w F d cs bs → cs.length = d.sh.w
  | .lf v, cs, bs, h => by
    simp only [rp] at h
    rw [h.1]; simp [DD.sh, Sh.w]
  | .sl o s es, cs, bs, h => by
    simp only [rp] at h
    obtain ⟨-, -, a, cap, h, -⟩ := h
    rw [h]; simp [DD.sh, Sh.w]
  | .st fs, cs, bs, h => by
    simp only [rp] at h
    simp only [DD.sh, Sh.w]
    exact rpS.length fs cs bs h
theorem rpS.length {w : World} {F : Nat → Nat} : ∀ (l : List DD) (cs : List Value) (bs : List Nat), rpS w F l cs bs → cs.length = Sh.ws (DD.shs l)
  | [], cs, bs, h => by
    simp only [rpS] at h
    rw [h.1]; simp [DD.shs, Sh.ws]
  | d :: l, cs, bs, h => by
    simp only [rpS] at h
    obtain ⟨c1, c2, b1, b2, rfl, -, h1, h2⟩ := h
    rw [List.length_append, rp.length d c1 b1 h1, rpS.length l c2 b2 h2]; simp [DD.shs, Sh.ws]
end
/-- what is kept of a world: what is frozen, and what nobody may touch -/
structure Kp (w : World) (F : Nat → Nat) (w' : World) (F' : Nat → Nat) (bs : List Nat) : Prop where
  cell : ∀ b o, o < F b → w'.cell? ⟨b, o, none⟩ = w.cell? ⟨b, o, none⟩
  mono : ∀ b, F b ≤ F' b
  own : ∀ b ∈ bs, w'.heap[b]? = w.heap[b]? ∧ F' b = F b
theorem Kp.sub {w w' : World} {F F' : Nat → Nat} {bs cs : List Nat} (h : Kp w F w' F' bs) (hs : ∀ b ∈ cs, b ∈ bs) : Kp w F w' F' cs := ⟨h.cell, h.mono, fun b hb => h.own b (hs b hb)⟩
mutual
theorem rp.keep {w w' : World} {F F' : Nat → Nat} : ∀ (d : DD) (cs : List Value) (bs : List Nat), rp w F d cs bs → Kp w F w' F' bs → rp w' F' d cs bs
  | .lf v, cs, bs, h, _ => by simpa only [rp] using h
  | .st fs, cs, bs, h, k => by
    simp only [rp] at h ⊢
    exact rpS.keep fs cs bs h k
  | .sl o s es, cs, bs, h, k => by
    simp only [rp] at h ⊢
    obtain ⟨hs, hp, a, cap, h1, h2, h3, h4, h5⟩ := h
    refine ⟨hs, hp, a, cap, h1, h2, h3, h4, ?_⟩
    rcases h5 with h5 | ⟨b, off, r, ha, he, hf, h6⟩
    · exact .inl h5
    · have hw : off + Sh.ws (DD.shs es) ≤ F b := by rw [DD.shs_eq, Sh.ws_map es hs]; exact hf
      rcases h6 with ⟨ho, hb, hr⟩ | ⟨ho, hb, hoff, hF, cur, e, hh, hc⟩
      · subst hr
        exact .inr ⟨b, off, [], ha, rpE.keep es b off [] he hw (k.sub (by simp)), Nat.le_trans hf (k.mono b), .inl ⟨ho, hb, rfl⟩⟩
      · subst hb
        have hk := k.own b (by simp)
        exact .inr ⟨b, off, r, ha, rpE.keep es b off r he hw (k.sub (fun x hx => by simp [hx])), Nat.le_trans hf (k.mono b), .inr ⟨ho, rfl, hoff, hk.2.trans hF, cur, e, hk.1.trans hh, hc⟩⟩
theorem rpS.keep {w w' : World} {F F' : Nat → Nat} : ∀ (l : List DD) (cs : List Value) (bs : List Nat), rpS w F l cs bs → Kp w F w' F' bs → rpS w' F' l cs bs
  | [], cs, bs, h, _ => by simpa only [rpS] using h
  | d :: l, cs, bs, h, k => by
    simp only [rpS] at h ⊢
    obtain ⟨c1, c2, b1, b2, h1, h2, h3, h4⟩ := h
    subst h2
    exact ⟨c1, c2, b1, b2, h1, rfl, rp.keep d c1 b1 h3 (k.sub (fun x hx => by simp [hx])), rpS.keep l c2 b2 h4 (k.sub (fun x hx => by simp [hx]))⟩
theorem rpE.keep {w w' : World} {F F' : Nat → Nat} : ∀ (l : List DD) (b off : Nat) (bs : List Nat), rpE w F l b off bs → off + Sh.ws (DD.shs l) ≤ F b → Kp w F w' F' bs → rpE w' F' l b off bs
  | [], _, _, bs, h, _, _ => by simpa only [rpE] using h
  | d :: l, b, off, bs, h, hf, k => by
    simp only [rpE] at h ⊢
    simp only [DD.shs, Sh.ws] at hf
    obtain ⟨cs, b1, b2, h1, h2, h3, h4⟩ := h
    subst h1
    have hl := rp.length d cs b1 h3
    refine ⟨cs, b1, b2, rfl, ?_, rp.keep d cs b1 h3 (k.sub (fun x hx => by simp [hx])), rpE.keep l b _ b2 h4 (by omega) (k.sub (fun x hx => by simp [hx]))⟩
    intro j u hu
    have hj := (List.getElem?_eq_some_iff.1 hu).1
    rw [k.cell b _ (by omega)]
    exact h2 j u hu
end
mutual
theorem rp.view {w : World} {F : Nat → Nat} : ∀ (d : DD) (cs : List Value) (bs : List Nat), rp w F d cs bs → rp w F d.vw cs []
  | .lf v, cs, bs, h => by
    simp only [rp, DD.vw] at h ⊢
    exact ⟨h.1, h.2.1, trivial⟩
  | .st fs, cs, bs, h => by
    simp only [rp, DD.vw] at h ⊢
    exact rpS.view fs cs bs h
  | .sl o s es, cs, bs, h => by
    simp only [rp, DD.vw] at h ⊢
    obtain ⟨hs, hp, a, cap, h1, h2, h3, h4, h5⟩ := h
    have hl : (DD.vws es).length = es.length := by rw [DD.vws_eq, List.length_map]
    refine ⟨?_, hp, a, cap, by rw [hl]; exact h1, by rw [hl]; exact h2, h3, h4, ?_⟩
    · intro e he
      rw [DD.vws_eq] at he
      obtain ⟨x, hx, rfl⟩ := List.mem_map.1 he
      rw [DD.sh_vw]; exact hs x hx
    rcases h5 with ⟨-, h5, -⟩ | ⟨b, off, r, ha, he, hf, h6⟩
    · exact .inl ⟨trivial, by rw [h5]; rfl, by simp⟩
    · exact .inr ⟨b, off, [], ha, rpE.view es b off r he, by rw [hl]; exact hf, .inl ⟨trivial, trivial, rfl⟩⟩
theorem rpS.view {w : World} {F : Nat → Nat} : ∀ (l : List DD) (cs : List Value) (bs : List Nat), rpS w F l cs bs → rpS w F (DD.vws l) cs []
  | [], cs, bs, h => by
    simp only [rpS, DD.vws] at h ⊢
    exact ⟨h.1, trivial⟩
  | d :: l, cs, bs, h => by
    simp only [rpS, DD.vws] at h ⊢
    obtain ⟨c1, c2, b1, b2, h1, h2, h3, h4⟩ := h
    exact ⟨c1, c2, [], [], h1, rfl, rp.view d c1 b1 h3, rpS.view l c2 b2 h4⟩
theorem rpE.view {w : World} {F : Nat → Nat} : ∀ (l : List DD) (b off : Nat) (bs : List Nat), rpE w F l b off bs → rpE w F (DD.vws l) b off []
  | [], _, _, bs, h => by simp only [rpE, DD.vws]
  | d :: l, b, off, bs, h => by
    simp only [rpE, DD.vws] at h ⊢
    obtain ⟨cs, b1, b2, h1, h2, h3, h4⟩ := h
    exact ⟨cs, [], [], rfl, h2, rp.view d cs b1 h3, by rw [DD.sh_vw]; exact rpE.view l b _ b2 h4⟩
end
mutual
theorem rp.one {w : World} {F : Nat → Nat} : ∀ (d : DD) (cs : List Value) (bs : List Nat), rp w F d cs bs → ∀ u ∈ cs, u.oneCell' = true
  | .lf v, cs, bs, h => by
    simp only [rp] at h
    obtain ⟨rfl, h, -⟩ := h
    intro u hu
    simp only [List.mem_singleton] at hu
    subst hu
    cases u <;> first | rfl | exact h.elim
  | .st fs, cs, bs, h => by
    simp only [rp] at h
    exact rpS.one fs cs bs h
  | .sl o s es, cs, bs, h => by
    simp only [rp] at h
    obtain ⟨-, -, a, cap, rfl, -⟩ := h
    intro u hu
    simp only [List.mem_singleton] at hu
    subst hu
    rfl
theorem rpS.one {w : World} {F : Nat → Nat} : ∀ (l : List DD) (cs : List Value) (bs : List Nat), rpS w F l cs bs → ∀ u ∈ cs, u.oneCell' = true
  | [], cs, bs, h => by
    simp only [rpS] at h
    obtain ⟨rfl, -⟩ := h
    intro u hu
    simp at hu
  | d :: l, cs, bs, h => by
    simp only [rpS] at h
    obtain ⟨c1, c2, b1, b2, rfl, -, h1, h2⟩ := h
    intro u hu
    rcases List.mem_append.1 hu with hu | hu
    · exact rp.one d c1 b1 h1 u hu
    · exact rpS.one l c2 b2 h2 u hu
end
/-- an element of a row -/
theorem rpE.get {w : World} {F : Nat → Nat} {s : Sh} {b : Nat} : ∀ (l : List DD) (off : Nat) (bs : List Nat), (∀ e ∈ l, e.sh = s) → rpE w F l b off bs → ∀ (k : Nat) (d : DD), l[k]? = some d → ∃ cs bk, Cells w b (off + k * s.w) cs ∧ rp w F d cs bk ∧ ∀ x ∈ bk, x ∈ bs
  | [], _, _, _, _, k, d, hd => by simp at hd
  | e :: l, off, bs, hs, h, 0, d, hd => by
    simp only [List.getElem?_cons_zero, Option.some.injEq] at hd
    subst hd
    simp only [rpE] at h
    obtain ⟨cs, b1, b2, h1, h2, h3, -⟩ := h
    exact ⟨cs, b1, by simpa using h2, h3, fun x hx => by rw [h1]; simp [hx]⟩
  | e :: l, off, bs, hs, h, k + 1, d, hd => by
    simp only [List.getElem?_cons_succ] at hd
    simp only [rpE] at h
    obtain ⟨cs, b1, b2, h1, h2, h3, h4⟩ := h
    rw [hs e (by simp)] at h4
    obtain ⟨cs', bk, g1, g2, g3⟩ := rpE.get l (off + s.w) b2 (fun x hx => hs x (by simp [hx])) h4 k d hd
    refine ⟨cs', bk, ?_, g2, fun x hx => by rw [h1]; simp [g3 x hx]⟩
    rw [show off + (k + 1) * s.w = off + s.w + k * s.w by rw [Nat.add_mul]; omega]
    exact g1
/-- the cells of a row, and its elements as a list of trees -/
theorem rpE.toS {w : World} {F : Nat → Nat} {b : Nat} : ∀ (l : List DD) (off : Nat) (bs : List Nat), rpE w F l b off bs → ∃ xs, Cells w b off xs ∧ rpS w F l xs bs
  | [], off, bs, h => by
    simp only [rpE] at h
    exact ⟨[], fun j u hu => by simp at hu, by simp only [rpS]; exact ⟨trivial, h⟩⟩
  | d :: l, off, bs, h => by
    simp only [rpE] at h
    obtain ⟨cs, b1, b2, h1, h2, h3, h4⟩ := h
    obtain ⟨xs, g1, g2⟩ := rpE.toS l _ b2 h4
    refine ⟨cs ++ xs, ?_, by simp only [rpS]; exact ⟨cs, xs, b1, b2, rfl, h1, h3, g2⟩⟩
    intro j u hu
    by_cases hj : j < cs.length
    · rw [List.getElem?_append_left hj] at hu; exact h2 j u hu
    · rw [List.getElem?_append_right (by omega)] at hu
      have := g1 (j - cs.length) u hu
      rw [rp.length d cs b1 h3] at this
      rw [show off + j = off + d.sh.w + (j - d.sh.w) by have := rp.length d cs b1 h3; omega]
      exact this
theorem rpS.toE {w : World} {F : Nat → Nat} {b : Nat} : ∀ (l : List DD) (xs : List Value) (off : Nat) (bs : List Nat), rpS w F l xs bs → Cells w b off xs → rpE w F l b off bs
  | [], xs, off, bs, h, _ => by
    simp only [rpS] at h
    simp only [rpE]; exact h.2
  | d :: l, xs, off, bs, h, hc => by
    simp only [rpS] at h
    obtain ⟨c1, c2, b1, b2, rfl, h2, h3, h4⟩ := h
    simp only [rpE]
    refine ⟨c1, b1, b2, h2, fun j u hu => hc j u (by rw [List.getElem?_append_left (List.getElem?_eq_some_iff.1 hu).1]; exact hu), h3, rpS.toE l c2 _ b2 h4 ?_⟩
    intro j u hu
    have := hc (c1.length + j) u (by rw [List.getElem?_append_right (by omega)]; simpa using hu)
    rw [rp.length d c1 b1 h3] at this
    rw [show off + d.sh.w + j = off + (d.sh.w + j) by omega]
    exact this
theorem rpS.append {w : World} {F : Nat → Nat} : ∀ (l : List DD) (xs : List Value) (bs : List Nat) (m : List DD) (ys : List Value) (cs : List Nat), rpS w F l xs bs → rpS w F m ys cs → rpS w F (l ++ m) (xs ++ ys) (bs ++ cs)
  | [], xs, bs, m, ys, cs, h, k => by
    simp only [rpS] at h
    obtain ⟨rfl, rfl⟩ := h
    simpa using k
  | d :: l, xs, bs, m, ys, cs, h, k => by
    simp only [rpS] at h
    obtain ⟨c1, c2, b1, b2, rfl, rfl, h3, h4⟩ := h
    simp only [List.cons_append, rpS]
    exact ⟨c1, c2 ++ ys, b1, b2 ++ cs, by simp, by simp, h3, rpS.append l c2 b2 m ys cs h4 k⟩
end Go.Proofs.YtkmiecgcibjkbaaGreat
