/- Base: trees of values, how they lie in memory, and what a call that only makes memory keeps. No condition but sizes. -/
import Derived.Test.YtdooklofebdknaaGreatProg
import Derived.JoinedTies
import Derived.KernelRfl
import Derived.Lib.Hide
import Derived.WalkKit
import GoSem.Claim
import GoSem.ClaimJoined
import GoSem.ClaimMapViews
namespace Go.Proofs.YtdooklofebdknaaGreat
open Go.RowKit
/-- A tree: a leaf of one cell that does not look into memory; a struct; a slice. -/
inductive D where
 | lf (v : Value)
 | st (fs : List D)
 | sl (es : List D)

def okLeaf : Value → Prop
 | .int k n => k.min ≤ n ∧ n ≤ k.max
 | .string s => s.size ≤ maxLen
 | .bool _ => True
 | _ => False

mutual
def D.width : D → Nat
 | .lf _ => 1
 | .sl _ => 1
 | .st fs => D.widths fs
def D.widths : List D → Nat
 | [] => 0
 | d :: ds => d.width + D.widths ds
end

/-- the cells 'cs' lie at block b from off on -/
def Cells (w : World) (b off : Nat) (cs : List Value) : Prop := ∀ (j : Nat) u, cs[j]? = some u → w.cell? ⟨b, off + j, none⟩ = some u

mutual
def Rep (w : World) (K : Nat → Prop) : D → List Value → Prop
 | .lf v, cs => cs = [v] ∧ okLeaf v
 | .st fs, cs => RepS w K fs cs
 | .sl es, cs => ∃ a cap, cs = [.slice a es.length cap] ∧ es.length ≤ cap ∧ cap ≤ maxLen ∧ (a = none → cap = 0) ∧
   (es = [] ∨ ∃ b off, a = some ⟨b, off, none⟩ ∧ K b ∧ RepE w K es b off)
def RepS (w : World) (K : Nat → Prop) : List D → List Value → Prop
 | [], cs => cs = []
 | d :: ds, cs => ∃ c1 c2, cs = c1 ++ c2 ∧ Rep w K d c1 ∧ RepS w K ds c2
def RepE (w : World) (K : Nat → Prop) : List D → Nat → Nat → Prop
 | [], _, _ => True
 | d :: ds, b, off => (∃ cs, Cells w b off cs ∧ Rep w K d cs) ∧ RepE w K ds b (off + d.width)
end

theorem Cells.mono {w w' : World} {b off : Nat} {cs : List Value} (h : w'.heap[b]? = w.heap[b]?) (hc : Cells w b off cs) : Cells w' b off cs := by
 intro j u hu
 rw [← hc j u hu]
 exact World.cell?_of_block (w := w) (a := ⟨b, off + j, none⟩) h

mutual
theorem Rep.mono {w w' : World} {K K' : Nat → Prop} (hK : ∀ b, K b → K' b) (hw : ∀ b, K b → w'.heap[b]? = w.heap[b]?) : ∀ (d : D) (cs : List Value), Rep w K d cs → Rep w' K' d cs
 | .lf v, cs, h => by simpa only [Rep] using h
 | .st fs, cs, h => by
  simp only [Rep] at h ⊢
  exact RepS.mono hK hw fs cs h
 | .sl es, cs, h => by
  simp only [Rep] at h ⊢
  obtain ⟨a, cap, h1, h2, h3, h4, h5⟩ := h
  refine ⟨a, cap, h1, h2, h3, h4, ?_⟩
  rcases h5 with h5 | ⟨b, off, ha, hb, he⟩
  ·exact .inl h5
  ·exact .inr ⟨b, off, ha, hK b hb, RepE.mono hK hw hb es off he⟩
theorem RepS.mono {w w' : World} {K K' : Nat → Prop} (hK : ∀ b, K b → K' b) (hw : ∀ b, K b → w'.heap[b]? = w.heap[b]?) : ∀ (ds : List D) (cs : List Value), RepS w K ds cs → RepS w' K' ds cs
 | [], cs, h => by simpa only [RepS] using h
 | d :: ds, cs, h => by
  simp only [RepS] at h ⊢
  obtain ⟨c1, c2, e, h1, h2⟩ := h
  exact ⟨c1, c2, e, Rep.mono hK hw d c1 h1, RepS.mono hK hw ds c2 h2⟩
theorem RepE.mono {w w' : World} {K K' : Nat → Prop} (hK : ∀ b, K b → K' b) (hw : ∀ b, K b → w'.heap[b]? = w.heap[b]?) {b : Nat} (hb : K b) : ∀ (ds : List D) (off : Nat), RepE w K ds b off → RepE w' K' ds b off
 | [], _, _ => trivial
 | d :: ds, off, h => by
  simp only [RepE] at h ⊢
  obtain ⟨⟨cs, hc, hr⟩, h2⟩ := h
  exact ⟨⟨cs, hc.mono (hw b hb), Rep.mono hK hw d cs hr⟩, RepE.mono hK hw hb ds _ h2⟩
end

mutual
theorem Rep.length {w : World} {K : Nat → Prop} : ∀ (d : D) (cs : List Value), Rep w K d cs → cs.length = d.width
 | .lf v, cs, h => by
  simp only [Rep] at h
  rw [h.1]; simp [D.width]
 | .st fs, cs, h => by
  simp only [Rep] at h
  simp only [D.width]
  exact RepS.length fs cs h
 | .sl es, cs, h => by
  simp only [Rep] at h
  obtain ⟨a, cap, h1, -⟩ := h
  rw [h1]; simp [D.width]
theorem RepS.length {w : World} {K : Nat → Prop} : ∀ (ds : List D) (cs : List Value), RepS w K ds cs → cs.length = D.widths ds
 | [], cs, h => by
  simp only [RepS] at h
  rw [h]; simp [D.widths]
 | d :: ds, cs, h => by
  simp only [RepS] at h
  obtain ⟨c1, c2, e, h1, h2⟩ := h
  rw [e, List.length_append, Rep.length d c1 h1, RepS.length ds c2 h2]; simp [D.widths]
end

theorem Rep.ext {w w' : World} {K : Nat → Prop} {B : Nat} {d : D} {cs : List Value} (hB : Below B w w') (hK : ∀ b, K b → b < B) (h : Rep w K d cs) : Rep w' K d cs :=
 Rep.mono (fun _ h => h) (fun b hb => hB.block b (hK b hb)) d cs h
theorem Cells.ext {w w' : World} {B b off : Nat} {cs : List Value} (hB : Below B w w') (hb : b < B) (h : Cells w b off cs) : Cells w' b off cs := h.mono (hB.block b hb)


def encI (n : Int) : D := .lf (.int .i64 n)
def encS (s : ByteArray) : D := .lf (.string s)
def encB (b : Bool) : D := .lf (.bool b)
/-- within int's range -/
def InR (n : Int) : Prop := IntKind.i64.min ≤ n ∧ n ≤ IntKind.i64.max
theorem encI_w (n : Int) : (encI n).width = 1 := by simp only [encI, D.width]
theorem encS_w (n : ByteArray) : (encS n).width = 1 := by simp only [encS, D.width]
theorem encB_w (n : Bool) : (encB n).width = 1 := by simp only [encB, D.width]

theorem repI {w : World} {K : Nat → Prop} {n : Int} (h : InR n) : Rep w K (encI n) [.int .i64 n] := by simp only [encI, Rep]; exact ⟨trivial, h⟩
theorem repS {w : World} {K : Nat → Prop} {s : ByteArray} (h : s.size ≤ maxLen) : Rep w K (encS s) [.string s] := by simp only [encS, Rep]; exact ⟨trivial, h⟩
theorem repB {w : World} {K : Nat → Prop} (b : Bool) : Rep w K (encB b) [.bool b] := by simp only [encB, Rep]; exact ⟨trivial, trivial⟩

def szL {α : Type} (f : α → Nat) : List α → Nat
 | [] => 0
 | x :: l => f x + szL f l
/-- how much a slice takes of the bound -/
def szs {α : Type} (f : α → Nat) (l : List α) : Nat := l.length + szL f l
theorem szL_zero {α : Type} : ∀ l : List α, szL (fun _ => 0) l = 0
 | [] => rfl
 | x :: l => by simp only [szL, szL_zero l]
theorem szL_le {α : Type} (f : α → Nat) {x : α} : ∀ {l : List α}, x ∈ l → f x ≤ szL f l
 | y :: l, h => by
  simp only [szL]
  rcases List.mem_cons.1 h with rfl | h
  ·omega
  ·have := szL_le f h; omega
/-- what is left of the bound -/
def szr (s : Nat) (left : Int) : Int := if (s : Int) ≤ left then left - s else -1
theorem szr_le {s : Nat} {left : Int} (h : (s : Int) ≤ left) : szr s left = left - s := if_pos h
theorem szr_gt {s : Nat} {left : Int} (h : ¬ (s : Int) ≤ left) : szr s left = -1 := if_neg h

theorem RepE.get {w : World} {K : Nat → Prop} {s b : Nat} : ∀ (es : List D) (off : Nat), (∀ d ∈ es, d.width = s) → RepE w K es b off →
  ∀ (k : Nat) (d : D), es[k]? = some d → ∃ cs, Cells w b (off + k * s) cs ∧ Rep w K d cs
 | [], _, _, _, k, d, hd => by simp at hd
 | e :: es, off, hw, h, 0, d, hd => by
  simp only [List.getElem?_cons_zero, Option.some.injEq] at hd
  subst hd
  simp only [RepE] at h
  simpa using h.1
 | e :: es, off, hw, h, k + 1, d, hd => by
  simp only [List.getElem?_cons_succ] at hd
  simp only [RepE] at h
  have he := hw e (by simp)
  have := RepE.get es (off + e.width) (fun d hd => hw d (by simp [hd])) h.2 k d hd
  rw [he] at this
  rw [show off + (k + 1) * s = off + s + k * s by rw [Nat.add_mul]; omega]
  exact this

/-- block b is a row of cells that may be written -/
def Free (w : World) (b : Nat) : Prop := ∃ cur e, w.heap[b]? = some (.cells cur e (0, 0))

mutual
/-- the cells cs are the tree d, each of whose slices lies in a block of its own: the blocks bs, in order -/
def Own (w : World) : D → List Value → List Nat → Prop
 | .lf v, cs, bs => cs = [v] ∧ okLeaf v ∧ bs = []
 | .st fs, cs, bs => OwnS w fs cs bs
 | .sl es, cs, bs => ∃ a cap, cs = [.slice a es.length cap] ∧ es.length ≤ cap ∧ cap ≤ maxLen ∧ (a = none → cap = 0) ∧
   ((es = [] ∧ bs = []) ∨ ∃ b off r, a = some ⟨b, off, none⟩ ∧ bs = b :: r ∧ Free w b ∧ OwnE w es b off r)
def OwnS (w : World) : List D → List Value → List Nat → Prop
 | [], cs, bs => cs = [] ∧ bs = []
 | d :: ds, cs, bs => ∃ c1 c2 b1 b2, cs = c1 ++ c2 ∧ bs = b1 ++ b2 ∧ Own w d c1 b1 ∧ OwnS w ds c2 b2
def OwnE (w : World) : List D → Nat → Nat → List Nat → Prop
 | [], _, _, bs => bs = []
 | d :: ds, b, off, bs => ∃ cs b1 b2, bs = b1 ++ b2 ∧ Cells w b off cs ∧ Own w d cs b1 ∧ OwnE w ds b (off + d.width) b2
end

mutual
theorem Own.rep {w : World} {K : Nat → Prop} : ∀ (d : D) (cs : List Value) (bs : List Nat), Own w d cs bs → (∀ b ∈ bs, K b) → Rep w K d cs
 | .lf v, cs, bs, h, _ => by
  simp only [Own] at h
  simp only [Rep]
  exact ⟨h.1, h.2.1⟩
 | .st fs, cs, bs, h, hk => by
  simp only [Own] at h
  simp only [Rep]
  exact OwnS.rep fs cs bs h hk
 | .sl es, cs, bs, h, hk => by
  simp only [Own] at h
  obtain ⟨a, cap, h1, h2, h3, h4, h5⟩ := h
  simp only [Rep]
  refine ⟨a, cap, h1, h2, h3, h4, ?_⟩
  rcases h5 with ⟨h5, -⟩ | ⟨b, off, r, ha, hb, -, he⟩
  ·exact .inl h5
  ·subst hb
   exact .inr ⟨b, off, ha, hk b (by simp), OwnE.rep es b off r he (fun x hx => hk x (by simp [hx]))⟩
theorem OwnS.rep {w : World} {K : Nat → Prop} : ∀ (ds : List D) (cs : List Value) (bs : List Nat), OwnS w ds cs bs → (∀ b ∈ bs, K b) → RepS w K ds cs
 | [], cs, bs, h, _ => by
  simp only [OwnS] at h
  simp only [RepS]
  exact h.1
 | d :: ds, cs, bs, h, hk => by
  simp only [OwnS] at h
  obtain ⟨c1, c2, b1, b2, h1, h2, h3, h4⟩ := h
  subst h2
  simp only [RepS]
  exact ⟨c1, c2, h1, Own.rep d c1 b1 h3 (fun b hb => hk b (by simp [hb])), OwnS.rep ds c2 b2 h4 (fun b hb => hk b (by simp [hb]))⟩
theorem OwnE.rep {w : World} {K : Nat → Prop} : ∀ (ds : List D) (b off : Nat) (bs : List Nat), OwnE w ds b off bs → (∀ b ∈ bs, K b) → RepE w K ds b off
 | [], _, _, _, _, _ => trivial
 | d :: ds, b, off, bs, h, hk => by
  simp only [OwnE] at h
  obtain ⟨cs, b1, b2, h1, h2, h3, h4⟩ := h
  subst h1
  simp only [RepE]
  exact ⟨⟨cs, h2, Own.rep d cs b1 h3 (fun b hb => hk b (by simp [hb]))⟩, OwnE.rep ds b _ b2 h4 (fun b hb => hk b (by simp [hb]))⟩
end

mutual
theorem Own.keep {w w' : World} : ∀ (d : D) (cs : List Value) (bs : List Nat), Own w d cs bs → (∀ b ∈ bs, w'.heap[b]? = w.heap[b]?) → Own w' d cs bs
 | .lf v, cs, bs, h, _ => by
  simp only [Own] at h ⊢
  exact h
 | .st fs, cs, bs, h, hk => by
  simp only [Own] at h ⊢
  exact OwnS.keep fs cs bs h hk
 | .sl es, cs, bs, h, hk => by
  simp only [Own] at h ⊢
  obtain ⟨a, cap, h1, h2, h3, h4, h5⟩ := h
  refine ⟨a, cap, h1, h2, h3, h4, ?_⟩
  rcases h5 with h5 | ⟨b, off, r, ha, hb, ⟨cur, e, hf⟩, he⟩
  ·exact .inl h5
  ·subst hb
   have e1 := hk b (by simp)
   exact .inr ⟨b, off, r, ha, rfl, ⟨cur, e, e1.trans hf⟩, OwnE.keep es b off r he (fun o _ => World.cell?_of_block (w := w) (a := ⟨b, o, none⟩) e1) (fun x hx => hk x (by simp [hx]))⟩
theorem OwnS.keep {w w' : World} : ∀ (ds : List D) (cs : List Value) (bs : List Nat), OwnS w ds cs bs → (∀ b ∈ bs, w'.heap[b]? = w.heap[b]?) → OwnS w' ds cs bs
 | [], cs, bs, h, _ => by
  simp only [OwnS] at h ⊢
  exact h
 | d :: ds, cs, bs, h, hk => by
  simp only [OwnS] at h ⊢
  obtain ⟨c1, c2, b1, b2, h1, h2, h3, h4⟩ := h
  subst h2
  exact ⟨c1, c2, b1, b2, h1, rfl, Own.keep d c1 b1 h3 (fun b hb => hk b (by simp [hb])), OwnS.keep ds c2 b2 h4 (fun b hb => hk b (by simp [hb]))⟩
/-- the row's own cells may have turned behind the last element -/
theorem OwnE.keep {w w' : World} : ∀ (ds : List D) (b off : Nat) (bs : List Nat), OwnE w ds b off bs → (∀ o, o < off + D.widths ds → w'.cell? ⟨b, o, none⟩ = w.cell? ⟨b, o, none⟩) → (∀ b ∈ bs, w'.heap[b]? = w.heap[b]?) → OwnE w' ds b off bs
 | [], _, _, _, h, _, _ => by
  simp only [OwnE] at h ⊢
  exact h
 | d :: ds, b, off, bs, h, hc, hk => by
  simp only [OwnE] at h ⊢
  simp only [D.widths] at hc
  obtain ⟨cs, b1, b2, h1, h2, h3, h4⟩ := h
  subst h1
  have hl := Rep.length (K := fun _ => True) d cs (Own.rep d cs b1 h3 (fun _ _ => trivial))
  refine ⟨cs, b1, b2, rfl, ?_, Own.keep d cs b1 h3 (fun b hb => hk b (by simp [hb])), OwnE.keep ds b _ b2 h4 (fun o ho => hc o (by omega)) (fun b hb => hk b (by simp [hb]))⟩
  intro j u hu
  have hj := (List.getElem?_eq_some_iff.1 hu).1
  rw [hc _ (by omega)]
  exact h2 j u hu
end

mutual
theorem Rep.one {w : World} {K : Nat → Prop} : ∀ (d : D) (cs : List Value), Rep w K d cs → ∀ u ∈ cs, u.oneCell' = true
 | .lf v, cs, h => by
  simp only [Rep] at h
  obtain ⟨rfl, h⟩ := h
  intro u hu
  simp only [List.mem_singleton] at hu
  subst hu
  cases u <;> first | rfl | exact h.elim
 | .st fs, cs, h => by
  simp only [Rep] at h
  exact RepS.one fs cs h
 | .sl es, cs, h => by
  simp only [Rep] at h
  obtain ⟨a, cap, rfl, -⟩ := h
  intro u hu
  simp only [List.mem_singleton] at hu
  subst hu
  rfl
theorem RepS.one {w : World} {K : Nat → Prop} : ∀ (ds : List D) (cs : List Value), RepS w K ds cs → ∀ u ∈ cs, u.oneCell' = true
 | [], cs, h => by
  simp only [RepS] at h
  subst h
  intro u hu
  simp at hu
 | d :: ds, cs, h => by
  simp only [RepS] at h
  obtain ⟨c1, c2, rfl, h1, h2⟩ := h
  intro u hu
  rcases List.mem_append.1 hu with hu | hu
  ·exact Rep.one d c1 h1 u hu
  ·exact RepS.one ds c2 h2 u hu
end
theorem widths_map {α : Type} {enc : α → D} {s : Nat} (hs : ∀ x, (enc x).width = s) : ∀ l : List α, D.widths (l.map enc) = l.length * s
 | [] => by simp [D.widths]
 | x :: l => by simp only [List.map_cons, D.widths, hs, widths_map hs l, List.length_cons, Nat.add_mul]; omega

/-- what a store into a free row leaves -/
structure Stored (w w' : World) (g off : Nat) (cs : List Value) : Prop where
 os : w'.os = w.os
 tape : w'.tape = w.tape
 output : w'.output = w.output
 size : w'.heap.size = w.heap.size
 other : ∀ b, b ≠ g → w'.heap[b]? = w.heap[b]?
 free : Free w' g
 shape : w'.shape? g = w.shape? g
 at_ : Cells w' g off cs
 lo : ∀ o, o < off → w'.cell? ⟨g, o, none⟩ = w.cell? ⟨g, o, none⟩
 hi : ∀ o, off + cs.length ≤ o → w'.cell? ⟨g, o, none⟩ = w.cell? ⟨g, o, none⟩

theorem Stored.below {w w' w0 : World} {g off B : Nat} {cs : List Value} (h : Stored w w' g off cs) (hB : Below B w0 w) (hg : B ≤ g) : Below B w0 w' :=
 hB.trans ⟨h.os, h.tape, h.output, by rw [h.size]; exact Nat.le_refl _, fun k hk => h.other k (by omega)⟩

theorem stored_setRow {w : World} {g off : Nat} {cs : List Value} {cur : Array Value} {t : TypeId} (hg : w.heap[g]? = some (.cells cur t (0, 0))) (hf : off + cs.length ≤ cur.size) :
  Stored w (w.setRow g (cur.toList.take off ++ cs ++ cur.toList.drop (off + cs.length)).toArray) g off cs := by
 have hh := setRow_heap w g cur (cur.toList.take off ++ cs ++ cur.toList.drop (off + cs.length)).toArray t (0, 0) hg
 have hl : (cur.toList.take off).length = off := by simp; omega
 have hc : ∀ o, (w.setRow g (cur.toList.take off ++ cs ++ cur.toList.drop (off + cs.length)).toArray).cell? ⟨g, o, none⟩ = (cur.toList.take off ++ cs ++ cur.toList.drop (off + cs.length))[o]? := by
  intro o; rw [cell_of_row _ g o _ t (0, 0) hh]; simp
 have hw : ∀ o, w.cell? ⟨g, o, none⟩ = cur.toList[o]? := by intro o; rw [cell_of_row w g o cur t (0, 0) hg]; simp
 refine ⟨rfl, rfl, rfl, by simp, fun b hb => setRow_other w g b _ hb, ⟨_, _, hh⟩, ?_, ?_, ?_, ?_⟩
 ·simp only [World.shape?, hh, hg]
  simp
  omega
 ·intro j u hu
  rw [hc, List.append_assoc, List.getElem?_append_right (by omega), hl, List.getElem?_append_left (by have := (List.getElem?_eq_some_iff.1 hu).1; omega)]
  rw [← hu]; congr 1; omega
 ·intro o ho
  rw [hc, hw, List.append_assoc, List.getElem?_append_left (by omega), List.getElem?_take]
  simp [ho]
 ·intro o ho
  rw [hc, hw, List.getElem?_append_right (by simp; omega), List.getElem?_drop]
  congr 1
  simp
  omega

/-- a struct is stored into a free row -/
theorem stA {P : Program} {w : World} {ops : Array Oper} {rest : List Oper} {o : Oper} {a : Act} {Q : Exit → Act → World → Prop} (hg : o.guard = none) (ty : TypeId) (x v : Operand) (ho : o.op = .store ty x v)
  (g off : Nat) (hx : a.eval x = .pointer (some ⟨g, off, none⟩)) (cs : List Value) (hv : a.eval v = .agg cs.toArray) (hi : (P.info? ty).map (·.size) = some cs.length) (h1 : ∀ u ∈ cs, u.oneCell' = true)
  (cur : Array Value) (t : TypeId) (hr : w.heap[g]? = some (.cells cur t (0, 0))) (hf : off + cs.length ≤ cur.size)
  (h : ∀ w', Stored w w' g off cs → wpList P ops Q rest (a.put o.dst undef) w') : wpList P ops Q (o :: rest) a w := by
 refine wpList_plain hg fun K hK => ?_
 have hst := run_storeCells_at P g off t cs 0 cur w hr (by simpa using hf) h1
 simp only [Nat.add_zero] at hst
 cases hq : P.info? ty with
 | none => simp [hq] at hi
 | some i =>
  have hs : i.size = cs.length := by simpa [hq] using hi
  have hsv : (storeVar ty ⟨g, off, none⟩ (.agg cs.toArray)).run P w = .ok () (w.setRow g (cur.toList.take off ++ cs ++ cur.toList.drop (off + cs.length)).toArray) := by
   simp [storeVar, Sem.run_bind, sizeOf, typeInfo, hq, hs, Value.cells, hst]
  unfold Oper.wp execOp
  simp only [ho, hx, hv, Instr.storeAt, Instr.sureAddr, Sem.run_bind, Sem.run_pure, Result.andThen_ok, hsv]
  exact hK _ _ (h _ (stored_setRow hr hf))
/-- block g is a row of N cells that may be written -/
def RowOf (w : World) (g E N : Nat) : Prop := ∃ cur, w.heap[g]? = some (.cells cur E (0, 0)) ∧ cur.size = N
theorem RowOf.below {w w' : World} {g E N B : Nat} (h : RowOf w g E N) (hB : Below B w w') (hg : g < B) : RowOf w' g E N := by
 obtain ⟨cur, h1, h2⟩ := h
 exact ⟨cur, (hB.block g hg).trans h1, h2⟩
theorem RowOf.free {w : World} {g E N : Nat} (h : RowOf w g E N) : Free w g := by
 obtain ⟨cur, h1, -⟩ := h
 exact ⟨cur, E, h1⟩
theorem RowOf.lt {w : World} {g E N : Nat} (h : RowOf w g E N) : g < w.heap.size := by
 obtain ⟨cur, h1, -⟩ := h
 exact (Array.getElem?_eq_some_iff.1 h1).1
/-- above block g the world is as it was -/
structure Up (g : Nat) (w w' : World) : Prop where
 size : w.heap.size ≤ w'.heap.size
 block : ∀ b, g < b → b < w.heap.size → w'.heap[b]? = w.heap[b]?
theorem Up.refl (g : Nat) (w : World) : Up g w w := ⟨Nat.le_refl _, fun _ _ _ => rfl⟩
theorem Up.below {g : Nat} {w w' w'' : World} (h : Up g w w') (hB : Below w'.heap.size w' w'') : Up g w w'' :=
 ⟨Nat.le_trans h.size hB.size, fun b hb hl => by rw [hB.block b (Nat.lt_of_lt_of_le hl h.size)]; exact h.block b hb hl⟩
theorem Up.own {g : Nat} {w w' : World} (h : Up g w w') {d : D} {cs : List Value} {bs : List Nat} {lo : Nat} (o : Own w d cs bs) (r : ∀ b ∈ bs, lo ≤ b ∧ b < w.heap.size) (hlo : g < lo) : Own w' d cs bs :=
 Own.keep _ _ _ o (fun b hb => h.block b (by have := (r b hb).1; omega) (r b hb).2)
theorem ba_ext {s t : ByteArray} (h : s.toList = t.toList) : s = t := by
 rw [Go.ByteArray.toList_eq, Go.ByteArray.toList_eq] at h
 cases s; cases t; simp at h; rw [h]
theorem bcell {B : Nat} {W w1 : World} (hb : Below B W w1) : (∀ b o, b < B → w1.cell? ⟨b, o, none⟩ = W.cell? ⟨b, o, none⟩) ∧ (∀ b o, b < B → w1.frozen? ⟨b, o, none⟩ = W.frozen? ⟨b, o, none⟩) :=
 ⟨fun b o h => hb.cell (p := ⟨b, o, none⟩) h, fun b o h => hb.frozen (p := ⟨b, o, none⟩) h⟩
/-- what a store into a row that is known to the letter leaves -/
structure Put (w w' : World) (g : Nat) (arr : Array Value) (t : TypeId) : Prop where
 os : w'.os = w.os
 tape : w'.tape = w.tape
 output : w'.output = w.output
 size : w'.heap.size = w.heap.size
 other : ∀ b, b ≠ g → w'.heap[b]? = w.heap[b]?
 row : w'.heap[g]? = some (.cells arr t (0, 0))
theorem Put.below {w w' w0 : World} {g B : Nat} {arr : Array Value} {t : TypeId} (h : Put w w' g arr t) (hB : Below B w0 w) (hg : B ≤ g) : Below B w0 w' :=
 hB.trans ⟨h.os, h.tape, h.output, by rw [h.size]; exact Nat.le_refl _, fun k hk => h.other k (by omega)⟩
theorem Up.put {g g' : Nat} {w w' w'' : World} {arr : Array Value} {t : TypeId} (h : Up g w w') (hp : Put w' w'' g' arr t) (hg : g' ≤ g) : Up g w w'' :=
 ⟨by rw [hp.size]; exact h.size, fun b hb hl => by rw [hp.other b (by omega)]; exact h.block b hb hl⟩
theorem alloc_at {w : World} {o : Obj} {b : Nat} (hb : b = w.heap.size) : (w.alloc o).heap[b]? = some o := by
 subst hb
 show (w.heap.push o)[w.heap.size]? = some o
 simp
theorem ret_int {k : IntKind} {a b : Int} (h : a = b) : Ending.returned (.int k a) = .returned (.int k b) := by rw [h]
/-- a struct is loaded from cells that are known as a list -/
theorem ld {P : Program} {w : World} {ops : Array Oper} {rest : List Oper} {o : Oper} {a : Act} {Q : Exit → Act → World → Prop} (hg : o.guard = none) (ty : TypeId) (x : Operand) (ho : o.op = .load ty x)
  (b off : Nat) (hx : a.eval x = .pointer (some ⟨b, off, none⟩)) (cs : List Value) (hc : Cells w b off cs) (fs : Array Field) (hu : P.underlying ty = some (.struct fs)) (hi : (P.info? ty).map (·.size) = some cs.length)
  (h : wpList P ops Q rest (a.put o.dst (.agg cs.toArray)) w) : wpList P ops Q (o :: rest) a w := by
 refine wpList_plain hg fun K hK => ?_
 have hl : (loadCells ⟨b, off, none⟩ cs.length).run P w = .ok cs.toArray w := by
  refine run_loadCells_list (P := P) w ⟨b, off, none⟩ cs (fun j v hv => ?_)
  rw [Addr.add_lit]
  exact hc j v hv
 cases hq : P.info? ty with
 | none => simp [hq] at hi
 | some i =>
  have hs : i.size = cs.length := by simpa [hq] using hi
  have hagg : (isAgg ty).run P w = .ok true w := by
   unfold isAgg
   rw [Sem.run_bind, run_underlying hu w]
   simp
  have hv : (loadVar ty ⟨b, off, none⟩).run P w = .ok (.agg cs.toArray) w := by
   simp [loadVar, Sem.run_bind, hagg, sizeOf, typeInfo, hq, hs, hl]
  unfold Oper.wp execOp
  simp only [ho, hx, Instr.loadAt, Instr.sureAddr, Sem.run_bind, Sem.run_pure, Result.andThen_ok, hv]
  exact hK _ _ h
end Go.Proofs.YtdooklofebdknaaGreat
