/- Memory in intervals of blocks: what is owned lies in an interval, each step turns one interval at most. The steps of a walk, with worlds as names. No condition. -/
import Derived.Test.YtkmiecgcibjkbaaGreatGrow
import Derived.Test.YtkmiecgcibjkbaaGreatReg2
import Derived.Test.YtkmiecgcibjkbaaGreatEv
import Derived.Laws.OwnMore
namespace Go.Proofs.YtkmiecgcibjkbaaGreat
open Go.RowKit
/-- a variable of its own: its cells -/
def Bx (w : World) (p : Nat) (cs : List Value) (T : TypeId) : Prop := w.heap[p]? = some (.cells cs.toArray T (0, 0))
theorem Bx.lt {w : World} {p : Nat} {cs : List Value} {T : TypeId} (h : Bx w p cs T) : p < w.heap.size := row_lt h
theorem Bx.ch {w w' : World} {p lo hi : Nat} {cs : List Value} {T : TypeId} (h : Bx w p cs T) (c : Ch w w' lo hi) (hd : p < lo ∨ hi ≤ p ∨ hi ≤ lo) : Bx w' p cs T := (c.block p h.lt (by omega)).trans h
theorem Bx.cells {w : World} {p : Nat} {cs : List Value} {T : TypeId} (h : Bx w p cs T) : Cells w p 0 cs := row_cells h
theorem Bx.cell {w : World} {p : Nat} {cs : List Value} {T : TypeId} (h : Bx w p cs T) (k : Nat) {v : Value} (hv : cs[k]? = some v) : w.cell? ⟨p, k, none⟩ = some v := by simpa using h.cells k v hv
/-- owned: a tree whose slices lie in blocks of [lo, hi), each its own -/
def Ow (w : World) (lo hi : Nat) (d : D) (cs : List Value) : Prop := hi ≤ w.heap.size ∧ ∃ bs, Own w d cs bs ∧ bs.Nodup ∧ ∀ b ∈ bs, lo ≤ b ∧ b < hi
def OwS (w : World) (I : List (Nat × Nat)) (ds : List D) (cs : List Value) : Prop := ∃ bs, OwnS w ds cs bs ∧ bs.Nodup ∧ ∀ b ∈ bs, ∃ p ∈ I, p.1 ≤ b ∧ b < p.2
theorem Ow.ch {w w' : World} {l u lo hi : Nat} {d : D} {cs : List Value} (h : Ow w l u d cs) (c : Ch w w' lo hi) (hd : u ≤ lo ∨ hi ≤ l ∨ hi ≤ lo) : Ow w' l u d cs := by
 obtain ⟨h0, bs, h1, h2, h3⟩ := h
 exact ⟨Nat.le_trans h0 c.size, bs, Own.keep _ _ _ h1 (fun b hb => c.block b (by have := h3 b hb; omega) (by have := h3 b hb; omega)), h2, h3⟩
theorem Ow.rep {w : World} {l u : Nat} {d : D} {cs : List Value} (h : Ow w l u d cs) : Rep w (fun b => l ≤ b ∧ b < u) d cs := by
 obtain ⟨-, bs, h1, -, h3⟩ := h
 exact Own.rep _ _ _ h1 h3
theorem Ow.live {w : World} {l u : Nat} {d : D} {cs : List Value} (h : Ow w l u d cs) : Rep w (fun b => b < w.heap.size) d cs := by
 obtain ⟨h0, bs, h1, -, h3⟩ := h
 exact Own.rep _ _ _ h1 (fun b hb => by have := h3 b hb; omega)
theorem Ow.wide {w : World} {l u l' u' : Nat} {d : D} {cs : List Value} (h : Ow w l u d cs) (hl : l' ≤ l) (hu : u ≤ u') (hw : u' ≤ w.heap.size) : Ow w l' u' d cs := by
 obtain ⟨-, bs, h1, h2, h3⟩ := h
 exact ⟨hw, bs, h1, h2, fun b hb => by have := h3 b hb; omega⟩
theorem Ow.lf {w : World} {lo hi : Nat} {d : D} {cs : List Value} (h : Own w d cs []) (hh : hi ≤ w.heap.size) : Ow w lo hi d cs := ⟨hh, [], h, List.nodup_nil, by simp⟩
theorem Ow.out {w : World} {l u : Nat} {d : D} {cs : List Value} (h : Ow w l u d cs) : ∃ bs, Own w d cs bs ∧ bs.Nodup ∧ ∀ b ∈ bs, l ≤ b ∧ b < w.heap.size := by
 obtain ⟨h0, bs, h1, h2, h3⟩ := h
 exact ⟨bs, h1, h2, fun b hb => by have := h3 b hb; omega⟩
theorem OwS.nil {w : World} : OwS w [] [] [] := ⟨[], OwnS_nil.2 ⟨rfl, rfl⟩, List.nodup_nil, by simp⟩
theorem OwS.cons {w : World} {l u : Nat} {I : List (Nat × Nat)} {d : D} {ds : List D} {c1 c2 : List Value} (h : Ow w l u d c1) (k : OwS w I ds c2) (hd : ∀ p ∈ I, u ≤ p.1 ∨ p.2 ≤ l) : OwS w ((l, u) :: I) (d :: ds) (c1 ++ c2) := by
 obtain ⟨-, b1, h1, n1, r1⟩ := h
 obtain ⟨b2, h2, n2, r2⟩ := k
 refine ⟨b1 ++ b2, OwnS_cons.2 ⟨c1, c2, b1, b2, rfl, rfl, h1, h2⟩, List.nodup_append.2 ⟨n1, n2, fun x hx y hy e => ?_⟩, fun b hb' => ?_⟩
 ·obtain ⟨p, hp, hy2⟩ := r2 y hy
  have := r1 x hx; have := hd p hp; omega
 ·rcases List.mem_append.1 hb' with q | q
  ·exact ⟨(l, u), by simp, r1 b q⟩
  ·obtain ⟨p, hp, hb2⟩ := r2 b q
   exact ⟨p, by simp [hp], hb2⟩
/-- a leaf in front -/
theorem OwS.leaf {w : World} {I : List (Nat × Nat)} {d : D} {ds : List D} {c : Value} {c2 : List Value} (h : Own w d [c] []) (k : OwS w I ds c2) : OwS w I (d :: ds) (c :: c2) := by
 obtain ⟨b2, h2, n2, r2⟩ := k
 exact ⟨b2, OwnS_cons.2 ⟨[c], c2, [], b2, rfl, rfl, h, h2⟩, n2, r2⟩
theorem Ow.st {w : World} {lo hi : Nat} {I : List (Nat × Nat)} {fs : List D} {cs : List Value} (h : OwS w I fs cs) (hI : ∀ p ∈ I, lo ≤ p.1 ∧ p.2 ≤ hi) (hh : hi ≤ w.heap.size) : Ow w lo hi (.st fs) cs := by
 obtain ⟨bs, h1, h2, h3⟩ := h
 refine ⟨hh, bs, by simp only [Own]; exact h1, h2, fun b hb => ?_⟩
 obtain ⟨p, hp, h4⟩ := h3 b hb
 have := hI p hp
 omega
theorem take_snoc {α β : Type} (f : α → β) {L : List α} {n : Nat} (h : n < L.length) : (L.take n).map f ++ [f L[n]] = (L.take (n + 1)).map f := by
 rw [List.take_succ_eq_append_getElem h, List.map_append]; rfl
/-- a row that grows, in [lo, hi) -/
def Gw (w : World) (lo hi : Nat) (e size : Nat) (ds : List D) (v : Value) : Prop := hi ≤ w.heap.size ∧ lo ≤ hi ∧ ∃ r, Gr w lo e size ds v r ∧ (∀ g, v.ownBlock = some g → g < hi) ∧ ∀ b ∈ r, b < hi
theorem Gw.ch {w w' : World} {l u lo hi e size : Nat} {ds : List D} {v : Value} (h : Gw w l u e size ds v) (c : Ch w w' lo hi) (hd : u ≤ lo ∨ hi ≤ l ∨ hi ≤ lo) : Gw w' l u e size ds v := by
 obtain ⟨h0, h00, r, h1, h2, h3⟩ := h
 refine ⟨Nat.le_trans h0 c.size, h00, r, ?_, h2, h3⟩
 have k : Kept w w' ((List.range w.heap.size).filter (fun b => decide (lo ≤ b ∧ b < hi))) := ⟨c.os, c.tape, c.output, c.size, fun b hb hn => c.block b hb (fun q => hn (by simp [hb, q]))⟩
 refine h1.kept k (fun g hg hm => ?_) (fun b hb hm => ?_)
 ·simp only [List.mem_filter, decide_eq_true_eq] at hm
  have := h2 g hg
  have := (h1.block g hg).1
  omega
 ·simp only [List.mem_filter, decide_eq_true_eq] at hm
  have := h3 b hb
  have := h1.ge b hb
  omega
theorem Gw.nil (w : World) (lo e size : Nat) (h : lo ≤ w.heap.size) : Gw w lo lo e size [] (.slice none 0 0) := ⟨h, Nat.le_refl _, [], Gr.nil w lo e size, fun g hg => by simp [Value.ownBlock] at hg, by simp⟩
theorem Gw.made {w : World} {lo e size g : Nat} (hg : Bx w g [] e) (hl : lo ≤ g) : Gw w lo (g + 1) e size [] (.slice (some ⟨g, 0, none⟩) 0 0) :=
 ⟨hg.lt, by omega, [], Gr.made hg hl, fun q hq => by simp only [Value.ownBlock, Option.some.injEq] at hq; omega, by simp⟩
theorem Gw.up {w : World} {lo hi hi' e size : Nat} {ds : List D} {v : Value} (h : Gw w lo hi e size ds v) (hu : hi ≤ hi') (hw : hi' ≤ w.heap.size) : Gw w lo hi' e size ds v := by
 obtain ⟨-, h00, r, h1, h2, h3⟩ := h
 exact ⟨hw, by omega, r, h1, fun g hg => by have := h2 g hg; omega, fun b hb => by have := h3 b hb; omega⟩
theorem Gw.slice {w : World} {lo hi e size : Nat} {ds : List D} {v : Value} (h : Gw w lo hi e size ds v) : ∃ a cap, v = .slice a ds.length cap := by
 obtain ⟨-, -, r, h1, -⟩ := h
 exact h1.slice
theorem Gw.one {w : World} {lo hi e size : Nat} {ds : List D} {v : Value} (h : Gw w lo hi e size ds v) : v.oneCell' = true := by
 obtain ⟨a, cap, rfl⟩ := h.slice
 rfl
theorem Gw.ow {α : Type} {enc : α → D} {w : World} {lo hi e size : Nat} {l : List α} {v : Value} (h : Gw w lo hi e size (l.map enc) v) : ∃ a cap, v = .slice a l.length cap ∧ Ow w lo hi (.sl (l.map enc)) [.slice a l.length cap] := by
 obtain ⟨h0, h00, r, h1, h2, h3⟩ := h
 obtain ⟨xs, k1, k2⟩ := h1.row
 rcases k1.2 with ⟨rfl, hn⟩ | ⟨g, cap, cur, rfl, hb, hgg, hnc, hcm, hcs, htake⟩
 ·have hl : l = [] := by simpa using hn
  subst hl
  refine ⟨none, 0, rfl, h0, [], ?_, List.nodup_nil, by simp⟩
  simp only [Own]
  exact ⟨_, _, rfl, Nat.le_refl _, by simp [maxLen], by simp, .inl ⟨rfl, trivial⟩⟩
 ·refine ⟨some ⟨g, 0, none⟩, cap, by simp, h0, g :: r, ?_, List.nodup_cons.2 ⟨h1.out g rfl, h1.nd⟩, ?_⟩
  ·simp only [Own]
   refine ⟨_, _, by simp, by simpa using hnc, hcm, by simp, .inr ⟨g, 0, r, rfl, rfl, ⟨_, _, hgg⟩, OwnS.toE (l.map enc) xs r g 0 k2 ?_⟩⟩
   intro j u hu
   have := k1.cells (g := g) rfl j u hu
   rw [Addr.add_lit] at this
   exact this
  ·intro b hbb
   rcases List.mem_cons.1 hbb with rfl | hbb
   ·exact ⟨hb, h2 _ rfl⟩
   ·exact ⟨h1.ge b hbb, h3 b hbb⟩
theorem ow_nil {w : World} {lo hi : Nat} {α : Type} {enc : α → D} (hh : hi ≤ w.heap.size) : Ow w lo hi (.sl (([] : List α).map enc)) [.slice none 0 0] :=
 Ow.lf (own_nil (l := ([] : List α)) rfl (by simp [maxLen]) (by simp)) hh
section
variable {P : Program} {w : World} {ops : Array Oper} {rest : List Oper} {o : Oper} {a : Act} {Q : Exit → Act → World → Prop} {K : Act → World → Prop}
theorem run_boxE (ty : TypeId) (x : Operand) (ho : o.op = .box ty x) (cs : List Value) (hx : (a.eval x).cells = cs.toArray) :
  (execOp a.eval o).run P w = .ok (.value (.pointer (some ⟨w.heap.size, 0, none⟩))) (w.alloc (.cells cs.toArray ty)) := by
 unfold execOp
 simp only [ho, Sem.run_bind, Go.Instr.box, newVar, newRow, run_newObj_alloc, Sem.run_pure, Result.andThen_ok, hx]
theorem run_allocE (ty : TypeId) (ho : o.op = .alloc ty) {z : Value} (cs : List Value) (hi : (P.info? ty).map (·.zero) = some (some z)) (hz : z.cells = cs.toArray) :
  (execOp a.eval o).run P w = .ok (.value (.pointer (some ⟨w.heap.size, 0, none⟩))) (w.alloc (.cells cs.toArray ty)) := by
 cases hq : P.info? ty with
 | none => simp [hq] at hi
 | some i =>
  have hz' : i.zero = some z := by simpa [hq] using hi
  unfold execOp
  simp [ho, Sem.run_bind, Go.Instr.alloc, zeroValue, typeInfo, hq, hz', newVar, newRow, Sem.run_pure, Result.andThen_ok, hz]
theorem ch_alloc (w : World) (ob : Obj) : Ch w (w.alloc ob) 0 0 := Ch.of_below ((Below.refl _ _).alloc (Nat.le_refl _) _)
theorem e_box (hg : o.guard = none) (ty : TypeId) (x : Operand) (ho : o.op = .box ty x) (v : Value) (hx' : a.eval x = v) (cs : List Value) (hv : v.cells = cs.toArray)
  (h : ∀ w', Ch w w' 0 0 → Bx w' w.heap.size cs ty → wpList P ops Q rest (a.put o.dst (.pointer (some ⟨w.heap.size, 0, none⟩))) w') : wpList P ops Q (o :: rest) a w := by
 refine wpList_plain hg fun K hK => ?_
 unfold Oper.wp
 rw [run_boxE ty x ho cs (by rw [hx']; exact hv), Oper.upon_value]
 exact hK _ _ (h _ (ch_alloc _ _) (alloc_at rfl))
theorem e_al (hg : o.guard = none) (ty : TypeId) (ho : o.op = .alloc ty) {z : Value} (cs : List Value) (hi : (P.info? ty).map (·.zero) = some (some z)) (hz : z.cells = cs.toArray)
  (h : ∀ w', Ch w w' 0 0 → Bx w' w.heap.size cs ty → wpList P ops Q rest (a.put o.dst (.pointer (some ⟨w.heap.size, 0, none⟩))) w') : wpList P ops Q (o :: rest) a w := by
 refine wpList_plain hg fun K hK => ?_
 unfold Oper.wp
 rw [run_allocE ty ho cs hi hz, Oper.upon_value]
 exact hK _ _ (h _ (ch_alloc _ _) (alloc_at rfl))
theorem e_bs0 (hg : o.guard = none) (t : TypeId) (ho : o.op = .buildSlice t 0 #[]) {e : Nat} (ht : P.underlying t = some (.slice e)) (hi : ((P.info? e).map (·.size)).isSome = true)
  (h : ∀ w', Ch w w' 0 0 → Bx w' w.heap.size [] e → wpList P ops Q rest (a.put o.dst (.slice (some ⟨w.heap.size, 0, none⟩) 0 0)) w') : wpList P ops Q (o :: rest) a w := by
 cases hq' : P.info? e with
 | none => simp [hq'] at hi
 | some i =>
  refine wpList_plain hg fun K hK => ?_
  have hrun : (execOp a.eval o).run P w = .ok (.value (.slice (some ⟨w.heap.size, 0, none⟩) 0 0)) (w.alloc (.cells #[] e)) := by
   unfold execOp
   simp only [ho, Sem.run_bind]
   simp [Go.Instr.buildSlice, run_underlying ht, sizeOf, typeInfo, hq', Go.Instr.fill, newRow]
   congr 2
   apply Array.ext <;> simp
  unfold Oper.wp
  rw [hrun, Oper.upon_value]
  exact hK _ _ (h _ (ch_alloc _ _) (alloc_at rfl))
theorem e_bs1 (hgd : o.guard = none) (t : TypeId) (x : Operand) (ho : o.op = .buildSlice t 1 #[(0, x)])
  {e size bytes : Nat} {z : Value} (ht : P.underlying t = some (.slice e)) (hi : (P.info? e).map (fun i => (i.zero, i.size, i.bytes)) = some (some z, size, bytes)) (hsz : 0 < size) (hs24 : size ≤ 2 ^ 24)
  (v : Value) (hx : a.eval x = v) (cs : List Value) (hv : v.cells = cs.toArray) (hl : cs.length = size)
  (h : ∀ w', Ch w w' 0 0 → Bx w' w.heap.size cs e → wpList P ops Q rest (a.put o.dst (.slice (some ⟨w.heap.size, 0, none⟩) 1 1)) w') : wpList P ops Q (o :: rest) a w :=
 bs1 hgd t x ho ht hi hsz hs24 v hx cs hv hl (fun w' hB hr => h w' (Ch.of_below hB) hr)
/-- a store into a variable of its own -/
theorem ch_put {w w' : World} {p : Nat} {arr : Array Value} {T : TypeId} (h : Put w w' p arr T) : Ch w w' p (p + 1) := ⟨h.os, h.tape, h.output, Nat.le_of_eq h.size.symm, fun b _ hn => h.other b (by omega)⟩
theorem e_st (hg : o.guard = none) (ty : TypeId) (x v : Operand) (ho : o.op = .store ty x v) (p off : Nat) (hx : a.eval x = .pointer (some ⟨p, off, none⟩)) (cs : List Value) (hv : a.eval v = .agg cs.toArray) (hi : (P.info? ty).map (·.size) = some cs.length) (h1 : ∀ u ∈ cs, u.oneCell' = true)
  (cur arr : List Value) (T : TypeId) (hr : Bx w p cur T) (hf : off + cs.length ≤ cur.length) (ha : cur.take off ++ cs ++ cur.drop (off + cs.length) = arr)
  (h : ∀ w', Ch w w' p (p + 1) → Bx w' p arr T → wpList P ops Q rest (a.put o.dst undef) w') : wpList P ops Q (o :: rest) a w :=
 stR hg ty x v ho p off hx cs hv hi h1 cur.toArray arr.toArray T hr (by simpa using hf) (by simp [← ha]) (fun w' hp => h w' (ch_put hp) hp.row)
theorem e_st1 (hg : o.guard = none) (ty : TypeId) (x v : Operand) (ho : o.op = .store ty x v) (p off : Nat) (hx : a.eval x = .pointer (some ⟨p, off, none⟩)) (u : Value) (hv : a.eval v = u) (hi : (P.info? ty).map (·.size) = some 1) (h1 : u.oneCell' = true)
  (cur arr : List Value) (T : TypeId) (hr : Bx w p cur T) (hf : off < cur.length) (ha : cur.take off ++ [u] ++ cur.drop (off + 1) = arr)
  (h : ∀ w', Ch w w' p (p + 1) → Bx w' p arr T → wpList P ops Q rest (a.put o.dst undef) w') : wpList P ops Q (o :: rest) a w :=
 stR1 hg ty x v ho p off hx u hv hi h1 cur.toArray arr.toArray T hr (by simpa using hf) (by simp [← ha]) (fun w' hp => h w' (ch_put hp) hp.row)
/-- one owned element, whose cells lie in the row b, is appended -/
theorem run_apE (t ty : TypeId) {lo hi e size : Nat} (z : Value) (bytes : Nat) (ht : P.underlying t = some (.slice e)) (hi' : (P.info? e).map (fun i => (i.zero, i.size, i.bytes)) = some (some z, size, bytes)) (hzs : z.cells.size = size) (hsz : 0 < size)
  {v : Value} {ds : List D} (hG : Gw w lo hi e size ds v) (b : Nat) {d : D} {cs : List Value} {l u : Nat} (hw : d.width = size) (hc : Cells w b 0 cs) (hO : Ow w l u d cs) (hd : u ≤ lo ∨ hi ≤ l) (hlo : lo ≤ l)
  (h63 : ds.length + 1 ≤ maxLen) (hbytes : (ds.length + 1) * bytes ≤ 140737488355328) :
  ∃ v' w', (Builtin.append_ #[t, t] ty #[v, .slice (some ⟨b, 0, none⟩) 1 1]).run P w = .ok v' w' ∧ Gw w' lo w'.heap.size e size (ds ++ [d]) v' ∧ Ch w w' lo hi := by
 obtain ⟨h0, h00, r, h1, h2, h3⟩ := hG
 obtain ⟨k0, q, k1, k2, k3⟩ := hO
 have hlr : ∀ x ∈ r, lo ≤ x := h1.ge
 obtain ⟨v', w', hr, g1, g2, g3⟩ := run_gr (P := P) t ty z bytes ht hi' hzs hsz h1 b 0 1 1 (es := [d]) rfl (by simpa using hw) hc (ownS1 k1) k2 (fun x hx hm => by have := h3 x hx; have := hlr x hx; have := k3 x hm; omega) (fun g hg hm => by have := h2 g hg; have := (h1.block g hg).1; have := k3 g hm; omega) (fun x hx => by have := k3 x hx; omega) h63 hbytes (by omega)
 refine ⟨v', w', hr, ⟨Nat.le_refl _, Nat.le_trans h00 (Nat.le_trans h0 g3.size), r ++ q, g1, fun g hg => (g1.block g hg).2, g1.lt⟩, ?_⟩
 exact ⟨g3.os, g3.tape, g3.output, g3.size, fun x hx hn => g3.other x hx (fun hm => hn (by have := h2 x (by simpa using hm); have := (h1.block x (by simpa using hm)).1; omega))⟩
theorem e_ap (hgd : o.guard = none) (s x : Operand) (t : TypeId) (ho : o.op = .call { callee := .builtin .append, args := #[s, x], argTypes := #[t, t] })
  {lo hi e size : Nat} (z : Value) (bytes : Nat) (ht : P.underlying t = some (.slice e)) (hi' : (P.info? e).map (fun i => (i.zero, i.size, i.bytes)) = some (some z, size, bytes)) (hzs : z.cells.size = size) (hsz : 0 < size)
  {v : Value} {ds : List D} (hs : a.eval s = v) (hG : Gw w lo hi e size ds v) (b : Nat) (hx : a.eval x = .slice (some ⟨b, 0, none⟩) 1 1) {d : D} {cs : List Value} {l u : Nat} (hw : d.width = size) (hc : Cells w b 0 cs) (hO : Ow w l u d cs) (hd : u ≤ lo ∨ hi ≤ l) (hlo : lo ≤ l)
  (h63 : ds.length + 1 ≤ maxLen) (hbytes : (ds.length + 1) * bytes ≤ 140737488355328)
  (h : ∀ v' w', Gw w' lo w'.heap.size e size (ds ++ [d]) v' → Ch w w' lo hi → wpList P ops Q rest (a.put o.dst v') w') : wpList P ops Q (o :: rest) a w := by
 refine wpList_plain hgd fun K hK => ?_
 obtain ⟨v', w', hr, h2, h3⟩ := run_apE (P := P) t o.type z bytes ht hi' hzs hsz hG b hw hc hO hd hlo h63 hbytes
 unfold Oper.wp execOp
 simp only [ho, resolve, invoke, builtin, Sem.run_bind, Sem.run_pure, Result.andThen_ok, List.map_toArray, List.map_cons, List.map_nil, hs, hx, hr]
 exact hK _ _ (h v' w' h2 h3)
/-- a slice without slices inside is appended whole -/
theorem run_apLE (t ty : TypeId) {lo hi e size : Nat} (z : Value) (bytes : Nat) (ht : P.underlying t = some (.slice e)) (hi' : (P.info? e).map (fun i => (i.zero, i.size, i.bytes)) = some (some z, size, bytes)) (hzs : z.cells.size = size) (hsz : 0 < size)
  {v : Value} {ds : List D} (hG : Gw w lo hi e size ds v) {Kb : Nat → Prop} {α : Type} {enc : α → D} {l : List α} {xv : Value} (hR : Rep w Kb (.sl (l.map enc)) [xv])
  (hw : ∀ y, (enc y).width = size) (hf : ∀ y, flatD (enc y) = true) (h63 : ds.length + l.length ≤ maxLen) (hbytes : (ds.length + l.length) * bytes ≤ 140737488355328) :
  ∃ v' w', (Builtin.append_ #[t, t] ty #[v, xv]).run P w = .ok v' w' ∧ Gw w' lo w'.heap.size e size (ds ++ l.map enc) v' ∧ Ch w w' lo hi := by
 obtain ⟨h0, h00, r, h1, h2, h3⟩ := hG
 simp only [Rep, List.length_map, List.cons.injEq, and_true] at hR
 obtain ⟨ao, cap, rfl, k2, k3, k4, k5⟩ := hR
 have fin : ∀ {v' : Value} {w' : World} {ds' : List D}, Gr w' lo e size ds' v' r → Kept w w' v.ownBlock.toList → Gw w' lo w'.heap.size e size ds' v' ∧ Ch w w' lo hi := fun g1 g3 =>
  ⟨⟨Nat.le_refl _, Nat.le_trans h00 (Nat.le_trans h0 g3.size), r, g1, fun g hg => (g1.block g hg).2, g1.lt⟩, ⟨g3.os, g3.tape, g3.output, g3.size, fun x hx hn => g3.other x hx (fun hm => hn (by have := h2 x (by simpa using hm); have := (h1.block x (by simpa using hm)).1; omega))⟩⟩
 cases ao with
 | none =>
  have hc := k4 rfl
  have hl : l = [] := List.length_eq_zero_iff.1 (by omega)
  subst hc
  subst hl
  cases hq' : P.info? e with
  | none => simp [hq'] at hi'
  | some i =>
   obtain ⟨xs, q1, q2⟩ := h1.row
   exact ⟨v, w, run_append_owned_none (P := P) (w := w) lo t ty e i size ht hq' v ds.length xs q1, fin (by simpa using h1) (Kept.refl _ _)⟩
 | some ad =>
  rcases k5 with k5 | ⟨b, off, ha, hb, he⟩
  ·have hl : l = [] := by simpa using k5
   subst hl
   obtain ⟨v', w', hr, g1, g2, g3⟩ := run_gr0 (P := P) t ty bytes z ht hi' hzs hsz h1 ad cap (by simpa using h63) (by simpa using hbytes) (by omega)
   exact ⟨v', w', hr, fin (by simpa using g1) g3⟩
  ·simp only [Option.some.injEq] at ha
   subst ha
   obtain ⟨news, q0, q1⟩ := repE_flat (l.map enc) b off (fun d hd => by obtain ⟨y, -, rfl⟩ := List.mem_map.1 hd; exact hf y) he
   obtain ⟨v', w', hr, g1, g2, g3⟩ := run_gr (P := P) t ty z bytes ht hi' hzs hsz h1 b off l.length cap (es := l.map enc) (by simp) (fun d hd => by obtain ⟨y, -, rfl⟩ := List.mem_map.1 hd; exact hw y) q0 q1 List.nodup_nil (by simp) (by simp) (by simp) h63 hbytes (by omega)
   exact ⟨v', w', hr, fin (by simpa using g1) g3⟩
theorem e_apL (hgd : o.guard = none) (s x : Operand) (t : TypeId) (ho : o.op = .call { callee := .builtin .append, args := #[s, x], argTypes := #[t, t] })
  {lo hi e size : Nat} (z : Value) (bytes : Nat) (ht : P.underlying t = some (.slice e)) (hi' : (P.info? e).map (fun i => (i.zero, i.size, i.bytes)) = some (some z, size, bytes)) (hzs : z.cells.size = size) (hsz : 0 < size)
  {v : Value} {ds : List D} (hs : a.eval s = v) (hG : Gw w lo hi e size ds v) {Kb : Nat → Prop} {α : Type} {enc : α → D} {l : List α} {xv : Value} (hx : a.eval x = xv) (hR : Rep w Kb (.sl (l.map enc)) [xv])
  (hw : ∀ y, (enc y).width = size) (hf : ∀ y, flatD (enc y) = true) (h63 : ds.length + l.length ≤ maxLen) (hbytes : (ds.length + l.length) * bytes ≤ 140737488355328)
  (h : ∀ v' w', Gw w' lo w'.heap.size e size (ds ++ l.map enc) v' → Ch w w' lo hi → wpList P ops Q rest (a.put o.dst v') w') : wpList P ops Q (o :: rest) a w := by
 refine wpList_plain hgd fun K hK => ?_
 obtain ⟨v', w', hr, h2, h3⟩ := run_apLE (P := P) t o.type z bytes ht hi' hzs hsz hG hR hw hf h63 hbytes
 unfold Oper.wp execOp
 simp only [ho, resolve, invoke, builtin, Sem.run_bind, Sem.run_pure, Result.andThen_ok, List.map_toArray, List.map_cons, List.map_nil, hs, hx, hr]
 exact hK _ _ (h v' w' h2 h3)
theorem run_apO (s x : Operand) (t : TypeId) (ho : o.op = .call { callee := .builtin .append, args := #[s, x], argTypes := #[t, t] }) {v u v' : Value} {w' : World} (hs : a.eval s = v) (hx : a.eval x = u)
  (hr : (Builtin.append_ #[t, t] o.type #[v, u]).run P w = .ok v' w') : (execOp a.eval o).run P w = .ok (.value v') w' := by
 unfold execOp
 simp only [ho, resolve, invoke, builtin, Sem.run_bind, Sem.run_pure, Result.andThen_ok, List.map_toArray, List.map_cons, List.map_nil, hs, hx, hr]
-- the same in a statement that draws its order
theorem q_al (hg : Region.wanted o (yielded ops a.tmps) = true) (ty : TypeId) (ho : o.op = .alloc ty) {z : Value} (cs : List Value) (hi : (P.info? ty).map (·.zero) = some (some z)) (hz : z.cells = cs.toArray)
  (h : ∀ w', Ch w w' 0 0 → Bx w' w.heap.size cs ty → K (a.put o.dst (.pointer (some ⟨w.heap.size, 0, none⟩))) w') : oneI P ops [o] a w K :=
 rj_val hg _ _ (run_allocE ty ho cs hi hz) (h _ (ch_alloc _ _) (alloc_at rfl))
theorem q_bs0 (hg : Region.wanted o (yielded ops a.tmps) = true) (t : TypeId) (ho : o.op = .buildSlice t 0 #[]) {e : Nat} (ht : P.underlying t = some (.slice e)) (hi : ((P.info? e).map (·.size)).isSome = true)
  (h : ∀ w', Ch w w' 0 0 → Bx w' w.heap.size [] e → K (a.put o.dst (.slice (some ⟨w.heap.size, 0, none⟩) 0 0)) w') : oneI P ops [o] a w K := by
 cases hq' : P.info? e with
 | none => simp [hq'] at hi
 | some i =>
  refine rj_val hg _ (w.alloc (.cells #[] e)) ?_ (h _ (ch_alloc _ _) (alloc_at rfl))
  unfold execOp
  simp only [ho, Sem.run_bind]
  simp [Go.Instr.buildSlice, run_underlying ht, sizeOf, typeInfo, hq', Go.Instr.fill, newRow]
  congr 2
  apply Array.ext <;> simp
theorem q_bs1 (hg : Region.wanted o (yielded ops a.tmps) = true) (t : TypeId) (x : Operand) (ho : o.op = .buildSlice t 1 #[(0, x)])
  {e size bytes : Nat} {z : Value} (ht : P.underlying t = some (.slice e)) (hi : (P.info? e).map (fun i => (i.zero, i.size, i.bytes)) = some (some z, size, bytes)) (hsz : 0 < size) (hs24 : size ≤ 2 ^ 24)
  (v : Value) (hx : a.eval x = v) (cs : List Value) (hv : v.cells = cs.toArray) (hl : cs.length = size)
  (h : ∀ w', Ch w w' 0 0 → Bx w' w.heap.size cs e → K (a.put o.dst (.slice (some ⟨w.heap.size, 0, none⟩) 1 1)) w') : oneI P ops [o] a w K := by
 cases hq' : P.info? e with
 | none => simp [hq'] at hi
 | some i =>
  simp only [hq', Option.map_some, Option.some.injEq, Prod.mk.injEq] at hi
  obtain ⟨hz, hsize, -⟩ := hi
  have hf := Great.fill_whole (s := i.size) (by omega) [v] ((Array.range (1 * i.size)).map (z.cells[· % z.cells.size]!)) (by simp [hv, hl, hsize]) (by simp)
  have hr := run_buildSlice (P := P) w t e 1 ((#[(0, x)] : Array (Nat × Operand)).map fun (i, x) => (i, a.eval x)) cs.toArray i z ht hq' hz (by omega) (by omega) (by simpa [hx, hv] using hf)
  refine rj_val hg _ (w.alloc (.cells cs.toArray e)) ?_ (h _ (ch_alloc _ _) (alloc_at rfl))
  unfold execOp
  simp only [ho, Sem.run_bind, Result.andThen_ok, hr]
  rfl
theorem q_ap (hg : Region.wanted o (yielded ops a.tmps) = true) (s x : Operand) (t : TypeId) (ho : o.op = .call { callee := .builtin .append, args := #[s, x], argTypes := #[t, t] })
  {lo hi e size : Nat} (z : Value) (bytes : Nat) (ht : P.underlying t = some (.slice e)) (hi' : (P.info? e).map (fun i => (i.zero, i.size, i.bytes)) = some (some z, size, bytes)) (hzs : z.cells.size = size) (hsz : 0 < size)
  {v : Value} {ds : List D} (hs : a.eval s = v) (hG : Gw w lo hi e size ds v) (b : Nat) (hx : a.eval x = .slice (some ⟨b, 0, none⟩) 1 1) {d : D} {cs : List Value} {l u : Nat} (hw : d.width = size) (hc : Cells w b 0 cs) (hO : Ow w l u d cs) (hd : u ≤ lo ∨ hi ≤ l) (hlo : lo ≤ l)
  (h63 : ds.length + 1 ≤ maxLen) (hbytes : (ds.length + 1) * bytes ≤ 140737488355328)
  (h : ∀ v' w', Gw w' lo w'.heap.size e size (ds ++ [d]) v' → Ch w w' lo hi → K (a.put o.dst v') w') : oneI P ops [o] a w K := by
 obtain ⟨v', w', hr, h2, h3⟩ := run_apE (P := P) t o.type z bytes ht hi' hzs hsz hG b hw hc hO hd hlo h63 hbytes
 exact rj_val hg _ _ (run_apO s x t ho hs hx hr) (h v' w' h2 h3)
theorem q_apL (hg : Region.wanted o (yielded ops a.tmps) = true) (s x : Operand) (t : TypeId) (ho : o.op = .call { callee := .builtin .append, args := #[s, x], argTypes := #[t, t] })
  {lo hi e size : Nat} (z : Value) (bytes : Nat) (ht : P.underlying t = some (.slice e)) (hi' : (P.info? e).map (fun i => (i.zero, i.size, i.bytes)) = some (some z, size, bytes)) (hzs : z.cells.size = size) (hsz : 0 < size)
  {v : Value} {ds : List D} (hs : a.eval s = v) (hG : Gw w lo hi e size ds v) {Kb : Nat → Prop} {α : Type} {enc : α → D} {l : List α} {xv : Value} (hx : a.eval x = xv) (hR : Rep w Kb (.sl (l.map enc)) [xv])
  (hw : ∀ y, (enc y).width = size) (hf : ∀ y, flatD (enc y) = true) (h63 : ds.length + l.length ≤ maxLen) (hbytes : (ds.length + l.length) * bytes ≤ 140737488355328)
  (h : ∀ v' w', Gw w' lo w'.heap.size e size (ds ++ l.map enc) v' → Ch w w' lo hi → K (a.put o.dst v') w') : oneI P ops [o] a w K := by
 obtain ⟨v', w', hr, h2, h3⟩ := run_apLE (P := P) t o.type z bytes ht hi' hzs hsz hG hR hw hf h63 hbytes
 exact rj_val hg _ _ (run_apO s x t ho hs hx hr) (h v' w' h2 h3)
theorem q_st (hg : Region.wanted o (yielded ops a.tmps) = true) (ty : TypeId) (x v : Operand) (ho : o.op = .store ty x v) (p off : Nat) (hx : a.eval x = .pointer (some ⟨p, off, none⟩)) (cs : List Value) (hv : a.eval v = .agg cs.toArray) (hi : (P.info? ty).map (·.size) = some cs.length) (h1 : ∀ u ∈ cs, u.oneCell' = true)
  (cur arr : List Value) (T : TypeId) (hr : Bx w p cur T) (hf : off + cs.length ≤ cur.length) (ha : cur.take off ++ cs ++ cur.drop (off + cs.length) = arr)
  (h : ∀ w', Ch w w' p (p + 1) → Bx w' p arr T → K (a.put o.dst undef) w') : oneI P ops [o] a w K := by
 have hst := run_storeCells_at P p off T cs 0 cur.toArray w hr (by simpa using hf) h1
 simp only [Nat.add_zero] at hst
 cases hq : P.info? ty with
 | none => simp [hq] at hi
 | some i =>
  have hs : i.size = cs.length := by simpa [hq] using hi
  have hsv : (storeVar ty ⟨p, off, none⟩ (.agg cs.toArray)).run P w = .ok () (w.setRow p (cur.toArray.toList.take off ++ cs ++ cur.toArray.toList.drop (off + cs.length)).toArray) := by
   simp only [storeVar, Sem.run_bind, sizeOf, typeInfo, Value.cells]
   simpa [typeInfo, hq, hs] using hst
  have hrun : (execOp a.eval o).run P w = .ok .skip (w.setRow p (cur.toArray.toList.take off ++ cs ++ cur.toArray.toList.drop (off + cs.length)).toArray) := by
   unfold execOp
   simp only [ho, hx, hv, Go.Instr.storeAt, Go.Instr.sureAddr, Sem.run_bind, Sem.run_pure, Result.andThen_ok, hsv]
  have hp : Put w (w.setRow p (cur.toArray.toList.take off ++ cs ++ cur.toArray.toList.drop (off + cs.length)).toArray) p (cur.toArray.toList.take off ++ cs ++ cur.toArray.toList.drop (off + cs.length)).toArray T := ⟨rfl, rfl, rfl, by simp, fun b hb => setRow_other w p b _ hb, setRow_heap w p cur.toArray _ T (0, 0) hr⟩
  exact rj_skip hg _ hrun (h _ (ch_put hp) (hp.row.trans (by rw [List.toList_toArray, ha])))
theorem q_st1 (hg : Region.wanted o (yielded ops a.tmps) = true) (ty : TypeId) (x v : Operand) (ho : o.op = .store ty x v) (p off : Nat) (hx : a.eval x = .pointer (some ⟨p, off, none⟩)) (u : Value) (hv : a.eval v = u) (hi : (P.info? ty).map (·.size) = some 1) (h1 : u.oneCell' = true)
  (cur arr : List Value) (T : TypeId) (hr : Bx w p cur T) (hf : off < cur.length) (ha : cur.take off ++ [u] ++ cur.drop (off + 1) = arr)
  (h : ∀ w', Ch w w' p (p + 1) → Bx w' p arr T → K (a.put o.dst undef) w') : oneI P ops [o] a w K := by
 have hst := run_storeCells_at P p off T [u] 0 cur.toArray w hr (by simp; omega) (by simpa using h1)
 simp only [Nat.add_zero, List.length_singleton] at hst
 have hcu : u.cells = #[u] := by cases u <;> first | rfl | simp [Value.oneCell'] at h1
 cases hq : P.info? ty with
 | none => simp [hq] at hi
 | some i =>
  have hs : i.size = 1 := by simpa [hq] using hi
  have hsv : (storeVar ty ⟨p, off, none⟩ u).run P w = .ok () (w.setRow p (cur.toArray.toList.take off ++ [u] ++ cur.toArray.toList.drop (off + 1)).toArray) := by
   simp only [storeVar, Sem.run_bind, sizeOf, typeInfo, hcu]
   simpa [typeInfo, hq, hs] using hst
  have hrun : (execOp a.eval o).run P w = .ok .skip (w.setRow p (cur.toArray.toList.take off ++ [u] ++ cur.toArray.toList.drop (off + 1)).toArray) := by
   unfold execOp
   simp only [ho, hx, hv, Go.Instr.storeAt, Go.Instr.sureAddr, Sem.run_bind, Sem.run_pure, Result.andThen_ok, hsv]
  have hp : Put w (w.setRow p (cur.toArray.toList.take off ++ [u] ++ cur.toArray.toList.drop (off + 1)).toArray) p (cur.toArray.toList.take off ++ [u] ++ cur.toArray.toList.drop (off + 1)).toArray T := ⟨rfl, rfl, rfl, by simp, fun b hb => setRow_other w p b _ hb, setRow_heap w p cur.toArray _ T (0, 0) hr⟩
  exact rj_skip hg _ hrun (h _ (ch_put hp) (hp.row.trans (by rw [List.toList_toArray, ha])))
/-- two results: one in a cell of its own, one in a slot -/
theorem res_cell {P : Program} {fn : Func} {tmps : Array Value} {w : World} {k ty : Nat} (hr : fn.results = #[.cell k ty]) (b : Nat) (hx : tmps.getD k undef = .pointer (some ⟨b, 0, none⟩)) (cs : List Value) {T : TypeId} (hc : Bx w b cs T)
  (fs : Array Field) (hu : P.underlying ty = some (.struct fs)) (hi : (P.info? ty).map (·.size) = some cs.length) : (results fn tmps).run P w = .ok (.agg cs.toArray) w := run_res hr b hx cs hc.cells fs hu hi
end
theorem one_nil : ∀ u ∈ ([] : List Value), u.oneCell' = true := by simp
theorem one_cons {v : Value} {l : List Value} (h : v.oneCell' = true) (k : ∀ u ∈ l, u.oneCell' = true) : ∀ u ∈ v :: l, u.oneCell' = true := List.forall_mem_cons.2 ⟨h, k⟩
theorem Bx.below {w w' : World} {p : Nat} {cs : List Value} {T : TypeId} (h : Bx w p cs T) (c : Below w.heap.size w w') : Bx w' p cs T := (c.block p h.lt).trans h
theorem Ow.below {w w' : World} {l u : Nat} {d : D} {cs : List Value} (h : Ow w l u d cs) (c : Below w.heap.size w w') : Ow w' l u d cs := h.ch (Ch.of_below c) (.inr (.inr (Nat.le_refl _)))
theorem ow_of {w w' : World} {d : D} {cs : List Value} {bs : List Nat} (h : Own w' d cs bs) (hn : bs.Nodup) (hr : ∀ b ∈ bs, w.heap.size ≤ b ∧ b < w'.heap.size) : Ow w' w.heap.size w'.heap.size d cs := ⟨Nat.le_refl _, bs, h, hn, hr⟩
theorem cells_sub {w : World} {b o : Nat} {full sub : List Value} (off : Nat) (h : Cells w b o full) (hs : (full.drop off).take sub.length = sub) : Cells w b (o + off) sub := fun j u hu => by
 have hj : j < sub.length := (List.getElem?_eq_some_iff.1 hu).1
 have h2 : full[off + j]? = some u := by
  rw [← hs, List.getElem?_take_of_lt hj, List.getElem?_drop] at hu
  exact hu
 have := h (off + j) u h2
 rwa [← Nat.add_assoc] at this
theorem run_fieldE {P : Program} {t k : Nat} {fs : Array Field} {f : Field} {e : TypeDesc} {cs : Array Value} {v : Value} (hu : P.underlying t = some (.struct fs)) (hf : fs[k]? = some f) (hu2 : P.underlying f.type = some e) (hs : (match e with | .struct _ => true | .array _ _ => true | _ => false) = false) (hv : cs[f.offset]? = some v) (w : World) :
  (Go.Instr.field t (.agg cs) k).run P w = .ok v w := by
 unfold Go.Instr.field
 simp only [Sem.run_bind, run_underlying hu, Result.andThen_ok, hf]
 simp only [asAgg, Sem.run_bind, Sem.run_pure, Result.andThen_ok, part, isAgg, run_underlying hu2]
 cases e <;> simp_all [Sem.run_pure, Result.andThen_ok]
/-- what is owned, cut behind its first field -/
theorem ow_cut {w : World} {l u : Nat} {d : D} {ds : List D} {c1 c2 : List Value} (hw : d.width = c1.length) (h : Ow w l u (.st (d :: ds)) (c1 ++ c2)) : Ow w l u d c1 ∧ Ow w l u (.st ds) c2 := by
 obtain ⟨h0, bs, h1, h2, h3⟩ := h
 simp only [Own] at h1
 obtain ⟨e1, e2, b1, b2, he, rfl, o1, o2⟩ := OwnS_cons.1 h1
 have hl : c1.length = e1.length := by rw [← hw]; exact (Rep.length (K := fun _ => True) _ _ (Own.rep _ _ _ o1 (fun _ _ => trivial))).symm
 obtain ⟨rfl, rfl⟩ := List.append_inj he hl
 have hn := List.nodup_append.1 h2
 exact ⟨⟨h0, b1, o1, hn.1, fun b hb => h3 b (by simp [hb])⟩, ⟨h0, b2, by simp only [Own]; exact o2, hn.2.1, fun b hb => h3 b (by simp [hb])⟩⟩
/-- two results: one that lies in a cell of its own, and one in a slot -/
theorem run_resB {P : Program} {fn : Func} {tmps : Array Value} {w : World} {k ty j : Nat} (hr : fn.results = #[.cell k ty, .tmp j]) (b : Nat) (hx : tmps.getD k undef = .pointer (some ⟨b, 0, none⟩)) (cs : List Value) (hc : Cells w b 0 cs)
  (fs : Array Field) (hu : P.underlying ty = some (.struct fs)) (hi : (P.info? ty).map (·.size) = some cs.length) (v : Value) (hv : tmps.getD j undef = v) : (results fn tmps).run P w = .ok (.tuple #[.agg cs.toArray, v]) w := by
 have h := run_loadVar ty b 0 cs hc fs hu hi
 unfold results
 have hx' : tmps[k]?.getD undef = .pointer (some ⟨b, 0, none⟩) := by simpa using hx
 have hv' : tmps[j]?.getD undef = v := by simpa using hv
 rw [hr]
 simp [hx', hv', asAddr, h]
/-- what an operation of a drawing region makes -/
def gdSl {α : Type} (enc : α → D) (L : List α) : Gd := ⟨fun v lo hi w => ∃ a cap, v = .slice a L.length cap ∧ Ow w lo hi (.sl (L.map enc)) [v], fun v lo hi w w' l u ⟨a, cap, h1, h2⟩ _ hC hd => ⟨a, cap, h1, h2.ch hC (by omega)⟩⟩
def gdAg (d : D) : Gd := ⟨fun v lo hi w => ∃ cs : List Value, v = .agg cs.toArray ∧ Ow w lo hi d cs, fun v lo hi w w' l u ⟨cs, h1, h2⟩ _ hC hd => ⟨cs, h1, h2.ch hC (by omega)⟩⟩
def gdPt (T : TypeId) (cs : List Value) : Gd := ⟨fun v lo hi w => v = .pointer (some ⟨lo, 0, none⟩) ∧ lo < hi ∧ Bx w lo cs T, fun v lo hi w w' l u ⟨h0, h1, h2⟩ _ hC hd => ⟨h0, h1, h2.ch hC (by omega)⟩⟩
def gdRow (T : TypeId) : Gd := ⟨fun v lo hi w => v = .slice (some ⟨lo, 0, none⟩) 0 0 ∧ lo < hi ∧ Bx w lo [] T, fun v lo hi w w' l u ⟨h0, h1, h2⟩ _ hC hd => ⟨h0, h1, h2.ch hC (by omega)⟩⟩
theorem widths_mapE {α : Type} {enc : α → D} {size : Nat} (hw : ∀ y, (enc y).width = size) : ∀ l : List α, D.widths (l.map enc) = l.length * size
 | [] => by simp [D.widths]
 | d :: l => by simp only [D.widths, List.map_cons, List.length_cons, Nat.add_mul, hw d, widths_mapE hw l]; omega
theorem gr_own {α : Type} {enc : α → D} {w : World} {lo e size g : Nat} {l : List α} {v : Value} (h1 : Gr w lo e size (l.map enc) v []) (hg : v.ownBlock = some g) : (∃ a cap, v = .slice a l.length cap) ∧ Own w (.sl (l.map enc)) [v] [g] ∧ g < w.heap.size := by
 obtain ⟨xs, k1, k2⟩ := h1.row
 rcases k1.2 with ⟨rfl, hn⟩ | ⟨g', cap, cur, rfl, hb, hgg, hnc, hcm, hcs, htake⟩
 ·simp [Value.ownBlock] at hg
 ·obtain rfl : g' = g := by simpa [Value.ownBlock] using hg
  refine ⟨⟨_, _, by rw [List.length_map]⟩, ?_, (Array.getElem?_eq_some_iff.1 hgg).1⟩
  simp only [Own]
  refine ⟨_, _, rfl, by simpa using hnc, hcm, by simp, .inr ⟨g', 0, [], rfl, rfl, ⟨_, _, hgg⟩, OwnS.toE (l.map enc) xs [] g' 0 k2 ?_⟩⟩
  intro j u hu
  have := k1.cells (g := g') rfl j u hu
  rw [Addr.add_lit] at this
  exact this
section
variable {P : Program} {w : World} {ops : Array Oper} {o : Oper} {a : Act}
theorem v_al (hg : Region.wanted o (yielded ops a.tmps) = true) (ty : TypeId) (ho : o.op = .alloc ty) {z : Value} (cs : List Value) (hi : (P.info? ty).map (·.zero) = some (some z)) (hz : z.cells = cs.toArray) :
  oneV P ops [o] a w (fun v w'' => Below w.heap.size w w'' ∧ (gdPt ty cs).p v w.heap.size w''.heap.size w'') :=
 ov_val hg _ _ (run_allocE ty ho cs hi hz) ⟨(Below.refl _ _).alloc (Nat.le_refl _) _, rfl, Bx.lt (alloc_at rfl), alloc_at rfl⟩
theorem v_bs0 (hg : Region.wanted o (yielded ops a.tmps) = true) (t : TypeId) (ho : o.op = .buildSlice t 0 #[]) {e : Nat} (ht : P.underlying t = some (.slice e)) (hi : ((P.info? e).map (·.size)).isSome = true) :
  oneV P ops [o] a w (fun v w'' => Below w.heap.size w w'' ∧ (gdRow e).p v w.heap.size w''.heap.size w'') := by
 cases hq' : P.info? e with
 | none => simp [hq'] at hi
 | some i =>
  refine ov_val hg _ (w.alloc (.cells #[] e)) ?_ ⟨(Below.refl _ _).alloc (Nat.le_refl _) _, rfl, Bx.lt (alloc_at rfl), alloc_at rfl⟩
  unfold execOp
  simp only [ho, Sem.run_bind]
  simp [Go.Instr.buildSlice, run_underlying ht, sizeOf, typeInfo, hq', Go.Instr.fill, newRow]
  congr 2
  apply Array.ext <;> simp
/-- a slice without slices inside, appended whole to an empty row of this region -/
theorem v_ap (hg : Region.wanted o (yielded ops a.tmps) = true) (s x : Operand) (t : TypeId) (ho : o.op = .call { callee := .builtin .append, args := #[s, x], argTypes := #[t, t] })
  {e size : Nat} (z : Value) (bytes : Nat) (ht : P.underlying t = some (.slice e)) (hi' : (P.info? e).map (fun i => (i.zero, i.size, i.bytes)) = some (some z, size, bytes)) (hzs : z.cells.size = size) (hsz : 0 < size)
  {v : Value} {lo hi : Nat} (hs : a.eval s = v) (hG : (gdRow e).p v lo hi w) {Kb : Nat → Prop} {α : Type} {enc : α → D} {l : List α} {xv : Value} (hx : a.eval x = xv) (hR : Rep w Kb (.sl (l.map enc)) [xv])
  (hh : hi ≤ w.heap.size) (hw : ∀ y, (enc y).width = size) (hf : ∀ y, flatD (enc y) = true) (h63 : l.length ≤ maxLen) (hbytes : l.length * bytes ≤ 140737488355328) :
  oneV P ops [o] a w (fun v' w'' => Ch w w'' lo hi ∧ ((gdSl enc l).p v' lo hi w'' ∨ (gdSl enc l).p v' w.heap.size w''.heap.size w'')) := by
 obtain ⟨rfl, hlh, hb⟩ := hG
 have hG := Gr.made (size := size) hb (Nat.le_refl lo)
 simp only [Rep, List.length_map, List.cons.injEq, and_true] at hR
 obtain ⟨ao, cap, rfl, k2, k3, k4, k5⟩ := hR
 have fin : ∀ {v' : Value} {w' : World}, Gr w' lo e size (l.map enc) v' [] → (v'.ownBlock = some lo ∨ v'.ownBlock = some w.heap.size) → w.heap.size ≤ w'.heap.size →
   ((gdSl enc l).p v' lo hi w' ∨ (gdSl enc l).p v' w.heap.size w'.heap.size w') := fun {v' w'} g1 g2 g3 => by
  rcases g2 with g2 | g2
  ·obtain ⟨⟨a, cap, rfl⟩, o1, -⟩ := gr_own g1 g2
   exact .inl ⟨a, cap, rfl, Nat.le_trans hh g3, [lo], o1, (by simp), fun b hb => by simp only [List.mem_singleton] at hb; omega⟩
  ·obtain ⟨⟨a, cap, rfl⟩, o1, h4⟩ := gr_own g1 g2
   exact .inr ⟨a, cap, rfl, Nat.le_refl _, [w.heap.size], o1, (by simp), fun b hb => by simp only [List.mem_singleton] at hb; omega⟩
 cases hq' : P.info? e with
 | none => simp [hq'] at hi'
 | some i =>
  have hi2 := hi'
  simp only [hq', Option.map_some, Option.some.injEq, Prod.mk.injEq] at hi2
  obtain ⟨hz, hsize, hby⟩ := hi2
  obtain ⟨xs, q1, q2⟩ := hG.row
  obtain ⟨rfl, -⟩ := OwnS_nil.1 q2
  cases ao with
  | none =>
   have hc := k4 rfl
   have hl : l = [] := List.length_eq_zero_iff.1 (by omega)
   subst hc
   subst hl
   have hr := run_append_owned_none (P := P) (w := w) lo t o.type e i size ht hq' (.slice (some ⟨lo, 0, none⟩) 0 0) 0 [] q1
   exact ov_val hg _ _ (run_apO s x t ho hs hx hr) ⟨⟨rfl, rfl, rfl, Nat.le_refl _, fun _ _ _ => rfl⟩, fin hG (.inl rfl) (Nat.le_refl _)⟩
  | some ad =>
   have go : ∀ (news : List Value), news.length = l.length * size → (∀ j u, news[j]? = some u → w.cell? (ad.add j) = some u) → OwnS w (l.map enc) news [] →
     oneV P ops [o] a w (fun v' w'' => Ch w w'' lo hi ∧ ((gdSl enc l).p v' lo hi w'' ∨ (gdSl enc l).p v' w.heap.size w''.heap.size w'')) := fun news n1 n2 n3 => by
    have hone : ∀ u ∈ news, u.oneCell' = true := RepS.one (K := fun _ => True) _ news (OwnS.rep _ news [] n3 (fun _ _ => trivial))
    obtain ⟨v', w', hr, h3, h4, h5⟩ := run_ap (P := P) lo t o.type e i z size bytes ht hq' hz hsize hby hzs hsz (.slice (some ⟨lo, 0, none⟩) 0 0) 0 [] q1 ad l.length cap news n1 n2 hone (by simpa using h63) (by simpa using hbytes) (by omega)
    have hk : ∀ k, k < w.heap.size → k ≠ lo → w'.heap[k]? = w.heap[k]? := fun k hk hn => h4.block k hk (fun e => hn (by simpa [Value.ownBlock] using e))
    refine ov_val hg _ _ (run_apO s x t ho hs hx hr) ⟨⟨h4.os, h4.tape, h4.output, h4.size, fun b hb hn => hk b hb (by omega)⟩, fin ⟨⟨news, by simpa using h3, OwnS.keep _ news [] n3 (by simp)⟩, List.nodup_nil, by simp, by simp⟩ (by simpa [Value.ownBlock] using h5) h4.size⟩
   rcases k5 with k5 | ⟨b, off, ha, hb', he⟩
   ·have hl : l = [] := by simpa using k5
    subst hl
    exact go [] (by simp) (by simp) (OwnS_nil.2 ⟨rfl, rfl⟩)
   ·simp only [Option.some.injEq] at ha
    subst ha
    obtain ⟨news, q0, q3⟩ := repE_flat (l.map enc) b off (fun d hd => by obtain ⟨y, -, rfl⟩ := List.mem_map.1 hd; exact hf y) he
    refine go news ?_ (fun j u hu => by rw [Addr.add_lit]; exact q0 j u hu) q3
    exact (OwnS.length _ news [] q3).trans (widths_mapE hw l)
end
end Go.Proofs.YtkmiecgcibjkbaaGreat
