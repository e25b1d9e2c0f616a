/- Compiling a body: the state in memory and the runs of the operations that turn it. No condition. -/
import Derived.Test.YtkmiecgcibjkbaaGreatComp0
namespace Go.Proofs.YtkmiecgcibjkbaaGreat
open Go.RowKit
theorem Gr.one {w : World} {lo e size : Nat} {ds : List D} {v : Value} {r : List Nat} (h : Gr w lo e size ds v r) : v.oneCell' = true := by
 obtain ⟨a, cap, rfl⟩ := h.slice
 rfl
theorem Gr.mono {w : World} {lo lo' e size : Nat} {ds : List D} {v : Value} {r : List Nat} (h : Gr w lo' e size ds v r) (hl : lo ≤ lo') : Gr w lo e size ds v r := by
 obtain ⟨xs, h1, h2⟩ := h.row
 refine ⟨⟨xs, ⟨h1.1, ?_⟩, h2⟩, h.nd, h.out, fun b hb => Nat.le_trans hl (h.ge b hb)⟩
 rcases h1.2 with hn | ⟨g, cap, cur, rfl, hb, rest⟩
 ·exact .inl hn
 ·exact .inr ⟨g, cap, cur, rfl, Nat.le_trans hl hb, rest⟩
theorem ownS_take {w : World} {s : Nat} : ∀ (ds : List D) (xs : List Value) (m : Nat), (∀ d ∈ ds, d.width = s) → OwnS w ds xs [] → OwnS w (ds.take m) (xs.take (m * s)) []
 | [], xs, m, _, h => by
  obtain ⟨rfl, -⟩ := OwnS_nil.1 h
  simp only [List.take_nil]
  exact OwnS_nil.2 ⟨rfl, rfl⟩
 | d :: ds, xs, 0, _, _ => by
  simp only [List.take_zero, Nat.zero_mul]
  exact OwnS_nil.2 ⟨rfl, rfl⟩
 | d :: ds, xs, m + 1, hw, h => by
  obtain ⟨c1, c2, b1, b2, rfl, hb, h3, h4⟩ := OwnS_cons.1 h
  have hb1 : b1 = [] := (List.append_eq_nil_iff.1 hb.symm).1
  have hb2 : b2 = [] := (List.append_eq_nil_iff.1 hb.symm).2
  subst hb1; subst hb2
  have hl : c1.length = s := (Rep.length (K := fun _ => True) d c1 (Own.rep d c1 [] h3 (fun _ _ => trivial))).trans (hw d (by simp))
  rw [List.take_succ_cons, show (m + 1) * s = c1.length + m * s by rw [hl, Nat.add_mul]; omega, List.take_length_add_append]
  exact OwnS_cons.2 ⟨c1, c2.take (m * s), [], [], rfl, rfl, h3, ownS_take ds c2 m (fun d hd => hw d (by simp [hd])) h4⟩
theorem Gr.take {w : World} {lo e size : Nat} {ds : List D} {a : Option Addr} {n cap : Nat} (h : Gr w lo e size ds (.slice a n cap) []) (hw : ∀ d ∈ ds, d.width = size) {m : Nat} (hm : m ≤ ds.length) : Gr w lo e size (ds.take m) (.slice a m cap) [] := by
 obtain ⟨xs, h1, h2⟩ := h.row
 have hl : (ds.take m).length = m := by simp; omega
 refine ⟨⟨xs.take (m * size), ⟨?_, ?_⟩, ownS_take ds xs m hw h2⟩, List.nodup_nil, by simp, by simp⟩
 ·rw [hl, List.length_take, h1.1]
  have := Nat.mul_le_mul_right size hm
  omega
 ·rw [hl]
  rcases h1.2 with ⟨hv, hn⟩ | ⟨g, cap', cur, hv, hb, hg, hnc, hcm, hcs, ht⟩
  ·left
   simp only [Value.slice.injEq] at hv
   obtain ⟨rfl, rfl, rfl⟩ := hv
   have : m = 0 := by omega
   subst this
   exact ⟨rfl, rfl⟩
  ·right
   simp only [Value.slice.injEq] at hv
   obtain ⟨rfl, rfl, rfl⟩ := hv
   refine ⟨g, cap, cur, rfl, hb, hg, by omega, hcm, hcs, ?_⟩
   rw [← ht, List.take_take, Nat.min_eq_left (Nat.mul_le_mul_right size hm)]
theorem ownS_patch {w : World} : ∀ (l : List TInstr) (xs : List Value) (k : Nat) (n : Int), InR n → k < l.length → OwnS w (l.map TInstr.enc) xs [] → OwnS w ((patchA l k n).map TInstr.enc) (xs.take (k * 5 + 1) ++ [.int .i64 n] ++ xs.drop (k * 5 + 1 + 1)) []
 | [], _, _, _, _, hk, _ => by simp at hk
 | x :: l, xs, k, n, hn, hk, h => by
  obtain ⟨c1, c2, b1, b2, rfl, hb, h3, h4⟩ := OwnS_cons.1 (by simpa only [List.map_cons] using h)
  have hb1 : b1 = [] := (List.append_eq_nil_iff.1 hb.symm).1
  have hb2 : b2 = [] := (List.append_eq_nil_iff.1 hb.symm).2
  subst hb1; subst hb2
  obtain ⟨rfl, hO, hA, hB, hT, hN⟩ := TInstr.opn (Own.rep (K := fun _ => True) _ _ _ h3 (fun _ _ => trivial))
  cases k with
  | zero =>
   simp only [patchA, List.map_cons]
   exact OwnS_cons.2 ⟨[.int .i64 x.fOp, .int .i64 n, .int .i64 x.fB, .string x.fTrait, .string x.fName], c2, [], [], by simp, rfl, TInstr.mk_own (x := ⟨x.fOp, n, x.fB, x.fTrait, x.fName⟩) hO hn hB hT hN, h4⟩
  | succ k =>
   simp only [patchA, List.map_cons]
   simp only [List.length_cons] at hk
   refine OwnS_cons.2 ⟨_, _, [], [], ?_, rfl, h3, ownS_patch l c2 k n hn (by omega) h4⟩
   rw [show (k + 1) * 5 + 1 = (k * 5 + 1) + 1 + 1 + 1 + 1 + 1 by omega]
   simp
theorem take_patch (L : List Value) (p m : Nat) (u : Value) (h : p < m) (hm : m ≤ L.length) : (L.take p ++ [u] ++ L.drop (p + 1)).take m = L.take p ++ [u] ++ (L.take m).drop (p + 1) := by
 have e1 : (L.take p ++ [u]).length = p + 1 := by simp; omega
 rw [List.take_append, List.take_of_length_le (by omega), e1, List.drop_take]
theorem patch_at {P : Program} {w : World} {lo e : Nat} {l : List TInstr} {v : Value} (h : Gr w lo e 5 (l.map TInstr.enc) v []) {k : Nat} (hk : k < l.length) {n : Int} (hn : InR n) :
  ∃ (g cap : Nat) (cur : Array Value), v = .slice (some ⟨g, 0, none⟩) l.length cap ∧ lo ≤ g ∧ w.heap[g]? = some (.cells cur e (0, 0)) ∧ k * 5 + 1 < cur.size ∧
   ∀ w', Put w w' g (cur.toList.take (k * 5 + 1) ++ [Value.int .i64 n] ++ cur.toList.drop (k * 5 + 1 + 1)).toArray e → Gr w' lo e 5 ((patchA l k n).map TInstr.enc) v [] := by
 have _ := P
 obtain ⟨xs, h1, h2⟩ := h.row
 have hl : (l.map TInstr.enc).length = l.length := by simp
 rcases h1.2 with ⟨-, hz⟩ | ⟨g, cap, cur, rfl, hb, hg, hnc, hcm, hcs, ht⟩
 ·rw [hl] at hz
  omega
 ·have hsz : k * 5 + 1 + 4 ≤ xs.length := by rw [h1.1, hl]; omega
  have hcur : xs.length ≤ cur.size := by rw [h1.1, hcs]; exact Nat.mul_le_mul_right _ hnc
  refine ⟨g, cap, cur, by rw [hl], hb, hg, by omega, fun w' hp => ?_⟩
  refine ⟨⟨xs.take (k * 5 + 1) ++ [Value.int .i64 n] ++ xs.drop (k * 5 + 1 + 1), ⟨?_, ?_⟩, ?_⟩, List.nodup_nil, by simp, by simp⟩
  ·have := h1.1
   simp only [List.length_append, List.length_take, List.length_drop, List.length_singleton, List.length_map, patchA_length] at this ⊢
   omega
  ·right
   have hr : ((patchA l k n).map TInstr.enc).length = (l.map TInstr.enc).length := by simp [patchA_length]
   rw [hr]
   refine ⟨g, cap, _, rfl, hb, hp.row, hnc, hcm, ?_, ?_⟩
   ·rw [← hcs]
    simp
    omega
   ·have hx := h1.1
    generalize (l.map TInstr.enc).length = m at *
    rw [← ht] at hsz hx ⊢
    have hm : m * 5 ≤ cur.toList.length := by simp; omega
    rw [List.length_take] at hsz
    rw [List.take_take, Nat.min_eq_left (by omega), List.toList_toArray]
    exact take_patch _ _ _ _ (by omega) hm
  ·exact OwnS.keep _ _ _ (ownS_patch l xs k n hn hk h2) (by simp)
theorem cells_lt {w : World} {b off : Nat} {u : Value} {us : List Value} (h : Cells w b off (u :: us)) : b < w.heap.size := by
 have h1 := h 0 u rfl
 unfold World.cell? at h1
 rcases Nat.lt_or_ge b w.heap.size with q | q
 ·exact q
 ·rw [Array.getElem?_eq_none q] at h1
  cases h1
theorem gr_cases {w : World} {lo e size : Nat} {α : Type} {enc : α → D} {l : List α} {v : Value} (h : Gr w lo e size (l.map enc) v []) : (v = .slice none 0 0 ∧ l = []) ∨ ∃ g cap, v = .slice (some ⟨g, 0, none⟩) l.length cap ∧ l.length ≤ cap := by
 obtain ⟨xs, h1, -⟩ := h.row
 rcases h1.2 with ⟨rfl, hn⟩ | ⟨g, cap, cur, rfl, -, -, hnc, -⟩
 ·exact .inl ⟨rfl, by simpa using hn⟩
 ·exact .inr ⟨g, cap, by simp, by simpa using hnc⟩
theorem gs_cap {w : World} {lo e size : Nat} {α : Type} {enc : α → D} {l : List α} {v : Value} (h : Gr w lo e size (l.map enc) v []) : ∃ a cap, v = .slice a l.length cap ∧ l.length ≤ cap := by
 rcases gr_cases h with ⟨h1, h2⟩ | ⟨g, cap, h1, h2⟩
 ·subst h2
  exact ⟨none, 0, h1, Nat.le_refl _⟩
 ·exact ⟨_, cap, h1, h2⟩
/-- x[:h] -/
theorem slH {P : Program} {w : World} {ops : Array Oper} {rest : List Oper} {o : Oper} {a : Act} {Q : Exit → Act → World → Prop} (hgd : o.guard = none) (t : TypeId) (x h : Operand) (ho : o.op = .slice t x none (some h) none)
  {e : TypeId} (ht : P.underlying t = some (.slice e)) (hi : ((P.info? e).map (·.size)).isSome = true) {ad : Option Addr} {len cap n : Nat} (hx : a.eval x = .slice ad len cap) (hh : a.eval h = .int .i64 (n : Int)) (hn : n ≤ cap)
  (hk : wpList P ops Q rest (a.put o.dst (.slice ad n cap)) w) : wpList P ops Q (o :: rest) a w := by
 refine wpList_plain hgd fun K hK => ?_
 cases hq : P.info? e with
 | none => simp [hq] at hi
 | some i =>
  have hb : (Go.Instr.sliceBound (.int .i64 (n : Int)) cap .sliceAcap).run P w = .ok n w := by
   unfold Go.Instr.sliceBound
   simp [asIntOf, hn]
  have hr : (Go.Instr.slice t (.slice ad len cap) none (some (.int .i64 (n : Int))) none).run P w = .ok (.slice ad n cap) w := by
   unfold Go.Instr.slice Go.Instr.sliceBounds
   simp only [Sem.run_bind, run_underlying ht, Result.andThen_ok, Sem.run_pure, sizeOf, typeInfo]
   cases ad <;> simp [hb, hq, Addr.add]
  have hr2 : (Go.Instr.sliceAt t (.slice ad len cap) none (some (.int .i64 (n : Int))) none).run P w = .ok (.slice ad n cap) w := by
   unfold Go.Instr.sliceAt
   simp only [Sem.run_bind, run_underlying ht, Result.andThen_ok, hr]
  unfold Oper.wp execOp
  simp only [ho, hx, hh, Option.map_none, Option.map_some, Sem.run_bind, hr2, Result.andThen_ok]
  exact hK _ _ hk
theorem run_slH {P : Program} {w : World} {o : Oper} {a : Act} (hgd : o.guard = none) (t : TypeId) (x h : Operand) (ho : o.op = .slice t x none (some h) none)
  {e : TypeId} (ht : P.underlying t = some (.slice e)) (hi : ((P.info? e).map (·.size)).isSome = true) {ad : Option Addr} {len cap n : Nat} (hx : a.eval x = .slice ad len cap) (hh : a.eval h = .int .i64 (n : Int)) (hn : n ≤ cap) :
  (execOp a.eval o).run P w = .ok (.value (.slice ad n cap)) w := by
 have _ := hgd
 cases hq : P.info? e with
 | none => simp [hq] at hi
 | some i =>
  have hb : (Go.Instr.sliceBound (.int .i64 (n : Int)) cap .sliceAcap).run P w = .ok n w := by
   unfold Go.Instr.sliceBound
   simp [asIntOf, hn]
  have hr : (Go.Instr.slice t (.slice ad len cap) none (some (.int .i64 (n : Int))) none).run P w = .ok (.slice ad n cap) w := by
   unfold Go.Instr.slice Go.Instr.sliceBounds
   simp only [Sem.run_bind, run_underlying ht, Result.andThen_ok, Sem.run_pure, sizeOf, typeInfo]
   cases ad <;> simp [hb, hq, Addr.add]
  have hr2 : (Go.Instr.sliceAt t (.slice ad len cap) none (some (.int .i64 (n : Int))) none).run P w = .ok (.slice ad n cap) w := by
   unfold Go.Instr.sliceAt
   simp only [Sem.run_bind, run_underlying ht, Result.andThen_ok, hr]
  unfold execOp
  simp only [ho, hx, hh, Option.map_none, Option.map_some, Sem.run_bind, hr2, Result.andThen_ok]
  rfl
theorem gr_rep {w : World} {lo e size : Nat} {α : Type} {enc : α → D} {l : List α} {v : Value} (h : Gr w lo e size (l.map enc) v []) : Rep w (fun b => b < w.heap.size) (.sl (l.map enc)) [v] := by
 obtain ⟨a, cap, bs, rfl, ho, -, hb⟩ := h.ownT
 exact Own.rep _ _ _ ho (fun b hx => (hb b hx).2)
theorem Kept.belowOf {w0 w w' : World} {lo : Nat} {bs : List Nat} (k : Kept w w' bs) (hB : Below lo w0 w) (hb : ∀ b ∈ bs, lo ≤ b) (hl : lo ≤ w.heap.size) : Below lo w0 w' :=
 hB.trans ⟨k.os, k.tape, k.output, k.size, fun b hx => k.other b (Nat.lt_of_lt_of_le hx hl) (fun q => by have := hb b q; omega)⟩
theorem Below.kept' {w w' : World} (h : Below w.heap.size w w') (bs : List Nat) : Kept w w' bs := ⟨h.os, h.tape, h.output, h.size, fun b hb _ => h.block b hb⟩
/-- the state in memory: block c holds the two rows and the sign; fp are its blocks -/
structure Ste (w : World) (T eI eS lo c : Nat) (fp : List Nat) (s : CS) (vl vs : Value) : Prop where
 row : w.heap[c]? = some (.cells #[vl, vs, .bool s.bad] T (0, 0))
 gl : Gr w lo eI 5 (s.list.map TInstr.enc) vl []
 gs : Gr w lo eS 1 (s.slots.map encS) vs []
 hc : c ∈ fp
 hl : ∀ g, vl.ownBlock = some g → g ∈ fp ∧ g ≠ c
 hs : ∀ g, vs.ownBlock = some g → g ∈ fp ∧ g ≠ c ∧ vl.ownBlock ≠ some g
 hb : ∀ b ∈ fp, lo ≤ b ∧ b < w.heap.size
/-- what was run turned only the blocks fp, and made others -/
structure Fr (w w' : World) (fp fp' : List Nat) : Prop where
 kept : Kept w w' fp
 new : ∀ b ∈ fp', b ∈ fp ∨ w.heap.size ≤ b
/-- the state s lies behind the run -/
def Done (w w' : World) (T eI eS lo c : Nat) (fp : List Nat) (s : CS) : Prop := ∃ fp' vl vs, Ste w' T eI eS lo c fp' s vl vs ∧ Fr w w' fp fp'
theorem Fr.refl (w : World) (fp : List Nat) : Fr w w fp fp := ⟨Kept.refl _ _, fun _ h => .inl h⟩
theorem Fr.trans {w w' w'' : World} {f f' f'' : List Nat} (h : Fr w w' f f') (k : Fr w' w'' f' f'') : Fr w w'' f f'' := by
 refine ⟨⟨k.kept.os.trans h.kept.os, k.kept.tape.trans h.kept.tape, k.kept.output.trans h.kept.output, Nat.le_trans h.kept.size k.kept.size, fun b hb hn => ?_⟩, fun b hb => ?_⟩
 ·refine (k.kept.other b (Nat.lt_of_lt_of_le hb h.kept.size) (fun q => ?_)).trans (h.kept.other b hb hn)
  rcases h.new b q with q | q
  ·exact hn q
  ·omega
 ·rcases k.new b hb with q | q
  ·exact h.new b q
  ·exact .inr (Nat.le_trans h.kept.size q)
theorem Fr.below0 {w w' : World} (h : Below w.heap.size w w') (fp : List Nat) : Fr w w' fp fp := ⟨⟨h.os, h.tape, h.output, h.size, fun b hb _ => h.block b hb⟩, fun _ h => .inl h⟩
theorem Fr.below {w w' : World} {fp fp' : List Nat} {lo : Nat} (h : Fr w w' fp fp') (hb : ∀ b ∈ fp, lo ≤ b ∧ b < w.heap.size) (hl : lo ≤ w.heap.size) : Below lo w w' :=
 ⟨h.kept.os, h.kept.tape, h.kept.output, h.kept.size, fun b hx => h.kept.other b (by omega) (fun q => by have := (hb b q).1; omega)⟩
theorem Fr.row {w w' : World} {fp fp' : List Nat} (h : Fr w w' fp fp') {p : Nat} {o : Obj} (hp : w.heap[p]? = some o) (hn : p ∉ fp) : w'.heap[p]? = some o := (h.kept.other p (row_lt hp) hn).trans hp
theorem Fr.notin {w w' : World} {fp fp' : List Nat} (h : Fr w w' fp fp') {p : Nat} (hp : p < w.heap.size) (hn : p ∉ fp) : p ∉ fp' := fun q => by
 rcases h.new p q with q | q
 ·exact hn q
 ·omega
theorem Ste.lt {w : World} {T eI eS lo c : Nat} {fp : List Nat} {s : CS} {vl vs : Value} (h : Ste w T eI eS lo c fp s vl vs) : c < w.heap.size := (h.hb c h.hc).2
theorem Ste.lo {w : World} {T eI eS lo c : Nat} {fp : List Nat} {s : CS} {vl vs : Value} (h : Ste w T eI eS lo c fp s vl vs) : lo ≤ w.heap.size := by
 have := h.hb c h.hc
 omega
theorem Ste.notin {w : World} {T eI eS lo c : Nat} {fp : List Nat} {s : CS} {vl vs : Value} (h : Ste w T eI eS lo c fp s vl vs) {p : Nat} (hp : w.heap.size ≤ p) : p ∉ fp := fun q => by
 have := (h.hb p q).2
 omega
theorem Ste.below {w w' : World} {T eI eS lo c : Nat} {fp : List Nat} {s : CS} {vl vs : Value} (h : Ste w T eI eS lo c fp s vl vs) (hB : Below w.heap.size w w') : Ste w' T eI eS lo c fp s vl vs :=
 ⟨(hB.block c h.lt).trans h.row, h.gl.below hB, h.gs.below hB, h.hc, h.hl, h.hs, fun b hb => ⟨(h.hb b hb).1, Nat.lt_of_lt_of_le (h.hb b hb).2 hB.size⟩⟩
theorem Ste.cell {w : World} {T eI eS lo c : Nat} {fp : List Nat} {s : CS} {vl vs : Value} (h : Ste w T eI eS lo c fp s vl vs) : w.cell? ⟨c, 0, none⟩ = some vl ∧ w.cell? ⟨c, 1, none⟩ = some vs ∧ w.cell? ⟨c, 2, none⟩ = some (.bool s.bad) :=
 ⟨row_cell h.row 0, row_cell h.row 1, row_cell h.row 2⟩
theorem gl_slice {w : World} {lo e size : Nat} {α : Type} {enc : α → D} {l : List α} {v : Value} (h : Gr w lo e size (l.map enc) v []) : ∃ a cap, v = .slice a l.length cap := by
 obtain ⟨a, cap, h⟩ := h.slice
 exact ⟨a, cap, by simpa using h⟩
theorem Ste.kept {w w' : World} {T eI eS lo c : Nat} {fp rs : List Nat} {s : CS} {vl vs : Value} (h : Ste w T eI eS lo c fp s vl vs) (k : Kept w w' rs) (hn : ∀ b ∈ rs, b ∉ fp) : Ste w' T eI eS lo c fp s vl vs :=
 ⟨(k.other c h.lt (fun q => hn c q h.hc)).trans h.row, h.gl.kept k (fun g hg q => hn g q (h.hl g hg).1) (by simp), h.gs.kept k (fun g hg q => hn g q (h.hs g hg).1) (by simp), h.hc, h.hl, h.hs, fun b hb => ⟨(h.hb b hb).1, Nat.lt_of_lt_of_le (h.hb b hb).2 k.size⟩⟩
/-- other blocks, made since, were turned -/
theorem Fr.other {w w8 w9 : World} {fp fp' rs : List Nat} (h : Fr w w8 fp fp') (k : Kept w8 w9 rs) (hr : ∀ b ∈ rs, w.heap.size ≤ b) : Fr w w9 fp fp' :=
 ⟨⟨k.os.trans h.kept.os, k.tape.trans h.kept.tape, k.output.trans h.kept.output, Nat.le_trans h.kept.size k.size, fun b hb hn => (k.other b (Nat.lt_of_lt_of_le hb h.kept.size) (fun q => by have := hr b q; omega)).trans (h.kept.other b hb hn)⟩, h.new⟩
/-- an element of a row of leaves -/
theorem gr_leaf {α : Type} {enc : α → D} (f : α → Value) (he : ∀ x, enc x = .lf (f x)) {w : World} {lo e : Nat} {l : List α} {v : Value} (h : Gr w lo e 1 (l.map enc) v []) {k : Nat} (hk : k < l.length) : ∃ g cap, v = .slice (some ⟨g, 0, none⟩) l.length cap ∧ w.cell? ⟨g, k, none⟩ = some (f l[k]) := by
 obtain ⟨a, cap, bs, rfl, ho, -, -⟩ := h.ownT
 obtain ⟨a', cap', hv, -, -, -, hE⟩ := open_sl (K := fun _ => True) (s := 1) (fun x => by rw [he]; simp only [D.width]) (Own.rep _ _ _ ho (fun _ _ => trivial))
 simp only [Value.slice.injEq, true_and] at hv
 obtain ⟨rfl, rfl⟩ := hv
 obtain ⟨b, off, rfl, -, cs, hcs, hr⟩ := hE k hk
 obtain ⟨xs, h1, -⟩ := h.row
 rcases h1.2 with ⟨hq, -⟩ | ⟨g, cap2, cur, hq, -⟩
 ·simp at hq
 ·simp only [Value.slice.injEq, Option.some.injEq, Addr.mk.injEq, and_true] at hq
  obtain ⟨⟨rfl, rfl⟩, -⟩ := hq
  refine ⟨b, cap, rfl, ?_⟩
  rw [he] at hr
  simp only [Rep] at hr
  rw [hr.1] at hcs
  simpa using hcs 0 _ rfl
/-- the sign is set -/
theorem Ste.fail {w w' : World} {T eI eS lo c : Nat} {fp : List Nat} {s : CS} {vl vs : Value} (h : Ste w T eI eS lo c fp s vl vs) (hp : Put w w' c #[vl, vs, .bool true] T) : Ste w' T eI eS lo c fp s.fail vl vs ∧ Fr w w' fp fp := by
 refine ⟨⟨hp.row, ?_, ?_, h.hc, h.hl, h.hs, fun b hb => by rw [hp.size]; exact h.hb b hb⟩, ⟨hp.kept.mono (by intro b hb; simp only [List.mem_singleton] at hb; subst hb; exact h.hc), fun _ h => .inl h⟩⟩
 ·exact h.gl.kept hp.kept (fun g hg hm => (h.hl g hg).2 (by simpa using hm)) (by simp)
 ·exact h.gs.kept hp.kept (fun g hg hm => (h.hs g hg).2.1 (by simpa using hm)) (by simp)
/-- an instruction's field A is set -/
theorem Ste.patch {w w' : World} {T eI eS lo c : Nat} {fp : List Nat} {s : CS} {vl vs : Value} (h : Ste w T eI eS lo c fp s vl vs) {g : Nat} {arr : Array Value} (hg : vl.ownBlock = some g) (hp : Put w w' g arr eI) {k : Nat}
  (hG : Gr w' lo eI 5 ((patchA s.list k (s.list.length : Int)).map TInstr.enc) vl []) : Ste w' T eI eS lo c fp (s.patch k) vl vs ∧ Fr w w' fp fp := by
 have h1 := h.hl g hg
 refine ⟨⟨row_put h.row hp (fun e => h1.2 e.symm), hG, ?_, h.hc, h.hl, h.hs, fun b hb => by rw [hp.size]; exact h.hb b hb⟩, ⟨hp.kept.mono (by intro b hb; simp only [List.mem_singleton] at hb; subst hb; exact h1.1), fun _ h => .inl h⟩⟩
 exact h.gs.kept hp.kept (fun q hq hm => (h.hs q hq).2.2 (by simp only [List.mem_singleton] at hm; rw [hm]; exact hg)) (by simp)
/-- the row of instructions was appended to (in its block, or in a new one), then its value is stored -/
theorem Ste.setL {w w1 w2 : World} {T eI eS lo c : Nat} {fp : List Nat} {s : CS} {vl vs vl' : Value} {l' : List TInstr} (h : Ste w T eI eS lo c fp s vl vs) (hk : Kept w w1 vl.ownBlock.toList) (hG : Gr w1 lo eI 5 (l'.map TInstr.enc) vl' []) (ho : vl'.ownBlock = vl.ownBlock ∨ ∃ g, vl'.ownBlock = some g ∧ w.heap.size ≤ g)
  (hp : Put w1 w2 c #[vl', vs, .bool s.bad] T) : ∃ fp', Ste w2 T eI eS lo c fp' ⟨l', s.slots, s.bad⟩ vl' vs ∧ Fr w w2 fp fp' := by
 have hc := h.lt
 have hG2 := hG.kept hp.kept (fun g hg hm => by
  simp only [List.mem_singleton] at hm
  subst hm
  rcases ho with ho | ⟨q, ho, hq⟩
  ·rw [ho] at hg; exact (h.hl _ hg).2 rfl
  ·rw [ho] at hg; simp only [Option.some.injEq] at hg; omega) (by simp)
 have hS1 := h.gs.kept hk (fun g hg hm => (h.hs g hg).2.2 (by simpa using hm)) (by simp)
 have hS2 := hS1.kept hp.kept (fun g hg hm => (h.hs g hg).2.1 (by simpa using hm)) (by simp)
 have hkp : Kept w w2 fp := by
  refine (hk.mono ?_).trans (hp.kept.mono ?_)
  ·intro b hb; exact (h.hl b (by simpa using hb)).1
  ·intro b hb; simp only [List.mem_singleton] at hb; subst hb; exact h.hc
 refine ⟨fp ++ vl'.ownBlock.toList, ⟨hp.row, hG2, hS2, by simp [h.hc], fun g hg => ⟨by simp [hg], ?_⟩, fun g hg => ⟨by simp [(h.hs g hg).1], (h.hs g hg).2.1, ?_⟩, ?_⟩, ⟨hkp, ?_⟩⟩
 ·rcases ho with ho | ⟨q, ho, hq⟩
  ·rw [ho] at hg; exact (h.hl _ hg).2
  ·rw [ho] at hg; simp only [Option.some.injEq] at hg; omega
 ·intro hx
  rcases ho with ho | ⟨q, ho, hq⟩
  ·rw [ho] at hx; exact (h.hs g hg).2.2 hx
  ·rw [ho] at hx
   simp only [Option.some.injEq] at hx
   have := (h.hb g (h.hs g hg).1).2
   omega
 ·intro b hb
  rcases List.mem_append.1 hb with hb | hb
  ·exact ⟨(h.hb b hb).1, Nat.lt_of_lt_of_le (h.hb b hb).2 hkp.size⟩
  ·have := hG2.block b (by simpa using hb)
   exact this
 ·intro b hb
  rcases List.mem_append.1 hb with hb | hb
  ·exact .inl hb
  ·rcases ho with ho | ⟨q, ho, hq⟩
   ·rw [ho] at hb; exact .inl (h.hl b (by simpa using hb)).1
   ·rw [ho] at hb; simp only [Option.toList_some, List.mem_singleton] at hb; right; omega
/-- the same for the row of names -/
theorem Ste.setS {w w1 w2 : World} {T eI eS lo c : Nat} {fp : List Nat} {s : CS} {vl vs vs' : Value} {l' : List ByteArray} (h : Ste w T eI eS lo c fp s vl vs) (hk : Kept w w1 vs.ownBlock.toList) (hG : Gr w1 lo eS 1 (l'.map encS) vs' []) (ho : vs'.ownBlock = vs.ownBlock ∨ ∀ g, vs'.ownBlock = some g → w.heap.size ≤ g)
  (hp : Put w1 w2 c #[vl, vs', .bool s.bad] T) : ∃ fp', Ste w2 T eI eS lo c fp' (s.put l') vl vs' ∧ Fr w w2 fp fp' := by
 have hc := h.lt
 have hne : ∀ g, vs'.ownBlock = some g → g ≠ c ∧ vl.ownBlock ≠ some g := fun g hg => by
  rcases ho with ho | ho
  ·rw [ho] at hg; exact (h.hs _ hg).2
  ·have := ho g hg
   refine ⟨by omega, fun q => ?_⟩
   have := (h.hb g (h.hl g q).1).2
   omega
 have hG2 := hG.kept hp.kept (fun g hg hm => (hne g hg).1 (by simpa using hm)) (by simp)
 have hS1 := h.gl.kept hk (fun g hg hm => (h.hs g (by simpa using hm)).2.2 hg) (by simp)
 have hS2 := hS1.kept hp.kept (fun g hg hm => (h.hl g hg).2 (by simpa using hm)) (by simp)
 have hkp : Kept w w2 fp := by
  refine (hk.mono ?_).trans (hp.kept.mono ?_)
  ·intro b hb; exact (h.hs b (by simpa using hb)).1
  ·intro b hb; simp only [List.mem_singleton] at hb; subst hb; exact h.hc
 refine ⟨fp ++ vs'.ownBlock.toList, ⟨hp.row, hS2, hG2, by simp [h.hc], fun g hg => ⟨by simp [(h.hl g hg).1], (h.hl g hg).2⟩, fun g hg => ⟨by simp [hg], hne g hg⟩, ?_⟩, ⟨hkp, ?_⟩⟩
 ·intro b hb
  rcases List.mem_append.1 hb with hb | hb
  ·exact ⟨(h.hb b hb).1, Nat.lt_of_lt_of_le (h.hb b hb).2 hkp.size⟩
  ·exact hG2.block b (by simpa using hb)
 ·intro b hb
  rcases List.mem_append.1 hb with hb | hb
  ·exact .inl hb
  ·rcases ho with ho | ho
   ·rw [ho] at hb; exact .inl (h.hs b (by simpa using hb)).1
   ·exact .inr (ho b (by simpa using hb))
section
variable {P : Program}
/-- append to an own row, as a run -/
theorem run_apF {w : World} (t ty : TypeId) {lo e size : Nat} (z : Value) (bytes : Nat) (ht : P.underlying t = some (.slice e)) (hi : (P.info? e).map (fun i => (i.zero, i.size, i.bytes)) = some (some z, size, bytes)) (hzs : z.cells.size = size) (hsz : 0 < size)
  {v : Value} {ds : List D} (hG : Gr w lo e size ds v []) (b off m c : Nat) {es : List D} {news : List Value} (hm : es.length = m) (hw : ∀ d ∈ es, d.width = size) (hc : Cells w b off news) (hO : OwnS w es news [])
  (h63 : ds.length + m ≤ maxLen) (hbytes : (ds.length + m) * bytes ≤ 140737488355328) (hbase : lo ≤ w.heap.size) :
  ∃ v' w', (Builtin.append_ #[t, t] ty #[v, .slice (some ⟨b, off, none⟩) m c]).run P w = .ok v' w' ∧ Gr w' lo e size (ds ++ es) v' [] ∧ Kept w w' v.ownBlock.toList ∧ (v'.ownBlock = v.ownBlock ∨ v'.ownBlock = some w.heap.size) := by
 cases hq' : P.info? e with
 | none => simp [hq'] at hi
 | some i =>
  simp only [hq', Option.map_some, Option.some.injEq, Prod.mk.injEq] at hi
  obtain ⟨hz, hsize, hby⟩ := hi
  obtain ⟨xs, h1, h2⟩ := hG.row
  have hwe : D.widths es = m * size := by
   clear hO hc h63 hbytes
   subst hm
   induction es with
   | nil => simp [D.widths]
   | cons d es ih =>
    simp only [D.widths, List.length_cons, Nat.add_mul]
    rw [hw d (by simp), ih (fun d hd => hw d (by simp [hd]))]
    omega
  have hl : news.length = m * size := (OwnS.length es news [] hO).trans hwe
  have hone : ∀ u ∈ news, u.oneCell' = true := RepS.one (K := fun _ => True) es news (OwnS.rep es news [] hO (fun _ _ => trivial))
  obtain ⟨v', w', hr, h3, h4, h5⟩ := run_ap (P := P) lo t ty e i z size bytes ht hq' hz hsize hby hzs hsz v ds.length xs h1 ⟨b, off, none⟩ m c news hl (fun j u hu => by rw [Addr.add_lit]; exact hc j u hu) hone h63 hbytes hbase
  refine ⟨v', w', hr, ⟨⟨xs ++ news, by simpa [hm] using h3, ?_⟩, List.nodup_nil, by simp, by simp⟩, ⟨h4.os, h4.tape, h4.output, h4.size, fun k hk' hn => h4.block k hk' (fun e => hn (by simp [e]))⟩, h5⟩
  have := OwnS.append (OwnS.keep es news [] hO (w' := w') (by simp)) ds xs [] (OwnS.keep ds xs [] h2 (by simp))
  simpa using this
/-- a slice without slices inside is appended whole -/
theorem run_apL {w : World} (t ty : TypeId) {lo e size : Nat} (z : Value) (bytes : Nat) (ht : P.underlying t = some (.slice e)) (hi : (P.info? e).map (fun i => (i.zero, i.size, i.bytes)) = some (some z, size, bytes)) (hzs : z.cells.size = size) (hsz : 0 < size)
  {v : Value} {ds : List D} (hG : Gr w lo e size ds v []) {K : Nat → Prop} {α : Type} {enc : α → D} {l : List α} {xv : Value} (hR : Rep w K (.sl (l.map enc)) [xv])
  (hw : ∀ y, (enc y).width = size) (hf : ∀ y, flatD (enc y) = true) (h63 : ds.length + l.length ≤ maxLen) (hbytes : (ds.length + l.length) * bytes ≤ 140737488355328) (hbase : lo ≤ w.heap.size) :
  ∃ v' w', (Builtin.append_ #[t, t] ty #[v, xv]).run P w = .ok v' w' ∧ Gr w' lo e size (ds ++ l.map enc) v' [] ∧ Kept w w' v.ownBlock.toList ∧ (v'.ownBlock = v.ownBlock ∨ v'.ownBlock = some w.heap.size) := by
 simp only [Rep, List.length_map, List.cons.injEq, and_true] at hR
 obtain ⟨ao, cap, rfl, h2, h3, h4, h5⟩ := hR
 cases ao with
 | none =>
  have hc := h4 rfl
  have hl : l = [] := List.length_eq_zero_iff.1 (by omega)
  subst hc
  subst hl
  cases hq' : P.info? e with
  | none => simp [hq'] at hi
  | some i =>
   obtain ⟨xs, k1, k2⟩ := hG.row
   have hsize : i.size = size := by simp [hq'] at hi; exact hi.2.1
   have hrun := run_append_owned_none (P := P) (w := w) lo t ty e i size ht hq' v ds.length xs k1
   exact ⟨v, w, hrun, by simpa using hG, Kept.refl _ _, .inl rfl⟩
 | some ad =>
  rcases h5 with h5 | ⟨b, off, ha, hb, he⟩
  ·have hl : l = [] := by simpa using h5
   subst hl
   cases hq' : P.info? e with
   | none => simp [hq'] at hi
   | some i =>
    simp only [hq', Option.map_some, Option.some.injEq, Prod.mk.injEq] at hi
    obtain ⟨hz, hsize, hby⟩ := hi
    obtain ⟨xs, k1, k2⟩ := hG.row
    obtain ⟨v', w', hr, h3, h4, h5⟩ := run_ap (P := P) lo t ty e i z size bytes ht hq' hz hsize hby hzs hsz v ds.length xs k1 ad 0 cap [] (by simp) (by simp) (by simp) (by simpa using h63) (by simpa using hbytes) hbase
    exact ⟨v', w', hr, ⟨⟨xs, by simpa using h3, by simpa using OwnS.keep ds xs [] k2 (by simp)⟩, List.nodup_nil, by simp, by simp⟩, ⟨h4.os, h4.tape, h4.output, h4.size, fun k hk' hn => h4.block k hk' (fun e => hn (by simp [e]))⟩, h5⟩
  ·simp only [Option.some.injEq] at ha
   subst ha
   obtain ⟨news, k0, k1⟩ := repE_flat (l.map enc) b off (fun d hd => by obtain ⟨y, -, rfl⟩ := List.mem_map.1 hd; exact hf y) he
   exact run_apF (P := P) t ty z bytes ht hi hzs hsz hG b off l.length cap (es := l.map enc) (by simp) (fun d hd => by obtain ⟨y, -, rfl⟩ := List.mem_map.1 hd; exact hw y) k0 k1 h63 hbytes hbase
/-- append to an own row, in a statement that draws nothing -/
theorem apF {w : World} {ops : Array Oper} {rest : List Oper} {o : Oper} {a : Act} {Q : Exit → Act → World → Prop} (hgd : o.guard = none) (s x : Operand) (t : TypeId)
  (ho : o.op = .call { callee := .builtin .append, args := #[s, x], argTypes := #[t, t] })
  {lo e size : Nat} (z : Value) (bytes : Nat) (ht : P.underlying t = some (.slice e)) (hi : (P.info? e).map (fun i => (i.zero, i.size, i.bytes)) = some (some z, size, bytes)) (hzs : z.cells.size = size) (hsz : 0 < size)
  {v : Value} {ds : List D} (hs : a.eval s = v) (hG : Gr w lo e size ds v []) (b off m c : Nat) (hx : a.eval x = .slice (some ⟨b, off, none⟩) m c) {es : List D} {news : List Value} (hm : es.length = m) (hw : ∀ d ∈ es, d.width = size) (hc : Cells w b off news) (hO : OwnS w es news [])
  (h63 : ds.length + m ≤ maxLen) (hbytes : (ds.length + m) * bytes ≤ 140737488355328) (hbase : lo ≤ w.heap.size)
  (h : ∀ v' w', Gr w' lo e size (ds ++ es) v' [] → Kept w w' v.ownBlock.toList → (v'.ownBlock = v.ownBlock ∨ v'.ownBlock = some w.heap.size) → wpList P ops Q rest (a.put o.dst v') w') : wpList P ops Q (o :: rest) a w := by
 refine wpList_plain hgd fun K hK => ?_
 obtain ⟨v', w', hr, h2, h3, h4⟩ := run_apF (P := P) t o.type z bytes ht hi hzs hsz hG b off m c hm hw hc hO h63 hbytes hbase
 unfold Oper.wp execOp
 simp only [ho, resolve, invoke, builtin, Sem.run_bind, Sem.run_pure, Result.andThen_ok, List.map_toArray, List.map_cons, List.map_nil, hs, hx, hr]
 exact hK _ _ (h v' w' h2 h3 h4)
variable {w : World} {o : Oper} {a : Act}
/-- the operation 'append' -/
theorem op_ap (s x : Operand) (t : TypeId) (ho : o.op = .call { callee := .builtin .append, args := #[s, x], argTypes := #[t, t] }) {v u v' : Value} {w' : World} (hs : a.eval s = v) (hx : a.eval x = u)
  (hr : (Builtin.append_ #[t, t] o.type #[v, u]).run P w = .ok v' w') : (execOp a.eval o).run P w = .ok (.value v') w' := by
 unfold execOp
 simp only [ho, resolve, invoke, builtin, Sem.run_bind, Sem.run_pure, Result.andThen_ok, List.map_toArray, List.map_cons, List.map_nil, hs, hx, hr]
/-- a row of one element -/
theorem op_bs1 (t : TypeId) (x : Operand) (ho : o.op = .buildSlice t 1 #[(0, x)]) {e size bytes : Nat} {z : Value} (ht : P.underlying t = some (.slice e)) (hi : (P.info? e).map (fun i => (i.zero, i.size, i.bytes)) = some (some z, size, bytes)) (hsz : 0 < size) (hs24 : size ≤ 2 ^ 24)
  (v : Value) (hx : a.eval x = v) (cs : List Value) (hv : v.cells = cs.toArray) (hl : cs.length = size) :
  ∃ w', (execOp a.eval o).run P w = .ok (.value (.slice (some ⟨w.heap.size, 0, none⟩) 1 1)) w' ∧ Below w.heap.size w w' ∧ Cells w' w.heap.size 0 cs := by
 cases hq' : P.info? e with
 | none => simp [hq'] at hi
 | some i =>
  simp only [hq', Option.map_some, Option.some.injEq, Prod.mk.injEq] at hi
  obtain ⟨hz, hsize, -⟩ := hi
  have hf := Great.fill_whole (s := i.size) (by omega) [v] ((Array.range (1 * i.size)).map (z.cells[· % z.cells.size]!)) (by simp [hv, hl, hsize]) (by simp)
  have hr := run_buildSlice (P := P) w t e 1 ((#[(0, x)] : Array (Nat × Operand)).map fun (i, x) => (i, a.eval x)) cs.toArray i z ht hq' hz (by omega) (by omega) (by simpa [hx, hv] using hf)
  refine ⟨w.alloc (.cells cs.toArray e), ?_, (Below.refl _ _).alloc (Nat.le_refl _) _, row_cells (alloc_at rfl)⟩
  unfold execOp
  simp only [ho, Sem.run_bind, Result.andThen_ok, hr]
  rfl
/-- an empty row -/
theorem op_bs0 (t : TypeId) (ho : o.op = .buildSlice t 0 #[]) {e : Nat} (ht : P.underlying t = some (.slice e)) (hi : ((P.info? e).map (·.size)).isSome = true) :
  ∃ w', (execOp a.eval o).run P w = .ok (.value (.slice (some ⟨w.heap.size, 0, none⟩) 0 0)) w' ∧ Below w.heap.size w w' ∧ w'.heap[w.heap.size]? = some (.cells #[] e (0, 0)) := by
 cases hq' : P.info? e with
 | none => simp [hq'] at hi
 | some i =>
  refine ⟨w.alloc (.cells #[] e), ?_, (Below.refl _ _).alloc (Nat.le_refl _) _, alloc_at rfl⟩
  unfold execOp
  simp only [ho, Sem.run_bind]
  simp [Go.Instr.buildSlice, run_underlying ht, sizeOf, typeInfo, hq', Go.Instr.fill, newRow]
  congr 2
  apply Array.ext <;> simp
/-- one cell is stored -/
theorem op_st1 (ty : TypeId) (x v : Operand) (ho : o.op = .store ty x v) (g off : Nat) (hx : a.eval x = .pointer (some ⟨g, off, none⟩)) (u : Value) (hv : a.eval v = u) (hi : (P.info? ty).map (·.size) = some 1) (h1 : u.oneCell' = true)
  (cur : Array Value) (t : TypeId) (hr : w.heap[g]? = some (.cells cur t (0, 0))) (hf : off < cur.size) :
  ∃ w', (execOp a.eval o).run P w = .ok .skip w' ∧ Put w w' g (cur.toList.take off ++ [u] ++ cur.toList.drop (off + 1)).toArray t := by
 have hst := run_storeCells_at P g off t [u] 0 cur w hr (by simp; omega) (by simpa using h1)
 simp only [Nat.add_zero, List.length_singleton] at hst
 have hcu : u.cells = #[u] := by cases u <;> first | rfl | simp [Value.oneCell'] at h1
 cases hq : P.info? ty with
 | none => simp [hq] at hi
 | some i =>
  have hs : i.size = 1 := by simpa [hq] using hi
  have hsv : (storeVar ty ⟨g, off, none⟩ u).run P w = .ok () (w.setRow g (cur.toList.take off ++ [u] ++ cur.toList.drop (off + 1)).toArray) := by
   simp only [storeVar, Sem.run_bind, sizeOf, typeInfo, hcu]
   simpa [typeInfo, hq, hs] using hst
  refine ⟨w.setRow g (cur.toList.take off ++ [u] ++ cur.toList.drop (off + 1)).toArray, ?_, ⟨rfl, rfl, rfl, by simp, fun b hb => setRow_other w g b _ hb, setRow_heap w g cur _ t (0, 0) hr⟩⟩
  unfold execOp
  simp only [ho, hx, hv, Go.Instr.storeAt, Go.Instr.sureAddr, Sem.run_bind, Sem.run_pure, Result.andThen_ok, hsv]
variable {ops : Array Oper} {K : Act → World → Prop}
theorem oj_bs1 (hg : Region.wanted o (yielded ops a.tmps) = true) (t : TypeId) (x : Operand) (ho : o.op = .buildSlice t 1 #[(0, x)]) {e size bytes : Nat} {z : Value} (ht : P.underlying t = some (.slice e)) (hi : (P.info? e).map (fun i => (i.zero, i.size, i.bytes)) = some (some z, size, bytes)) (hsz : 0 < size) (hs24 : size ≤ 2 ^ 24)
  (v : Value) (hx : a.eval x = v) (cs : List Value) (hv : v.cells = cs.toArray) (hl : cs.length = size)
  (h : ∀ w', Below w.heap.size w w' → Cells w' w.heap.size 0 cs → K (a.put o.dst (.slice (some ⟨w.heap.size, 0, none⟩) 1 1)) w') : oneI P ops [o] a w K := by
 obtain ⟨w', h1, h2, h3⟩ := op_bs1 (P := P) (w := w) t x ho ht hi hsz hs24 v hx cs hv hl
 exact rj_val hg _ _ h1 (h w' h2 h3)
theorem oj_bs0 (hg : Region.wanted o (yielded ops a.tmps) = true) (t : TypeId) (ho : o.op = .buildSlice t 0 #[]) {e : Nat} (ht : P.underlying t = some (.slice e)) (hi : ((P.info? e).map (·.size)).isSome = true)
  (h : ∀ w', Below w.heap.size w w' → w'.heap[w.heap.size]? = some (.cells #[] e (0, 0)) → K (a.put o.dst (.slice (some ⟨w.heap.size, 0, none⟩) 0 0)) w') : oneI P ops [o] a w K := by
 obtain ⟨w', h1, h2, h3⟩ := op_bs0 (P := P) (w := w) (a := a) t ho ht hi
 exact rj_val hg _ _ h1 (h w' h2 h3)
/-- one element, whose cells lie in block b -/
theorem oj_ap (hg : Region.wanted o (yielded ops a.tmps) = true) (s x : Operand) (t : TypeId) (ho : o.op = .call { callee := .builtin .append, args := #[s, x], argTypes := #[t, t] })
  {lo e size : Nat} (z : Value) (bytes : Nat) (ht : P.underlying t = some (.slice e)) (hi : (P.info? e).map (fun i => (i.zero, i.size, i.bytes)) = some (some z, size, bytes)) (hzs : z.cells.size = size) (hsz : 0 < size)
  {v : Value} {ds : List D} (hs : a.eval s = v) (hG : Gr w lo e size ds v []) (b : Nat) (hx : a.eval x = .slice (some ⟨b, 0, none⟩) 1 1) {d : D} {cs : List Value} (hw : d.width = size) (hc : Cells w b 0 cs) (hO : Own w d cs [])
  (h63 : ds.length + 1 ≤ maxLen) (hbytes : (ds.length + 1) * bytes ≤ 140737488355328) (hbase : lo ≤ w.heap.size)
  (h : ∀ v' w', Gr w' lo e size (ds ++ [d]) v' [] → Kept w w' v.ownBlock.toList → (v'.ownBlock = v.ownBlock ∨ v'.ownBlock = some w.heap.size) → K (a.put o.dst v') w') : oneI P ops [o] a w K := by
 obtain ⟨v', w', h1, h2, h3, h4⟩ := run_apF (P := P) t o.type z bytes ht hi hzs hsz hG b 0 1 1 (es := [d]) rfl (by simpa using hw) hc (ownS1 hO) h63 hbytes hbase
 exact rj_val hg _ _ (op_ap s x t ho hs hx h1) (h v' w' h2 h3 h4)
/-- a whole slice -/
theorem oj_apL (hg : Region.wanted o (yielded ops a.tmps) = true) (s x : Operand) (t : TypeId) (ho : o.op = .call { callee := .builtin .append, args := #[s, x], argTypes := #[t, t] })
  {lo e size : Nat} (z : Value) (bytes : Nat) (ht : P.underlying t = some (.slice e)) (hi : (P.info? e).map (fun i => (i.zero, i.size, i.bytes)) = some (some z, size, bytes)) (hzs : z.cells.size = size) (hsz : 0 < size)
  {v : Value} {ds : List D} (hs : a.eval s = v) (hG : Gr w lo e size ds v []) {Kb : Nat → Prop} {α : Type} {enc : α → D} {l : List α} {xv : Value} (hx : a.eval x = xv) (hR : Rep w Kb (.sl (l.map enc)) [xv])
  (hw : ∀ y, (enc y).width = size) (hf : ∀ y, flatD (enc y) = true) (h63 : ds.length + l.length ≤ maxLen) (hbytes : (ds.length + l.length) * bytes ≤ 140737488355328) (hbase : lo ≤ w.heap.size)
  (h : ∀ v' w', Gr w' lo e size (ds ++ l.map enc) v' [] → Kept w w' v.ownBlock.toList → (v'.ownBlock = v.ownBlock ∨ v'.ownBlock = some w.heap.size) → K (a.put o.dst v') w') : oneI P ops [o] a w K := by
 obtain ⟨v', w', h1, h2, h3, h4⟩ := run_apL (P := P) t o.type z bytes ht hi hzs hsz hG hR hw hf h63 hbytes hbase
 exact rj_val hg _ _ (op_ap s x t ho hs hx h1) (h v' w' h2 h3 h4)
theorem oj_st (hg : Region.wanted o (yielded ops a.tmps) = true) (ty : TypeId) (x v : Operand) (ho : o.op = .store ty x v) (g off : Nat) (hx : a.eval x = .pointer (some ⟨g, off, none⟩)) (u : Value) (hv : a.eval v = u) (hi : (P.info? ty).map (·.size) = some 1) (h1 : u.oneCell' = true)
  (cur : Array Value) (t : TypeId) (hr : w.heap[g]? = some (.cells cur t (0, 0))) (hf : off < cur.size)
  (h : ∀ w', Put w w' g (cur.toList.take off ++ [u] ++ cur.toList.drop (off + 1)).toArray t → K (a.put o.dst undef) w') : oneI P ops [o] a w K := by
 obtain ⟨w', k1, k2⟩ := op_st1 (P := P) (w := w) ty x v ho g off hx u hv hi h1 cur t hr hf
 exact rj_skip hg _ k1 (h w' k2)
end
end Go.Proofs.YtkmiecgcibjkbaaGreat
