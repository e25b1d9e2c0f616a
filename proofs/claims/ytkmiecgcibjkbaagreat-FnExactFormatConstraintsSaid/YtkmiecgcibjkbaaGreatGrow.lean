/- Slices that a call builds itself, by append, whose elements own memory. No condition. -/
import Derived.Test.YtkmiecgcibjkbaaGreatMark
import Derived.Laws.AppendOwn
import Derived.Laws.AppendOwnNone
import Derived.Great.FillDense
import Derived.Great.BuildSlice
import Derived.Lib.LazyBuf
namespace Go.Proofs.YtkmiecgcibjkbaaGreat
open Go.RowKit
theorem OwnS.snoc {w : World} {d : D} {cs : List Value} {rd : List Nat} : ∀ (ds : List D) (xs : List Value) (r : List Nat), OwnS w ds xs r → Own w d cs rd → OwnS w (ds ++ [d]) (xs ++ cs) (r ++ rd)
  | [], xs, r, h, ho => by
    simp only [OwnS] at h
    obtain ⟨rfl, rfl⟩ := h
    simp only [List.nil_append, OwnS]
    exact ⟨cs, [], rd, [], by simp, by simp, ho, rfl, rfl⟩
  | x :: ds, xs, r, h, ho => by
    simp only [OwnS] at h
    obtain ⟨c1, c2, b1, b2, rfl, rfl, h3, h4⟩ := h
    simp only [List.cons_append, OwnS]
    exact ⟨c1, c2 ++ cs, b1, b2 ++ rd, by simp, by simp, h3, OwnS.snoc ds c2 b2 h4 ho⟩
theorem OwnS.append {w : World} {es : List D} {ys : List Value} {q : List Nat} (ho : OwnS w es ys q) : ∀ (ds : List D) (xs : List Value) (r : List Nat), OwnS w ds xs r → OwnS w (ds ++ es) (xs ++ ys) (r ++ q)
  | [], xs, r, h => by
    simp only [OwnS] at h
    obtain ⟨rfl, rfl⟩ := h
    simpa using ho
  | x :: ds, xs, r, h => by
    simp only [OwnS] at h
    obtain ⟨c1, c2, b1, b2, rfl, rfl, h3, h4⟩ := h
    simp only [List.cons_append, OwnS]
    exact ⟨c1, c2 ++ ys, b1, b2 ++ q, by simp, by simp, h3, OwnS.append ho ds c2 b2 h4⟩
theorem OwnS.length {w : World} : ∀ (ds : List D) (xs : List Value) (r : List Nat), OwnS w ds xs r → xs.length = D.widths ds := fun ds xs r h => RepS.length (K := fun _ => True) ds xs (OwnS.rep ds xs r h (fun _ _ => trivial))
theorem OwnS.toE {w : World} : ∀ (ds : List D) (xs : List Value) (r : List Nat) (b off : Nat), OwnS w ds xs r → Cells w b off xs → OwnE w ds b off r
  | [], xs, r, b, off, h, _ => by
    simp only [OwnS] at h
    simp only [OwnE]
    exact h.2
  | d :: ds, xs, r, b, off, h, hc => by
    simp only [OwnS] at h
    obtain ⟨c1, c2, b1, b2, rfl, rfl, h3, h4⟩ := h
    have hl := Rep.length (K := fun _ => True) d c1 (Own.rep d c1 b1 h3 (fun _ _ => trivial))
    simp only [OwnE]
    refine ⟨c1, b1, b2, rfl, ?_, h3, OwnS.toE ds c2 b2 b _ h4 ?_⟩
    · intro j u hu
      exact hc j u (by rw [List.getElem?_append_left (List.getElem?_eq_some_iff.1 hu).1]; exact hu)
    · intro j u hu
      rw [Nat.add_assoc]
      refine hc (d.width + j) u ?_
      rw [List.getElem?_append_right (by omega)]
      rw [← hu]
      congr 1
      omega
/-- a slice that is being built: its elements are the trees ds, their blocks r, all from lo on -/
structure Gr (w : World) (lo e size : Nat) (ds : List D) (v : Value) (r : List Nat) : Prop where
  row : ∃ xs, w.ownsRow lo e size v ds.length xs ∧ OwnS w ds xs r
  nd : r.Nodup
  out : ∀ g, v.ownBlock = some g → g ∉ r
  ge : ∀ b ∈ r, lo ≤ b
theorem grown_of_below {w w' : World} (h : Below w.heap.size w w') : w.grownBy w' none := ⟨h.os, h.tape, h.output, h.size, fun k hk _ => h.block k hk⟩
theorem Gr.lt {w : World} {lo e size : Nat} {ds : List D} {v : Value} {r : List Nat} (h : Gr w lo e size ds v r) : ∀ b ∈ r, b < w.heap.size := by
  obtain ⟨xs, -, h2⟩ := h.row
  exact OwnS.lt ds xs r h2
theorem Gr.below {w w' : World} {lo e size : Nat} {ds : List D} {v : Value} {r : List Nat} (h : Gr w lo e size ds v r) (hB : Below w.heap.size w w') : Gr w' lo e size ds v r := by
  obtain ⟨xs, h1, h2⟩ := h.row
  refine ⟨⟨xs, h1.kept (grown_of_below hB) ?_, OwnS.keep ds xs r h2 (fun b hb => hB.block b (OwnS.lt ds xs r h2 b hb))⟩, h.nd, h.out, h.ge⟩
  cases v.ownBlock <;> simp
theorem Gr.kept {w w' : World} {lo e size : Nat} {ds : List D} {v : Value} {r rs : List Nat} (h : Gr w lo e size ds v r) (k : Kept w w' rs) (hv : ∀ g, v.ownBlock = some g → g ∉ rs) (hr : ∀ b ∈ r, b ∉ rs) : Gr w' lo e size ds v r := by
  obtain ⟨xs, h1, h2⟩ := h.row
  refine ⟨⟨xs, ⟨h1.1, ?_⟩, OwnS.keep ds xs r h2 (fun b hb => k.other b (OwnS.lt ds xs r h2 b hb) (hr b hb))⟩, h.nd, h.out, h.ge⟩
  rcases h1.2 with hn | ⟨g, cap, cur, rfl, hb, hgg, rest⟩
  · exact .inl hn
  · exact .inr ⟨g, cap, cur, rfl, hb, (k.other g (Array.getElem?_eq_some_iff.1 hgg).1 (hv g rfl)).trans hgg, rest⟩
theorem Gr.nil (w : World) (lo e size : Nat) : Gr w lo e size [] (.slice none 0 0) [] :=
  ⟨⟨[], World.ownsRow_nil w lo e size, by simp only [OwnS]; exact ⟨trivial, trivial⟩⟩, List.nodup_nil, by simp, by simp⟩
theorem Gr.made {w : World} {lo e size : Nat} {g : Nat} (hg : w.heap[g]? = some (.cells #[] e (0, 0))) (hl : lo ≤ g) : Gr w lo e size [] (.slice (some ⟨g, 0, none⟩) 0 0) [] := by
  refine ⟨⟨[], ⟨by simp, .inr ⟨g, 0, #[], rfl, hl, hg, Nat.le_refl _, by simp [maxLen], by simp, by simp⟩⟩, by simp only [OwnS]; exact ⟨trivial, trivial⟩⟩, List.nodup_nil, by simp, by simp⟩
theorem Gr.slice {w : World} {lo e size : Nat} {ds : List D} {v : Value} {r : List Nat} (h : Gr w lo e size ds v r) : ∃ a cap, v = .slice a ds.length cap := by
  obtain ⟨xs, h1, -⟩ := h.row
  rcases h1.2 with ⟨rfl, hn⟩ | ⟨g, cap, cur, rfl, -⟩
  · exact ⟨_, _, by rw [hn]⟩
  · exact ⟨_, _, rfl⟩
theorem Gr.block {w : World} {lo e size : Nat} {ds : List D} {v : Value} {r : List Nat} (h : Gr w lo e size ds v r) : ∀ g, v.ownBlock = some g → lo ≤ g ∧ g < w.heap.size := by
  obtain ⟨xs, h1, -⟩ := h.row
  exact h1.lt
/-- the slice is done -/
theorem Gr.own {w : World} {lo e size : Nat} {ds : List D} {v : Value} {r : List Nat} (h : Gr w lo e size ds v r) :
    ∃ a cap bs, v = .slice a ds.length cap ∧ Own w (.sl ds) [.slice a ds.length cap] bs ∧ bs.Nodup ∧ ∀ b ∈ bs, lo ≤ b ∧ b < w.heap.size := by
  obtain ⟨xs, h1, h2⟩ := h.row
  rcases h1.2 with ⟨rfl, hn⟩ | ⟨g, cap, cur, rfl, hb, hgg, hnc, hcm, hcs, htake⟩
  · have := List.length_eq_zero_iff.1 hn
    subst this
    refine ⟨none, 0, [], rfl, ?_, List.nodup_nil, by simp⟩
    simp only [Own]
    exact ⟨_, _, rfl, Nat.le_refl _, by simp [maxLen], by simp, .inl ⟨trivial, trivial⟩⟩
  · refine ⟨some ⟨g, 0, none⟩, cap, g :: r, rfl, ?_, List.nodup_cons.2 ⟨h.out g rfl, h.nd⟩, ?_⟩
    · simp only [Own]
      refine ⟨_, _, rfl, hnc, hcm, by simp, .inr ⟨g, 0, r, rfl, rfl, ⟨_, _, hgg⟩, OwnS.toE ds xs r g 0 h2 ?_⟩⟩
      intro j u hu
      have := h1.cells (g := g) rfl j u hu
      rw [Addr.add_lit] at this
      exact this
    · intro b hbb
      rcases List.mem_cons.1 hbb with rfl | hbb
      · exact ⟨hb, (Array.getElem?_eq_some_iff.1 hgg).1⟩
      · exact ⟨h.ge b hbb, OwnS.lt ds xs r h2 b hbb⟩
/-- as 'run_append_own', with the row's block: it is the one that there was, or a new one -/
theorem run_ap {P : Program} {w : World} (base : Nat) (t ty e : TypeId) (i : TypeInfo) (z : Value) (size bytes : Nat) (ht : P.underlying t = some (.slice e)) (hi : P.info? e = some i) (hz : i.zero = some z)
    (hsize : i.size = size) (hby : i.bytes = bytes) (hzs : z.cells.size = size) (hsz : 0 < size) (v : Value) (n : Nat) (xs : List Value) (hown : w.ownsRow base e size v n xs)
    (a : Addr) (m c : Nat) (news : List Value) (hl : news.length = m * size) (hnews : ∀ j u, news[j]? = some u → w.cell? (a.add j) = some u) (h1 : ∀ u ∈ news, u.oneCell' = true)
    (h63 : n + m ≤ maxLen) (hbytes : (n + m) * bytes ≤ 140737488355328) (hbase : base ≤ w.heap.size) :
    ∃ v' w', (Builtin.append_ #[t, t] ty #[v, .slice (some a) m c]).run P w = .ok v' w' ∧ w'.ownsRow base e size v' (n + m) (xs ++ news) ∧ w.grownBy w' v.ownBlock ∧ (v'.ownBlock = v.ownBlock ∨ v'.ownBlock = some w.heap.size) := by
  obtain ⟨v', w', hr, h2, h3, h4⟩ := run_append_own (P := P) w base t ty e i z size bytes ht hi hz hsize hby hzs hsz v n xs hown a m c news hl hnews h1 h63 hbytes hbase
  refine ⟨v', w', hr, h2, h3, ?_⟩
  subst hsize
  subst hby
  have hsm : n + m ≤ 9223372036854775807 := by simp only [maxLen] at h63; omega
  rcases hown.2 with ⟨rfl, rfl⟩ | ⟨g, cap, cur, rfl, hbg, hg, hnc, hcm, hcs, htake⟩
  · rcases Nat.eq_zero_or_pos m with rfl | hm
    · left
      rw [h4.2 ⟨rfl, rfl⟩]
    · right
      have hb := hbytes
      simp only [Nat.zero_add] at hb
      rw [run_append_nil (P := P) w t ty e i z ht hi hz a m c news hl hnews hm (by omega) (by omega)] at hr
      simp only [Result.ok.injEq] at hr
      rw [← hr.1]
      rfl
  · by_cases hroom : n + m ≤ cap
    · left
      have hfit : n * i.size + news.length ≤ cur.size := by rw [hl, hcs, ← Nat.add_mul]; exact Nat.mul_le_mul_right _ hroom
      rw [run_append_room (P := P) w t ty e i ht hi g n cap cur hg a m c news hl hnews h1 hroom hfit] at hr
      simp only [Result.ok.injEq] at hr
      rw [← hr.1]
      rfl
    · right
      rw [run_append_grow (P := P) w t ty e i z ht hi hz ⟨g, 0, none⟩ n cap xs hown.1 (hown.cells (g := g) rfl) a m c news hl hnews (by omega) (by omega) (growslice_fits (by omega) hbytes)] at hr
      simp only [Result.ok.injEq] at hr
      rw [← hr.1]
      rfl
/-- elements more: the cells 'news' lie at b from off on, they are the trees es with the blocks q -/
theorem run_gr {P : Program} {w : World} (t ty : TypeId) {lo e size : Nat} (z : Value) (bytes : Nat) (ht : P.underlying t = some (.slice e)) (hi : (P.info? e).map (fun i => (i.zero, i.size, i.bytes)) = some (some z, size, bytes)) (hzs : z.cells.size = size) (hsz : 0 < size)
    {v : Value} {ds : List D} {r : List Nat} (hG : Gr w lo e size ds v r) (b off m c : Nat) {es : List D} {news : List Value} {q : List Nat} (hm : es.length = m) (hw : ∀ d ∈ es, d.width = size) (hc : Cells w b off news) (hO : OwnS w es news q)
    (hq : q.Nodup) (hqr : ∀ x ∈ r, x ∉ q) (hqv : ∀ g, v.ownBlock = some g → g ∉ q) (hql : ∀ x ∈ q, lo ≤ x)
    (h63 : ds.length + m ≤ maxLen) (hbytes : (ds.length + m) * bytes ≤ 140737488355328) (hbase : lo ≤ w.heap.size) :
    ∃ v' w', (Builtin.append_ #[t, t] ty #[v, .slice (some ⟨b, off, none⟩) m c]).run P w = .ok v' w' ∧ Gr w' lo e size (ds ++ es) v' (r ++ q) ∧ Below lo w w' ∧ Kept w w' (v.ownBlock.toList) := by
  cases hq' : P.info? e with
  | none => simp [hq'] at hi
  | some i =>
    simp only [hq', Option.map_some, Option.some.injEq, Prod.mk.injEq] at hi
    obtain ⟨hz, hsize, hby⟩ := hi
    obtain ⟨xs, h1, h2⟩ := hG.row
    have hwe : D.widths es = m * size := by
      clear hO hc hqr hqv hql h63 hbytes
      subst hm
      induction es with
      | nil => simp [D.widths]
      | cons d es ih =>
        simp only [D.widths, List.length_cons, Nat.add_mul]
        rw [hw d (by simp), ih (fun d hd => hw d (by simp [hd]))]
        omega
    have hl : news.length = m * size := (OwnS.length es news q hO).trans hwe
    have hone : ∀ u ∈ news, u.oneCell' = true := RepS.one (K := fun _ => True) es news (OwnS.rep es news q hO (fun _ _ => trivial))
    obtain ⟨v', w', hr, h3, h4, h5⟩ := run_ap (P := P) lo t ty e i z size bytes ht hq' hz hsize hby hzs hsz v ds.length xs h1 ⟨b, off, none⟩ m c news hl (fun j u hu => by rw [Addr.add_lit]; exact hc j u hu) hone h63 hbytes hbase
    have hk : ∀ k, k < w.heap.size → v.ownBlock ≠ some k → w'.heap[k]? = w.heap[k]? := fun k hk hn => h4.block k hk (fun e => hn e.symm)
    refine ⟨v', w', hr, ⟨⟨xs ++ news, by simpa [hm] using h3, ?_⟩, ?_, ?_, ?_⟩, ?_, ?_⟩
    · refine OwnS.append (OwnS.keep es news q hO ?_) ds xs r (OwnS.keep ds xs r h2 ?_)
      · intro b hb
        exact hk b (OwnS.lt _ _ _ hO b hb) (fun e => hqv b e hb)
      · intro b hb
        exact hk b (OwnS.lt _ _ _ h2 b hb) (fun e => hG.out b e hb)
    · exact List.nodup_append.2 ⟨hG.nd, hq, fun x hx y hy e => hqr x hx (e ▸ hy)⟩
    · intro g hg hgm
      rcases h5 with h5 | h5
      · rw [h5] at hg
        rcases List.mem_append.1 hgm with hgm | hgm
        · exact hG.out g hg hgm
        · exact hqv g hg hgm
      · rw [h5] at hg
        simp only [Option.some.injEq] at hg
        subst hg
        rcases List.mem_append.1 hgm with hgm | hgm
        · exact absurd (OwnS.lt _ _ _ h2 _ hgm) (Nat.lt_irrefl _)
        · exact absurd (OwnS.lt _ _ _ hO _ hgm) (Nat.lt_irrefl _)
    · intro b hb
      rcases List.mem_append.1 hb with hb | hb
      · exact hG.ge b hb
      · exact hql b hb
    · exact ⟨h4.os, h4.tape, h4.output, h4.size, fun k hk' => hk k (Nat.lt_of_lt_of_le hk' hbase) (fun e => by have := (h1.lt k e).1; omega)⟩
    · exact ⟨h4.os, h4.tape, h4.output, h4.size, fun k hk' hn => hk k hk' (fun e => hn (by simp [e]))⟩
/-- the same for the walk -/
theorem apg {P : Program} {w : World} {ops : Array Oper} {rest : List Oper} {o : Oper} {a : Act} {Q : Exit → Act → World → Prop} (hgd : o.guard = none) (s x : Operand) (t : TypeId)
    (ho : o.op = .call { callee := .builtin .append, args := #[s, x], argTypes := #[t, t] })
    {lo e size : Nat} (z : Value) (bytes : Nat) (ht : P.underlying t = some (.slice e)) (hi : (P.info? e).map (fun i => (i.zero, i.size, i.bytes)) = some (some z, size, bytes)) (hzs : z.cells.size = size) (hsz : 0 < size)
    {v : Value} {ds : List D} {r : List Nat} (hs : a.eval s = v) (hG : Gr w lo e size ds v r)
    (b off m c : Nat) (hx : a.eval x = .slice (some ⟨b, off, none⟩) m c) {es : List D} {news : List Value} {q : List Nat} (hm : es.length = m) (hw : ∀ d ∈ es, d.width = size) (hc : Cells w b off news) (hO : OwnS w es news q)
    (hq : q.Nodup) (hqr : ∀ x ∈ r, x ∉ q) (hqv : ∀ g, v.ownBlock = some g → g ∉ q) (hql : ∀ x ∈ q, lo ≤ x)
    (h63 : ds.length + m ≤ maxLen) (hbytes : (ds.length + m) * bytes ≤ 140737488355328) (hbase : lo ≤ w.heap.size)
    (h : ∀ v' w', Gr w' lo e size (ds ++ es) v' (r ++ q) → Below lo w w' → Kept w w' (v.ownBlock.toList) → wpList P ops Q rest (a.put o.dst v') w') : wpList P ops Q (o :: rest) a w := by
  refine wpList_plain hgd fun K hK => ?_
  obtain ⟨v', w', hr, h2, h3, h4⟩ := run_gr (P := P) t o.type z bytes ht hi hzs hsz hG b off m c hm hw hc hO hq hqr hqv hql h63 hbytes hbase
  unfold Oper.wp execOp
  simp only [ho, resolve, invoke, builtin, Sem.run_bind, Sem.run_pure, Result.andThen_ok, List.map_toArray, List.map_cons, List.map_nil, hs, hx, hr]
  exact hK _ _ (h v' w' h2 h3 h4)
/-- nothing is appended: nil -/
theorem apn {P : Program} {w : World} {ops : Array Oper} {rest : List Oper} {o : Oper} {a : Act} {Q : Exit → Act → World → Prop} (hgd : o.guard = none) (s x : Operand) (t : TypeId)
    (ho : o.op = .call { callee := .builtin .append, args := #[s, x], argTypes := #[t, t] })
    {lo e size : Nat} (ht : P.underlying t = some (.slice e)) (hi : (P.info? e).map (·.size) = some size) {v : Value} {ds : List D} {r : List Nat} (hs : a.eval s = v) (hG : Gr w lo e size ds v r) (hx : a.eval x = .slice none 0 0)
    (h : wpList P ops Q rest (a.put o.dst v) w) : wpList P ops Q (o :: rest) a w := by
  cases hq' : P.info? e with
  | none => simp [hq'] at hi
  | some i =>
    obtain ⟨xs, h1, h2⟩ := hG.row
    exact wpList_append_own_none hgd s x t ho lo e i size ht hq' v ds.length xs hs h1 hx h
/-- a value in a row of one element -/
theorem bs1 {P : Program} {w : World} {ops : Array Oper} {rest : List Oper} {o : Oper} {a : Act} {Q : Exit → Act → World → Prop} (hgd : o.guard = none) (t : TypeId) (x : Operand) (ho : o.op = .buildSlice t 1 #[(0, x)])
    {e size bytes : Nat} {z : Value} (ht : P.underlying t = some (.slice e)) (hi : (P.info? e).map (fun i => (i.zero, i.size, i.bytes)) = some (some z, size, bytes)) (hsz : 0 < size) (hs24 : size ≤ 2 ^ 24)
    (v : Value) (hx : a.eval x = v) (cs : List Value) (hv : v.cells = cs.toArray) (hl : cs.length = size)
    (h : ∀ w', Below w.heap.size w w' → w'.heap[w.heap.size]? = some (.cells cs.toArray e (0, 0)) → wpList P ops Q rest (a.put o.dst (.slice (some ⟨w.heap.size, 0, none⟩) 1 1)) w') : wpList P ops Q (o :: rest) a w := by
  cases hq' : P.info? e with
  | none => simp [hq'] at hi
  | some i =>
    simp only [hq', Option.map_some, Option.some.injEq, Prod.mk.injEq] at hi
    obtain ⟨hz, hsize, -⟩ := hi
    refine wpList_buildSlice hgd t e 1 #[(0, x)] ho cs.toArray i z ht hq' hz (by omega) (by omega) ?_ (h _ ((Below.refl _ _).alloc (Nat.le_refl _) _) (alloc_at rfl))
    have hf := Great.fill_whole (s := i.size) (by omega) [v] ((Array.range (1 * i.size)).map (z.cells[· % z.cells.size]!)) (by simp [hv, hl, hsize]) (by simp)
    simpa [hx, hv] using hf
theorem cells_of {w : World} {b : Nat} {arr : Array Value} {t : TypeId} (h : w.heap[b]? = some (.cells arr t (0, 0))) (off : Nat) (cs : List Value) (he : (arr.toList.drop off).take cs.length = cs) : Cells w b off cs := by
  intro j u hu
  have hj := (List.getElem?_eq_some_iff.1 hu).1
  rw [row_cell h]
  have h2 : ((arr.toList.drop off).take cs.length)[j]? = some u := by rw [he]; exact hu
  rw [List.getElem?_take, if_pos hj, List.getElem?_drop] at h2
  simpa using h2
theorem row_lt {w : World} {b : Nat} {o : Obj} (h : w.heap[b]? = some o) : b < w.heap.size := by
  have := (Array.getElem?_eq_some_iff.1 h).1
  exact this
theorem row_below {w w' : World} {b lo : Nat} {o : Obj} (h : w.heap[b]? = some o) (hB : Below lo w w') (hb : b < lo) : w'.heap[b]? = some o := (hB.block b hb).trans h
theorem row_put {w w' : World} {b g : Nat} {o : Obj} {arr : Array Value} {t : TypeId} (h : w.heap[b]? = some o) (hp : Put w w' g arr t) (hb : b ≠ g) : w'.heap[b]? = some o := (hp.other b hb).trans h
theorem Put.kept {w w' : World} {g : Nat} {arr : Array Value} {t : TypeId} (h : Put w w' g arr t) : Kept w w' [g] :=
  ⟨h.os, h.tape, h.output, by rw [h.size]; exact Nat.le_refl _, fun b _ hn => h.other b (by simpa using hn)⟩
theorem Gr.put {w w' : World} {lo e size g : Nat} {ds : List D} {v : Value} {r : List Nat} {arr : Array Value} {t : TypeId} (h : Gr w lo e size ds v r) (hp : Put w w' g arr t) (hg : g < lo) : Gr w' lo e size ds v r :=
  h.kept hp.kept (fun q hq hm => by have := (h.block q hq).1; simp only [List.mem_singleton] at hm; omega) (fun b hb hm => by have := h.ge b hb; simp only [List.mem_singleton] at hm; omega)
theorem Own.put {w w' : World} {g : Nat} {d : D} {cs : List Value} {bs : List Nat} {arr : Array Value} {t : TypeId} (h : Own w d cs bs) (hp : Put w w' g arr t) (hg : ∀ x ∈ bs, x ≠ g) : Own w' d cs bs :=
  Own.keep _ _ _ h (fun b hb => hp.other b (hg b hb))
theorem Own.belowLo {w w' : World} {lo : Nat} {d : D} {cs : List Value} {bs : List Nat} (h : Own w d cs bs) (hB : Below lo w w') (hs : ∀ x ∈ bs, x < lo) : Own w' d cs bs :=
  Own.keep _ _ _ h (fun b hb => hB.block b (hs b hb))
theorem Own.below {w w' : World} {d : D} {cs : List Value} {bs : List Nat} (h : Own w d cs bs) (hB : Below w.heap.size w w') : Own w' d cs bs :=
  Own.keep _ _ _ h (fun b hb => hB.block b (Own.lt _ _ _ h b hb))
theorem ownS1 {w : World} {d : D} {cs : List Value} {q : List Nat} (h : Own w d cs q) : OwnS w [d] cs q :=
  OwnS_cons.2 ⟨cs, [], q, [], by simp, by simp, h, OwnS_nil.2 ⟨rfl, rfl⟩⟩
mutual
/-- no slice inside -/
def flatD : D → Bool
  | .lf _ => true
  | .st fs => flatDs fs
  | .sl _ => false
def flatDs : List D → Bool
  | [] => true
  | d :: ds => flatD d && flatDs ds
end
mutual
theorem Rep.own_flat {w : World} {K : Nat → Prop} : ∀ (d : D) (cs : List Value), flatD d = true → Rep w K d cs → Own w d cs []
  | .lf v, cs, _, h => by
    simp only [Rep] at h
    simp only [Own]
    exact ⟨h.1, h.2, trivial⟩
  | .st fs, cs, hf, h => by
    simp only [Rep] at h
    simp only [Own]
    exact RepS.own_flat fs cs (by simpa only [flatD] using hf) h
  | .sl es, cs, hf, h => by simp [flatD] at hf
theorem RepS.own_flat {w : World} {K : Nat → Prop} : ∀ (ds : List D) (cs : List Value), flatDs ds = true → RepS w K ds cs → OwnS w ds cs []
  | [], cs, _, h => by
    simp only [RepS] at h
    simp only [OwnS]
    exact ⟨h, trivial⟩
  | d :: ds, cs, hf, h => by
    simp only [flatDs, Bool.and_eq_true] at hf
    simp only [RepS] at h
    obtain ⟨c1, c2, rfl, h1, h2⟩ := h
    simp only [OwnS]
    exact ⟨c1, c2, [], [], rfl, rfl, Rep.own_flat d c1 hf.1 h1, RepS.own_flat ds c2 hf.2 h2⟩
end
theorem repE_flat {w : World} {K : Nat → Prop} : ∀ (es : List D) (b off : Nat), (∀ d ∈ es, flatD d = true) → RepE w K es b off → ∃ news, Cells w b off news ∧ OwnS w es news []
  | [], b, off, _, _ => ⟨[], fun j u hu => by simp at hu, by simp only [OwnS]; exact ⟨trivial, trivial⟩⟩
  | d :: ds, b, off, hf, h => by
    simp only [RepE] at h
    obtain ⟨⟨cs, hc, hr⟩, h2⟩ := h
    obtain ⟨news, h3, h4⟩ := repE_flat ds b _ (fun d hd => hf d (by simp [hd])) h2
    have hl := Rep.length d cs hr
    refine ⟨cs ++ news, ?_, ?_⟩
    · intro j u hu
      by_cases hj : j < cs.length
      · rw [List.getElem?_append_left hj] at hu
        exact hc j u hu
      · rw [List.getElem?_append_right (by omega)] at hu
        have := h3 _ u hu
        rw [← hl, show off + cs.length + (j - cs.length) = off + j by omega] at this
        exact this
    · simp only [OwnS]
      exact ⟨cs, news, [], [], rfl, rfl, Rep.own_flat d cs (hf d (by simp)) hr, h4⟩
theorem run_gr0 {P : Program} {w : World} (t ty : TypeId) {lo e size : Nat} (bytes : Nat) (z : Value) (ht : P.underlying t = some (.slice e)) (hi : (P.info? e).map (fun i => (i.zero, i.size, i.bytes)) = some (some z, size, bytes)) (hzs : z.cells.size = size) (hsz : 0 < size)
    {v : Value} {ds : List D} {r : List Nat} (hG : Gr w lo e size ds v r) (ad : Addr) (c : Nat) (h63 : ds.length ≤ maxLen) (hbytes : ds.length * bytes ≤ 140737488355328) (hbase : lo ≤ w.heap.size) :
    ∃ v' w', (Builtin.append_ #[t, t] ty #[v, .slice (some ad) 0 c]).run P w = .ok v' w' ∧ Gr w' lo e size ds v' r ∧ Below lo w w' ∧ Kept w w' (v.ownBlock.toList) := by
  cases hq' : P.info? e with
  | none => simp [hq'] at hi
  | some i =>
    simp only [hq', Option.map_some, Option.some.injEq, Prod.mk.injEq] at hi
    obtain ⟨hz, hsize, hby⟩ := hi
    obtain ⟨xs, h1, h2⟩ := hG.row
    obtain ⟨v', w', hr, h3, h4, h5⟩ := run_ap (P := P) lo t ty e i z size bytes ht hq' hz hsize hby hzs hsz v ds.length xs h1 ad 0 c [] (by simp) (by simp) (by simp) (by simpa using h63) (by simpa using hbytes) hbase
    have hk : ∀ k, k < w.heap.size → v.ownBlock ≠ some k → w'.heap[k]? = w.heap[k]? := fun k hk hn => h4.block k hk (fun e => hn e.symm)
    refine ⟨v', w', hr, ⟨⟨xs, by simpa using h3, ?_⟩, hG.nd, ?_, hG.ge⟩, ?_, ?_⟩
    · exact OwnS.keep ds xs r h2 (fun b hb => hk b (OwnS.lt _ _ _ h2 b hb) (fun e => hG.out b e hb))
    · intro g hg hgm
      rcases h5 with h5 | h5
      · rw [h5] at hg
        exact hG.out g hg hgm
      · rw [h5] at hg
        simp only [Option.some.injEq] at hg
        subst hg
        exact absurd (OwnS.lt _ _ _ h2 _ hgm) (Nat.lt_irrefl _)
    · exact ⟨h4.os, h4.tape, h4.output, h4.size, fun k hk' => hk k (Nat.lt_of_lt_of_le hk' hbase) (fun e => by have := (h1.lt k e).1; omega)⟩
    · exact ⟨h4.os, h4.tape, h4.output, h4.size, fun k hk' hn => hk k hk' (fun e => hn (by simp [e]))⟩
/-- a slice without slices inside is appended whole -/
theorem apf {P : Program} {w : World} {ops : Array Oper} {rest : List Oper} {o : Oper} {a : Act} {Q : Exit → Act → World → Prop} (hgd : o.guard = none) (s x : Operand) (t : TypeId)
    (ho : o.op = .call { callee := .builtin .append, args := #[s, x], argTypes := #[t, t] })
    {lo e size : Nat} (z : Value) (bytes : Nat) (ht : P.underlying t = some (.slice e)) (hi : (P.info? e).map (fun i => (i.zero, i.size, i.bytes)) = some (some z, size, bytes)) (hzs : z.cells.size = size) (hsz : 0 < size)
    {v : Value} {ds : List D} {r : List Nat} (hs : a.eval s = v) (hG : Gr w lo e size ds v r) {K : Nat → Prop} {α : Type} {enc : α → D} {l : List α} {xv : Value} (hx : a.eval x = xv) (hR : Rep w K (.sl (l.map enc)) [xv])
    (hw : ∀ y, (enc y).width = size) (hf : ∀ y, flatD (enc y) = true) (h63 : ds.length + l.length ≤ maxLen) (hbytes : (ds.length + l.length) * bytes ≤ 140737488355328) (hbase : lo ≤ w.heap.size)
    (h : ∀ v' w', Gr w' lo e size (ds ++ l.map enc) v' r → Below lo w w' → Kept w w' (v.ownBlock.toList) → wpList P ops Q rest (a.put o.dst v') w') : wpList P ops Q (o :: rest) a w := by
  simp only [Rep, List.length_map, List.cons.injEq, and_true] at hR
  obtain ⟨ao, cap, rfl, h2, h3, h4, h5⟩ := hR
  have hnil : l = [] → l.map enc = [] := fun h => by rw [h]; rfl
  cases ao with
  | none =>
    have hc := h4 rfl
    have hl : l = [] := List.length_eq_zero_iff.1 (by omega)
    subst hc
    subst hl
    refine apn hgd s x t ho ht (size := size) ?_ hs hG (by simpa using hx) ?_
    · cases hq' : P.info? e with
      | none => simp [hq'] at hi
      | some i =>
        simp only [hq', Option.map_some, Option.some.injEq, Prod.mk.injEq] at hi
        simp [hi.2.1]
    · exact h v w (by simpa using hG) (Below.refl _ _) (Kept.refl _ _)
  | some ad =>
    refine wpList_plain hgd fun K' hK => ?_
    rcases h5 with h5 | ⟨b, off, ha, hb, he⟩
    · have hl : l = [] := by simpa using h5
      subst hl
      obtain ⟨v', w', hr, k2, k3, k4⟩ := run_gr0 (P := P) t o.type bytes z ht hi hzs hsz hG ad cap (by simpa using h63) (by simpa using hbytes) hbase
      unfold Oper.wp execOp
      simp only [ho, resolve, invoke, builtin, Sem.run_bind, Sem.run_pure, Result.andThen_ok, List.map_toArray, List.map_cons, List.map_nil, hs, hx, List.length_nil, hr]
      exact hK _ _ (h v' w' (by simpa using k2) k3 k4)
    · simp only [Option.some.injEq] at ha
      subst ha
      obtain ⟨news, k0, k1⟩ := repE_flat (l.map enc) b off (fun d hd => by obtain ⟨y, -, rfl⟩ := List.mem_map.1 hd; exact hf y) he
      obtain ⟨v', w', hr, k2, k3, k4⟩ := run_gr (P := P) t o.type z bytes ht hi hzs hsz hG b off l.length cap (es := l.map enc) (by simp) (fun d hd => by obtain ⟨y, -, rfl⟩ := List.mem_map.1 hd; exact hw y) k0 k1 List.nodup_nil (by simp) (by simp) (by simp) h63 hbytes hbase
      unfold Oper.wp execOp
      simp only [ho, resolve, invoke, builtin, Sem.run_bind, Sem.run_pure, Result.andThen_ok, List.map_toArray, List.map_cons, List.map_nil, hs, hx, hr]
      exact hK _ _ (h v' w' (by simpa using k2) k3 k4)
theorem flatS (x : ByteArray) : flatD (encS x) = true := by simp only [encS, flatD]
theorem flatI (x : Int) : flatD (encI x) = true := by simp only [encI, flatD]
theorem Gr.ownT {α : Type} {enc : α → D} {w : World} {lo e size : Nat} {l : List α} {v : Value} {r : List Nat} (h : Gr w lo e size (l.map enc) v r) :
    ∃ a cap bs, v = .slice a l.length cap ∧ Own w (.sl (l.map enc)) [.slice a l.length cap] bs ∧ bs.Nodup ∧ ∀ b ∈ bs, lo ≤ b ∧ b < w.heap.size := by
  obtain ⟨a, cap, bs, h1, h2, h3, h4⟩ := h.own
  simp only [List.length_map] at h1 h2
  exact ⟨a, cap, bs, h1, h2, h3, h4⟩
/-- a slice of one element -/
theorem own_single {α : Type} {enc : α → D} {w : World} {g : Nat} {x : α} {cs : List Value} {bs : List Nat} {e : TypeId} (h : w.heap[g]? = some (.cells cs.toArray e (0, 0))) (ho : Own w (enc x) cs bs) :
    Own w (.sl ([x].map enc)) [.slice (some ⟨g, 0, none⟩) 1 1] (g :: bs) := by
  simp only [Own, List.map_cons, List.map_nil, List.length_cons, List.length_nil, OwnE]
  exact ⟨_, _, rfl, Nat.le_refl _, by simp [maxLen], by simp, .inr ⟨g, 0, bs, rfl, rfl, ⟨_, _, h⟩, cs, bs, [], by simp, row_cells h, ho, rfl⟩⟩
end Go.Proofs.YtkmiecgcibjkbaaGreat
