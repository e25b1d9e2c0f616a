/- Marks: what the functions mark; The text of a mark, walked; The marks of this program's types, laid flat. No condition but sizes. -/
import Derived.Test.YtdooklofebdknaaGreatM02
import Derived.Test.YtdooklofebdknaaGreatM04
import Derived.Laws.BytesArg
namespace Go.Proofs.YtdooklofebdknaaGreat
open Go.RowKit
/-- the digits of k ahead of what stands there -/
def digs (k : Nat) (out : List UInt8) : List UInt8 :=
 if h : k = 0 then out else digs (k / 10) (UInt8.ofNat (48 + k % 10) :: out)
 termination_by k
 decreasing_by omega
/-- the text of mark k -/
def mtext (k : Int) : ByteArray := ⟨(109 :: (if k ≤ 0 then [48] else digs k.toNat [])).toArray⟩
def mlit (k : Int) : Value → Value
 | .int _ _ => .int .i64 k
 | .string _ => .string (mtext k)
 | .bool _ => .bool (k % 3 == 0)
 | v => v
mutual
/-- how many leaves -/
def mct : D → Nat
 | .lf _ => 1
 | .st fs => cnts fs
 | .sl es => cnts es
def cnts : List D → Nat
 | [] => 0
 | d :: ds => mct d + cnts ds
end
mutual
/-- the leaves numbered from k on, in order -/
def mkd (k : Int) : D → D
 | .lf v => .lf (mlit k v)
 | .st fs => .st (mks k fs)
 | .sl es => .sl (mks k es)
def mks (k : Int) : List D → List D
 | [] => []
 | d :: ds => mkd k d :: mks (k + mct d) ds
end
mutual
theorem mk_width (k : Int) : ∀ d : D, (mkd k d).width = d.width
 | .lf _ => by simp only [mkd, D.width]
 | .st fs => by simp only [mkd, D.width, mks_widths k fs]
 | .sl _ => by simp only [mkd, D.width]
theorem mks_widths (k : Int) : ∀ ds : List D, D.widths (mks k ds) = D.widths ds
 | [] => by simp only [mks]
 | d :: ds => by simp only [mks, D.widths, mk_width k d, mks_widths _ ds]
end
theorem mks_length (k : Int) : ∀ ds : List D, (mks k ds).length = ds.length
 | [] => by simp only [mks]
 | d :: ds => by simp only [mks, List.length_cons, mks_length _ ds]
theorem cnts_append : ∀ a b : List D, cnts (a ++ b) = cnts a + cnts b
 | [], b => by simp [cnts]
 | d :: a, b => by simp only [List.cons_append, cnts, cnts_append a b]; omega
theorem mks_append (k : Int) : ∀ a b : List D, mks k (a ++ b) = mks k a ++ mks (k + cnts a) b
 | [], b => by simp [mks, cnts]
 | d :: a, b => by
  simp only [List.cons_append, mks, cnts, mks_append _ a b]
  rw [show k + (mct d : Int) + (cnts a : Int) = k + ((mct d + cnts a : Nat) : Int) by omega]
/-- blocks that are no one's keep their cells -/
structure Kept (w w' : World) (bs : List Nat) : Prop where
 os : w'.os = w.os
 tape : w'.tape = w.tape
 output : w'.output = w.output
 size : w.heap.size ≤ w'.heap.size
 other : ∀ b, b < w.heap.size → b ∉ bs → w'.heap[b]? = w.heap[b]?
theorem Kept.refl (w : World) (bs : List Nat) : Kept w w bs := ⟨rfl, rfl, rfl, Nat.le_refl _, fun _ _ _ => rfl⟩
theorem Kept.trans {w w' w'' : World} {bs : List Nat} (h : Kept w w' bs) (k : Kept w' w'' bs) : Kept w w'' bs :=
 ⟨k.os.trans h.os, k.tape.trans h.tape, k.output.trans h.output, Nat.le_trans h.size k.size, fun b hb hn => (k.other b (Nat.lt_of_lt_of_le hb h.size) hn).trans (h.other b hb hn)⟩
theorem Kept.mono {w w' : World} {bs cs : List Nat} (h : Kept w w' bs) (hs : ∀ b ∈ bs, b ∈ cs) : Kept w w' cs :=
 ⟨h.os, h.tape, h.output, h.size, fun b hb hn => h.other b hb (fun q => hn (hs b q))⟩
theorem Kept.below {w w' : World} {B : Nat} (h : Below w.heap.size w w') (bs : List Nat) (_ : B = B) : Kept w w' bs :=
 ⟨h.os, h.tape, h.output, h.size, fun b hb _ => h.block b hb⟩
/-- block b holds the cells cs behind pre -/
def RowAt (w : World) (b : Nat) (t : TypeId) (pre cs post : List Value) : Prop := w.heap[b]? = some (.cells (pre ++ cs ++ post).toArray t (0, 0))
theorem RowAt.lt {w : World} {b : Nat} {t : TypeId} {pre cs post : List Value} (h : RowAt w b t pre cs post) : b < w.heap.size := by
 have := (Array.getElem?_eq_some_iff.1 h).1
 exact this
theorem RowAt.cells {w : World} {b p : Nat} {t : TypeId} {pre cs post : List Value} (h : RowAt w b t pre cs post) (hp : pre.length = p) : Cells w b p cs := by
 intro j u hu
 have hj := (List.getElem?_eq_some_iff.1 hu).1
 rw [cell_of_row w b (p + j) _ t (0, 0) h]
 simp only [List.getElem?_toArray, List.append_assoc]
 rw [List.getElem?_append_right (by omega), List.getElem?_append_left (by omega)]
 rw [← hu]; congr 1; omega
theorem OwnE.app {w : World} {b : Nat} : ∀ (A B : List D) (off : Nat) (r : List Nat), OwnE w (A ++ B) b off r ↔ ∃ r1 r2, r = r1 ++ r2 ∧ OwnE w A b off r1 ∧ OwnE w B b (off + D.widths A) r2
 | [], B, off, r => by
  simp only [List.nil_append, OwnE, D.widths, Nat.add_zero]
  exact ⟨fun h => ⟨[], r, rfl, rfl, h⟩, fun ⟨r1, r2, e, h1, h2⟩ => by subst h1; rw [List.nil_append] at e; subst e; exact h2⟩
 | d :: A, B, off, r => by
  simp only [List.cons_append, OwnE, D.widths]
  constructor
  ·rintro ⟨cs, b1, b2, e, h1, h2, h3⟩
   obtain ⟨r1, r2, e2, h4, h5⟩ := (OwnE.app A B _ b2).1 h3
   rw [Nat.add_assoc] at h5
   exact ⟨b1 ++ r1, r2, by rw [e, e2, List.append_assoc], ⟨cs, b1, r1, rfl, h1, h2, h4⟩, h5⟩
  ·rintro ⟨r1, r2, e, ⟨cs, b1, b2, e2, h1, h2, h3⟩, h4⟩
   rw [← Nat.add_assoc] at h4
   exact ⟨cs, b1, b2 ++ r2, by rw [e, e2, List.append_assoc], h1, h2, (OwnE.app A B _ _).2 ⟨b2, r2, rfl, h3, h4⟩⟩
/-- cells of the row from 'off' on as they were -/
theorem OwnE.keep2 {w w' : World} : ∀ (ds : List D) (b off : Nat) (bs : List Nat), OwnE w ds b off bs → (∀ o, off ≤ o → o < off + D.widths ds → w'.cell? ⟨b, o, none⟩ = w.cell? ⟨b, o, none⟩) → (∀ b ∈ bs, w'.heap[b]? = w.heap[b]?) → OwnE w' ds b off bs
 | [], _, _, _, h, _, _ => by
  simp only [OwnE] at h ⊢
  exact h
 | d :: ds, b, off, bs, h, hc, hk => by
  simp only [OwnE] at h ⊢
  simp only [D.widths] at hc
  obtain ⟨cs, b1, b2, h1, h2, h3, h4⟩ := h
  subst h1
  have hl := Rep.length (K := fun _ => True) d cs (Own.rep d cs b1 h3 (fun _ _ => trivial))
  refine ⟨cs, b1, b2, rfl, ?_, Own.keep d cs b1 h3 (fun b hb => hk b (by simp [hb])), OwnE.keep2 ds b _ b2 h4 (fun o h1 h2 => hc o (by omega) (by omega)) (fun b hb => hk b (by simp [hb]))⟩
  intro j u hu
  have hj := (List.getElem?_eq_some_iff.1 hu).1
  rw [hc _ (by omega) (by omega)]
  exact h2 j u hu
theorem RowAt.of {w : World} {b p : Nat} {cs : List Value} (hf : Free w b) (hc : Cells w b p cs) (h0 : 0 < cs.length) : ∃ t pre post, pre.length = p ∧ RowAt w b t pre cs post := by
 obtain ⟨cur, t, hf⟩ := hf
 have hs : p + cs.length ≤ cur.size := by
  have h1 := hc (cs.length - 1) _ (List.getElem?_eq_getElem (by omega))
  rw [cell_of_row w b _ cur t (0, 0) hf] at h1
  have := (Array.getElem?_eq_some_iff.1 h1).1
  omega
 refine ⟨t, cur.toList.take p, cur.toList.drop (p + cs.length), by simp; omega, ?_⟩
 unfold RowAt
 rw [hf]
 congr 2
 apply Array.ext'
 apply List.ext_getElem?
 intro i
 have hl : (cur.toList.take p).length = p := by simp; omega
 by_cases h1 : i < p
 ·rw [List.append_assoc, List.getElem?_append_left (by omega), List.getElem?_take, if_pos h1]
 ·by_cases h2 : i < p + cs.length
  ·rw [List.append_assoc, List.getElem?_append_right (by omega), hl, List.getElem?_append_left (by omega)]
   have h3 := hc (i - p) _ (List.getElem?_eq_getElem (by omega))
   rw [cell_of_row w b _ cur t (0, 0) hf] at h3
   have h4 : cs[i - p]? = some cs[i - p] := List.getElem?_eq_getElem (by omega)
   rw [h4, ← h3, show p + (i - p) = i by omega]
   simp
  ·rw [List.getElem?_append_right (by simp; omega), List.getElem?_drop]
   congr 1
   simp
   omega
/-- one cell of a row is written -/
structure Wrote (w w' : World) (b : Nat) : Prop where
 os : w'.os = w.os
 tape : w'.tape = w.tape
 output : w'.output = w.output
 size : w'.heap.size = w.heap.size
 other : ∀ x, x ≠ b → w'.heap[x]? = w.heap[x]?
theorem Wrote.kept {w w' : World} {b : Nat} (h : Wrote w w' b) {bs : List Nat} (hb : b ∈ bs) : Kept w w' bs :=
 ⟨h.os, h.tape, h.output, by rw [h.size]; exact Nat.le_refl _, fun x _ hn => h.other x (fun q => hn (q ▸ hb))⟩
theorem stW {P : Program} {w : World} {ops : Array Oper} {rest : List Oper} {o : Oper} {a : Act} {Q : Exit → Act → World → Prop} (hg : o.guard = none) (ty : TypeId) (x v : Operand) (ho : o.op = .store ty x v)
  (b off : Nat) (hx : a.eval x = .pointer (some ⟨b, off, none⟩)) (u : Value) (hv : a.eval v = u) (hi : (P.info? ty).map (·.size) = some 1) (h1 : u.oneCell' = true)
  {t : TypeId} {pre cs post : List Value} (hr : RowAt w b t pre cs post) (j : Nat) (hoff : off = pre.length + j) (hj : j < cs.length)
  (h : ∀ w', RowAt w' b t pre (cs.set j u) post → Wrote w w' b → wpList P ops Q rest (a.put o.dst undef) w') : wpList P ops Q (o :: rest) a w := by
 refine wpList_plain hg fun K hK => ?_
 have hst := run_storeCells_at P b off t [u] 0 (pre ++ cs ++ post).toArray w hr (by simp; omega) (by simpa using h1)
 simp only [Nat.add_zero] at hst
 have hcu : u.cells = #[u] := by cases u <;> first | rfl | simp [Value.oneCell'] at h1
 have harr : ((pre ++ cs ++ post).toArray.toList.take off ++ [u] ++ (pre ++ cs ++ post).toArray.toList.drop (off + [u].length)).toArray = (pre ++ cs.set j u ++ post).toArray := by
  congr 1
  subst hoff
  simp only [List.append_assoc, List.length_singleton]
  rw [List.take_append, List.drop_append, List.take_append_of_le_length (by omega), List.drop_append_of_le_length (by omega)]
  rw [List.set_eq_take_append_cons_drop, if_pos hj]
  simp [List.take_of_length_le, List.drop_eq_nil_of_le, Nat.add_assoc]
 cases hq : P.info? ty with
 | none => simp [hq] at hi
 | some i =>
  have hs : i.size = 1 := by simpa [hq] using hi
  have hsv : (storeVar ty ⟨b, off, none⟩ u).run P w = .ok () (w.setRow b (pre ++ cs.set j u ++ post).toArray) := by
   rw [← harr]
   simp only [storeVar, Sem.run_bind, sizeOf, typeInfo, hcu]
   simpa [typeInfo, hq, hs] using hst
  unfold Oper.wp execOp
  simp only [ho, hx, hv, Instr.storeAt, Instr.sureAddr, Sem.run_bind, Sem.run_pure, Result.andThen_ok, hsv]
  exact hK _ _ (h _ (setRow_heap w b _ _ t (0, 0) hr) ⟨rfl, rfl, rfl, by simp, fun x hx => setRow_other w b x _ hx⟩)
theorem Own_st {w : World} {fs : List D} {cs : List Value} {bs : List Nat} : Own w (.st fs) cs bs ↔ OwnS w fs cs bs := by simp only [Own]
theorem Own_lf {w : World} {v : Value} {cs : List Value} {bs : List Nat} : Own w (.lf v) cs bs ↔ cs = [v] ∧ okLeaf v ∧ bs = [] := by simp only [Own]
theorem OwnS_nil {w : World} {cs : List Value} {bs : List Nat} : OwnS w [] cs bs ↔ cs = [] ∧ bs = [] := by simp only [OwnS]
theorem OwnS_cons {w : World} {d : D} {ds : List D} {cs : List Value} {bs : List Nat} : OwnS w (d :: ds) cs bs ↔ ∃ c1 c2 b1 b2, cs = c1 ++ c2 ∧ bs = b1 ++ b2 ∧ Own w d c1 b1 ∧ OwnS w ds c2 b2 := by simp only [OwnS]
theorem Rep_st {w : World} {K : Nat → Prop} {fs : List D} {cs : List Value} : Rep w K (.st fs) cs ↔ RepS w K fs cs := by simp only [Rep]
theorem Rep_lf {w : World} {K : Nat → Prop} {v : Value} {cs : List Value} : Rep w K (.lf v) cs ↔ cs = [v] ∧ okLeaf v := by simp only [Rep]
theorem RepS_nil {w : World} {K : Nat → Prop} {cs : List Value} : RepS w K [] cs ↔ cs = [] := by simp only [RepS]
theorem RepS_cons {w : World} {K : Nat → Prop} {d : D} {ds : List D} {cs : List Value} : RepS w K (d :: ds) cs ↔ ∃ c1 c2, cs = c1 ++ c2 ∧ Rep w K d c1 ∧ RepS w K ds c2 := by simp only [RepS]
theorem own_one {w : World} {es : List D} {cs : List Value} {bs : List Nat} (h : Own w (.sl es) cs bs) : ∃ c, cs = [c] := by
 simp only [Own] at h
 obtain ⟨a, cap, rfl, -⟩ := h
 exact ⟨_, rfl⟩
theorem cons_eq {a b : Value} {l m : List Value} (h : a = b) (k : l = m) : a :: l = b :: m := by rw [h, k]
theorem inR_mk {a : Int} (h : 0 ≤ a) (k : a ≤ 4611686018427387904) : InR a := ⟨by show -9223372036854775808 ≤ a; omega, by show a ≤ 9223372036854775807; omega⟩
theorem digs_len (m : Nat) : ∀ q : List UInt8, (digs m q).length ≤ q.length + m := by
 induction m using Nat.strongRecOn with
 | ind m ih =>
  intro q
  rw [digs]
  split
  ·omega
  ·have := ih (m / 10) (by omega) (UInt8.ofNat (48 + m % 10) :: q)
   simp only [List.length_cons] at this
   omega
theorem mtext_size {k : Int} (h : k ≤ 4611686018427387904) : (mtext k).size ≤ maxLen := by
 unfold mtext maxLen
 show (109 :: (if k ≤ 0 then [48] else digs k.toNat [])).toArray.size ≤ _
 rw [List.size_toArray, List.length_cons]
 split
 ·simp
 ·have := digs_len k.toNat []
  simp only [List.length_nil] at this
  omega
theorem mks_take {k : Int} {L : List D} {n : Nat} (h : n < L.length) : mks k (L.take n) ++ mkd (k + cnts (L.take n)) L[n] :: L.drop (n + 1) = mks k (L.take (n + 1)) ++ L.drop (n + 1) := by
 rw [List.take_succ_eq_append_getElem h, mks_append]
 simp only [mks, List.append_assoc, List.cons_append, List.nil_append]
theorem cnts_take {L : List D} {n : Nat} (h : n < L.length) : cnts (L.take (n + 1)) = cnts (L.take n) + mct L[n] := by
 rw [List.take_succ_eq_append_getElem h, cnts_append]
 simp only [cnts, Nat.add_zero]
theorem cnts_le {L : List D} {n : Nat} (h : n < L.length) : cnts (L.take n) + mct L[n] ≤ cnts L := by
 have := cnts_append (L.take (n + 1)) (L.drop (n + 1))
 rw [List.take_append_drop, cnts_take h] at this
 omega
theorem nd2 {a b : List Nat} (h : (a ++ b).Nodup) : a.Nodup ∧ b.Nodup ∧ ∀ x ∈ a, x ∉ b := by
 rw [List.nodup_append] at h
 exact ⟨h.1, h.2.1, fun x hx hb => h.2.2 x hx x hb rfl⟩
theorem elem_open {w : World} {b off : Nat} {r : List Nat} {A B : List D} {d : D} (h : OwnE w (A ++ d :: B) b off r) :
  ∃ rA rd rB cs, r = rA ++ (rd ++ rB) ∧ OwnE w A b off rA ∧ Cells w b (off + D.widths A) cs ∧ Own w d cs rd ∧ OwnE w B b (off + D.widths A + d.width) rB := by
 obtain ⟨rA, r2, e, h1, h2⟩ := (OwnE.app A (d :: B) off r).1 h
 simp only [OwnE] at h2
 obtain ⟨cs, rd, rB, e2, h3, h4, h5⟩ := h2
 exact ⟨rA, rd, rB, cs, by rw [e, e2], h1, h3, h4, h5⟩
theorem elem_close {w w' : World} {b off : Nat} {t : TypeId} {rA rd rB : List Nat} {A B : List D} {d d' : D} {pre cs cs' post : List Value} (hA : OwnE w A b off rA) (hB : OwnE w B b (off + D.widths A + d.width) rB)
  (hr : RowAt w b t pre cs post) (hr' : RowAt w' b t pre cs' post) (hl : cs'.length = cs.length) (hw : cs.length = d.width) (hd : d'.width = d.width) (hp : pre.length = off + D.widths A)
  (hk : ∀ x ∈ rA ++ rB, w'.heap[x]? = w.heap[x]?) (ho : Own w' d' cs' rd) : OwnE w' (A ++ d' :: B) b off (rA ++ (rd ++ rB)) := by
 refine (OwnE.app A (d' :: B) off _).2 ⟨rA, rd ++ rB, rfl, ?_, ?_⟩
 ·refine OwnE.keep A b off rA hA (fun o h1 => ?_) (fun x hx => hk x (by simp [hx]))
  rw [cell_of_row w' b o _ t (0, 0) hr', cell_of_row w b o _ t (0, 0) hr]
  simp only [List.getElem?_toArray, List.append_assoc]
  rw [List.getElem?_append_left (by omega), List.getElem?_append_left (by omega)]
 ·simp only [OwnE]
  refine ⟨cs', rd, rB, rfl, hr'.cells hp, ho, ?_⟩
  rw [hd]
  refine OwnE.keep2 B b _ rB hB (fun o h1 _ => ?_) (fun x hx => hk x (by simp [hx]))
  rw [cell_of_row w' b o _ t (0, 0) hr', cell_of_row w b o _ t (0, 0) hr]
  simp only [List.getElem?_toArray]
  rw [List.getElem?_append_right (by simp; omega), List.getElem?_append_right (by simp; omega)]
  congr 1
  simp
  omega
mutual
theorem Own.lt {w : World} : ∀ (d : D) (cs : List Value) (bs : List Nat), Own w d cs bs → ∀ b ∈ bs, b < w.heap.size
 | .lf v, cs, bs, h => by
  simp only [Own] at h
  obtain ⟨-, -, rfl⟩ := h
  simp
 | .st fs, cs, bs, h => by
  simp only [Own] at h
  exact OwnS.lt fs cs bs h
 | .sl es, cs, bs, h => by
  simp only [Own] at h
  obtain ⟨a, cap, -, -, -, -, h5⟩ := h
  rcases h5 with ⟨-, rfl⟩ | ⟨b, off, r, -, rfl, ⟨cur, e, hf⟩, he⟩
  ·simp
  ·intro x hx
   rcases List.mem_cons.1 hx with rfl | hx
   ·exact (Array.getElem?_eq_some_iff.1 hf).1
   ·exact OwnE.lt es b off r he x hx
theorem OwnS.lt {w : World} : ∀ (ds : List D) (cs : List Value) (bs : List Nat), OwnS w ds cs bs → ∀ b ∈ bs, b < w.heap.size
 | [], cs, bs, h => by
  simp only [OwnS] at h
  obtain ⟨-, rfl⟩ := h
  simp
 | d :: ds, cs, bs, h => by
  simp only [OwnS] at h
  obtain ⟨c1, c2, b1, b2, -, rfl, h3, h4⟩ := h
  intro x hx
  rcases List.mem_append.1 hx with hx | hx
  ·exact Own.lt d c1 b1 h3 x hx
  ·exact OwnS.lt ds c2 b2 h4 x hx
theorem OwnE.lt {w : World} : ∀ (ds : List D) (b off : Nat) (bs : List Nat), OwnE w ds b off bs → ∀ x ∈ bs, x < w.heap.size
 | [], _, _, bs, h => by
  simp only [OwnE] at h
  subst h
  simp
 | d :: ds, b, off, bs, h => by
  simp only [OwnE] at h
  obtain ⟨cs, b1, b2, rfl, -, h3, h4⟩ := h
  intro x hx
  rcases List.mem_append.1 hx with hx | hx
  ·exact Own.lt d cs b1 h3 x hx
  ·exact OwnE.lt ds b _ b2 h4 x hx
end
theorem Own.kept {w w' : World} {d : D} {cs : List Value} {bs rs : List Nat} (h : Own w d cs bs) (k : Kept w w' rs) (hd : ∀ x ∈ bs, x ∉ rs) : Own w' d cs bs :=
 Own.keep _ _ _ h (fun b hb => k.other b (Own.lt _ _ _ h b hb) (hd b hb))
theorem RowAt.kept {w w' : World} {b : Nat} {t : TypeId} {pre cs post : List Value} {rs : List Nat} (h : RowAt w b t pre cs post) (k : Kept w w' rs) (hn : b ∉ rs) : RowAt w' b t pre cs post := (k.other b h.lt hn).trans h
theorem Kept.of_below {w w' : World} (h : Below w.heap.size w w') (bs : List Nat) : Kept w w' bs :=
 ⟨h.os, h.tape, h.output, h.size, fun b hb _ => h.block b hb⟩
theorem own_valT {α : Type} {enc : α → D} {w : World} {l : List α} {v : Value} {bs : List Nat} (h : Own w (.sl (l.map enc)) [v] bs) : ∃ a cap, v = .slice a l.length cap ∧ l.length ≤ cap ∧ cap ≤ maxLen := by
 simp only [Own, List.length_map, List.cons.injEq, and_true] at h
 obtain ⟨a, cap, h1, h2, h3, -⟩ := h
 exact ⟨a, cap, h1, h2, h3⟩
theorem mark_at {α : Type} {enc : α → D} {s : Nat} (hs : ∀ x, (enc x).width = s) (h0 : 0 < s) {w : World} {k c M : Int} {n : Nat} {l : List α} {a : Option Addr} {cap : Nat} {bs : List Nat} (hn : n < l.length)
  (hc : c = k + (cnts ((l.map enc).take n) : Nat)) (hlim : k + (cnts (l.map enc) : Nat) ≤ M) (h : Own w (.sl (mks k ((l.map enc).take n) ++ (l.map enc).drop n)) [.slice a l.length cap] bs) (nd : bs.Nodup) :
  ∃ b off t rA rd rB pre cs post, a = some ⟨b, off, none⟩ ∧ bs = b :: (rA ++ (rd ++ rB)) ∧ RowAt w b t pre cs post ∧ pre.length = off + n * s ∧ cs.length = s ∧ Own w (enc l[n]) cs rd ∧ b ∉ rd ∧ rd.Nodup ∧ c + (mct (enc l[n]) : Nat) ≤ M ∧
   c + (mct (enc l[n]) : Nat) = k + (cnts ((l.map enc).take (n + 1)) : Nat) ∧
   ∀ w' cs', RowAt w' b t pre cs' post → cs'.length = s → Kept w w' (b :: rd) → Own w' (mkd c (enc l[n])) cs' rd →
    Own w' (.sl (mks k ((l.map enc).take (n + 1)) ++ (l.map enc).drop (n + 1))) [.slice (some ⟨b, off, none⟩) l.length cap] (b :: (rA ++ (rd ++ rB))) := by
 have hn' : n < (l.map enc).length := by simpa using hn
 have hg : (l.map enc)[n] = enc l[n] := List.getElem_map ..
 have hd : (l.map enc).drop n = enc l[n] :: (l.map enc).drop (n + 1) := by rw [List.drop_eq_getElem_cons hn', hg]
 have hct := cnts_take hn'
 have hcl := cnts_le hn'
 rw [hg] at hct hcl
 have hlen : ∀ q, (mks k ((l.map enc).take q) ++ (l.map enc).drop q).length = l.length := by
  intro q
  rw [List.length_append, mks_length, ← List.length_append, List.take_append_drop, List.length_map]
 simp only [Own, hlen, List.cons.injEq, Value.slice.injEq, and_true, true_and] at h
 obtain ⟨a', cap', ⟨rfl, rfl⟩, h2, h3, h4, h5⟩ := h
 rcases h5 with ⟨h5, -⟩ | ⟨b, off, r, rfl, rfl, hf, he⟩
 ·have := hlen n
  rw [h5] at this
  simp at this
  omega
 rw [hd] at he
 obtain ⟨rA, rd, rB, cs, rfl, hA, hcs, ho, hB⟩ := elem_open he
 have hw : D.widths (mks k ((l.map enc).take n)) = n * s := by
  rw [mks_widths, ← List.map_take, widths_map hs, List.length_take, Nat.min_eq_left (Nat.le_of_lt hn)]
 have hl : cs.length = s := (Rep.length (K := fun _ => True) _ _ (Own.rep _ _ _ ho (fun _ _ => trivial))).trans (hs _)
 obtain ⟨t, pre, post, hp, hr⟩ := RowAt.of hf hcs (by omega)
 rw [List.nodup_cons] at nd
 obtain ⟨nb, nr⟩ := nd
 obtain ⟨n1, n2, n3⟩ := nd2 nr
 obtain ⟨n4, n5, n6⟩ := nd2 n2
 refine ⟨b, off, t, rA, rd, rB, pre, cs, post, rfl, rfl, hr, by rw [hp, hw], hl, ho, fun q => nb (by simp [q]), n4, by omega, by rw [hct]; omega, ?_⟩
 intro w' cs' hr' hl' hk ho'
 simp only [Own, hlen, List.cons.injEq, Value.slice.injEq, and_true, true_and]
 refine ⟨_, _, ⟨rfl, rfl⟩, h2, h3, h4, .inr ⟨b, off, rA ++ (rd ++ rB), rfl, ⟨rfl, rfl⟩, ⟨_, _, hr'⟩, ?_⟩⟩
 have hx := elem_close hA hB hr hr' (by omega) (by rw [hs]; exact hl) (mk_width c (enc l[n])) (by rw [hp]) (fun x hx => hk.other x ?_ ?_) ho'
 ·rw [hc, ← hg, mks_take hn'] at hx
  exact hx
 ·rcases List.mem_append.1 hx with hx | hx
  ·exact OwnE.lt _ _ _ _ hA x hx
  ·exact OwnE.lt _ _ _ _ hB x hx
 ·intro q
  rcases List.mem_cons.1 q with rfl | q
  ·rcases List.mem_append.1 hx with hx | hx
   ·exact nb (by simp [hx])
   ·exact nb (by simp [hx])
  ·rcases List.mem_append.1 hx with hx | hx
   ·exact n3 x hx (by simp [q])
   ·exact n6 x q hx
theorem mark_end {α : Type} {enc : α → D} {w : World} {k c : Int} {l : List α} {v : Value} {bs : List Nat} (hc : c = k + (cnts ((l.map enc).take l.length) : Nat)) (h : Own w (.sl (mks k ((l.map enc).take l.length) ++ (l.map enc).drop l.length)) [v] bs) :
  c = k + (cnts (l.map enc) : Nat) ∧ Own w (.sl (mks k (l.map enc))) [v] bs := by
 have h1 : (l.map enc).take l.length = l.map enc := List.take_of_length_le (by simp)
 have h2 : (l.map enc).drop l.length = [] := List.drop_eq_nil_of_le (by simp)
 rw [h1] at hc
 rw [h1, h2, List.append_nil] at h
 exact ⟨hc, h⟩
theorem mark_start {α : Type} {enc : α → D} {w : World} {k : Int} {l : List α} {v : Value} {bs : List Nat} (h : Own w (.sl (l.map enc)) [v] bs) : k = k + (cnts ((l.map enc).take 0) : Nat) ∧ Own w (.sl (mks k ((l.map enc).take 0) ++ (l.map enc).drop 0)) [v] bs := by
 simp only [List.take_zero, List.drop_zero, mks, cnts, List.nil_append]
 exact ⟨by omega, h⟩
theorem ownS_flat {w : World} {x : ByteArray} {cs : List Value} {bs : List Nat} (h : Own w (encS x) cs bs) : cs = [.string x] ∧ bs = [] := by
 simp only [encS, Own] at h
 exact ⟨h.1, h.2.2⟩
theorem mkS_flat {w : World} {x : ByteArray} {k : Int} (h : k ≤ 4611686018427387904) : Own w (mkd k (encS x)) [.string (mtext k)] [] := by
 simp only [encS, mkd, mlit, Own, okLeaf]
 exact ⟨trivial, mtext_size h, trivial⟩
theorem cntS_flat (x : ByteArray) : mct (encS x) = 1 := by simp only [encS, mct]
theorem mks_get {k : Int} : ∀ {L : List D} {n : Nat} (h : n < L.length), (mks k L)[n]'(by rw [mks_length]; exact h) = mkd (k + (cnts (L.take n) : Nat)) L[n]
 | d :: L, 0, _ => by simp [mks, cnts]
 | d :: L, n + 1, h => by
  simp only [mks, List.getElem_cons_succ, List.take_succ_cons, cnts]
  rw [mks_get (by simpa using h)]
  congr 1
  omega
theorem held_open {α : Type} {enc : α → D} {s : Nat} (hs : ∀ x, (enc x).width = s) {w : World} {K : Nat → Prop} {k : Int} {l : List α} {v : Value} (h : Rep w K (.sl (mks k (l.map enc))) [v]) :
  ∃ a cap, v = .slice a l.length cap ∧ l.length ≤ cap ∧ cap ≤ maxLen ∧
   ∀ n (hn : n < l.length), ∃ b off, a = some ⟨b, off, none⟩ ∧ K b ∧ ∃ cs, Cells w b (off + n * s) cs ∧ Rep w K (mkd (k + (cnts ((l.map enc).take n) : Nat)) (enc l[n])) cs := by
 simp only [Rep, mks_length, List.length_map] at h
 obtain ⟨a, cap, h1, h2, h3, h4, h5⟩ := h
 simp only [List.cons.injEq, and_true] at h1
 refine ⟨a, cap, h1, h2, h3, fun n hn => ?_⟩
 have hn' : n < (l.map enc).length := by simpa using hn
 rcases h5 with h5 | ⟨b, off, ha, hb, he⟩
 ·have := mks_length k (l.map enc)
  rw [h5] at this
  simp at this
  omega
 ·refine ⟨b, off, ha, hb, ?_⟩
  refine RepE.get _ off ?_ he n _ ?_
  ·intro d hd
   obtain ⟨j, hj, rfl⟩ := List.getElem_of_mem hd
   have hj' : j < (l.map enc).length := by rw [mks_length] at hj; exact hj
   rw [mks_get hj', mk_width, List.getElem_map]
   exact hs _
  ·rw [List.getElem?_eq_getElem (by rw [mks_length]; exact hn'), mks_get hn', List.getElem_map]
theorem held_cnt {α : Type} {enc : α → D} {k c M : Int} {n : Nat} {l : List α} (hn : n < l.length) (hc : c = k + (cnts ((l.map enc).take n) : Nat)) (hlim : k + (cnts (l.map enc) : Nat) ≤ M) :
  c + (mct (enc l[n]) : Nat) ≤ M ∧ c + (mct (enc l[n]) : Nat) = k + (cnts ((l.map enc).take (n + 1)) : Nat) := by
 have hn' : n < (l.map enc).length := by simpa using hn
 have hg : (l.map enc)[n] = enc l[n] := List.getElem_map ..
 have hct := cnts_take hn'
 have hcl := cnts_le hn'
 rw [hg] at hct hcl
 exact ⟨by omega, by rw [hct]; omega⟩
theorem OwnS_lf {w : World} {v : Value} {ds : List D} {cs : List Value} {bs : List Nat} : OwnS w (.lf v :: ds) cs bs ↔ ∃ c2, cs = v :: c2 ∧ okLeaf v ∧ OwnS w ds c2 bs := by
 rw [OwnS_cons]
 constructor
 ·rintro ⟨c1, c2, b1, b2, rfl, rfl, h1, h2⟩
  obtain ⟨rfl, h3, rfl⟩ := Own_lf.1 h1
  exact ⟨c2, rfl, h3, by simpa using h2⟩
 ·rintro ⟨c2, rfl, h1, h2⟩
  exact ⟨[v], c2, [], bs, rfl, rfl, Own_lf.2 ⟨rfl, h1, rfl⟩, h2⟩
theorem OwnS_sl {w : World} {es ds : List D} {cs : List Value} {bs : List Nat} : OwnS w (.sl es :: ds) cs bs ↔ ∃ c c2 r b2, cs = c :: c2 ∧ bs = r ++ b2 ∧ Own w (.sl es) [c] r ∧ OwnS w ds c2 b2 := by
 rw [OwnS_cons]
 constructor
 ·rintro ⟨c1, c2, b1, b2, rfl, rfl, h1, h2⟩
  obtain ⟨c, rfl⟩ := own_one h1
  exact ⟨c, c2, b1, b2, rfl, rfl, h1, h2⟩
 ·rintro ⟨c, c2, r, b2, rfl, rfl, h1, h2⟩
  exact ⟨[c], c2, r, b2, rfl, rfl, h1, h2⟩
theorem RepS_lf {w : World} {K : Nat → Prop} {v : Value} {ds : List D} {cs : List Value} : RepS w K (.lf v :: ds) cs ↔ ∃ c2, cs = v :: c2 ∧ okLeaf v ∧ RepS w K ds c2 := by
 rw [RepS_cons]
 constructor
 ·rintro ⟨c1, c2, rfl, h1, h2⟩
  obtain ⟨rfl, h3⟩ := Rep_lf.1 h1
  exact ⟨c2, rfl, h3, h2⟩
 ·rintro ⟨c2, rfl, h1, h2⟩
  exact ⟨[v], c2, rfl, Rep_lf.2 ⟨rfl, h1⟩, h2⟩
theorem sub_mid {b x : Nat} {rA rd rB bs : List Nat} (e : bs = b :: (rA ++ (rd ++ rB))) (h : x ∈ b :: rd) : x ∈ bs := by
 subst e
 rcases List.mem_cons.1 h with rfl | h
 ·exact List.mem_cons_self
 ·exact List.mem_cons_of_mem _ (List.mem_append_right _ (List.mem_append_left _ h))
theorem digs_zero (o : List UInt8) : digs 0 o = o := by rw [digs]; simp
theorem digs_pos {k : Nat} (h : 0 < k) (o : List UInt8) : digs k o = digs (k / 10) (UInt8.ofNat (48 + k % 10) :: o) := by
 rw [digs, dif_neg (by omega)]
theorem cons_bytes (x : Int) (o : List UInt8) : strOfNums [x] ++ (⟨o.toArray⟩ : ByteArray) = ⟨(UInt8.ofNat x.toNat :: o).toArray⟩ := by
 apply ByteArray.ext
 simp [strOfNums, ByteArray.data_append]
theorem m_bytes (o : List UInt8) : (⟨#[109]⟩ : ByteArray) ++ ⟨o.toArray⟩ = ⟨(109 :: o).toArray⟩ := by
 apply ByteArray.ext
 simp [ByteArray.data_append]
theorem pow_step {m n : Nat} {x : UInt8} {q : List UInt8} (h : m * 10 ^ q.length ≤ n) : m / 10 * 10 ^ (x :: q).length ≤ n := by
 have h3 : m / 10 * 10 ≤ m := by omega
 have h4 : m / 10 * 10 ^ (x :: q).length = m / 10 * 10 * 10 ^ q.length := by rw [List.length_cons, Nat.pow_succ, Nat.mul_assoc, Nat.mul_comm (10 ^ q.length) 10]
 rw [h4]
 exact Nat.le_trans (Nat.mul_le_mul_right _ h3) h
theorem len_step {m n : Nat} {x : UInt8} {q : List UInt8} (h : m * 10 ^ q.length ≤ n) (h1 : 0 < m) (hn : n ≤ 4611686018427387904) (hq : q.length ≤ 19) : (x :: q).length ≤ 19 := by
 simp only [List.length_cons]
 rcases Nat.lt_or_ge q.length 19 with h4 | h4
 ·omega
 ·exfalso
  have h5 : 10 ^ 19 ≤ 10 ^ q.length := Nat.pow_le_pow_right (by decide) h4
  have h6 : 1 * 10 ^ q.length ≤ m * 10 ^ q.length := Nat.mul_le_mul_right _ h1
  omega
set_option maxRecDepth 100000 in
set_option maxHeartbeats 1000000 in
theorem markText_c (k : Int) (hk : k ≤ 4611686018427387904) : ∀ (w : World),
  Calls Tryz.prog 32 #[.int .i64 k] w fun e w' => e = .returned (.string (mtext k)) ∧ Below w.heap.size w w' := by
 intro w
 rcases (show k ≤ 0 ∨ 0 < k by omega) with h0 | h0
 ·go_enter Tryz.func32, Tryz.ntmps32
  go_wp2
  go_ret
  refine ⟨?_, Below.refl _ _⟩
  rw [mtext, if_pos h0]
  rfl
 ·obtain ⟨n, rfl⟩ := Int.eq_ofNat_of_zero_le (Int.le_of_lt h0)
  go_enter Tryz.func32, Tryz.ntmps32
  go_wp2
  have Hg : Hid (digs n [] = digs n []) := rfl
  go_loopw [0, 3] (fun t o wr => ∃ (m : Nat) (q : List UInt8), t = .int .i64 m ∧ o = .string ⟨q.toArray⟩ ∧ Hid (digs m q = digs n []) ∧ m ≤ n ∧ Hid (m * 10 ^ q.length ≤ n) ∧ q.length ≤ 19 ∧ Below w.heap.size w wr) (fun t _ _ => (intOf t).toNat)
  case atStart => exact ⟨n, [], rfl, rfl, Hg, Nat.le_refl _, by show n * 10 ^ 0 ≤ n; omega, by simp, Below.refl _ _⟩
  case round =>
   clear Hg
   obtain ⟨m, q, rfl, rfl, Hs, hm, Hp, hq, hB⟩ := hrel
   by_cases h1 : 0 < m
   ·have kc := fun (W : World) (b : Nat) (h : W.cell? ⟨b, 0, none⟩ = some (.int .u8 (48 + (m : Int) % 10))) => run_convert_bytes_arg (P := Tryz.prog) W 129 5 Tryz.underlying129 Tryz.underlying5 b 0 1 1 [48 + (m : Int) % 10] rfl (fun i hi => by obtain rfl : i = 0 := (by omega); simpa using h) 9 Tryz.underlying9
    have hm1 : (m : Int) ≤ 4611686018427387904 := by omega
    have hx : UInt8.ofNat (48 + (m : Int) % 10).toNat = UInt8.ofNat (48 + m % 10) := by congr 1
    have hz : (strOfNums [48 + (m : Int) % 10]).size = 1 := strOfNums_size _
    go_wp2
    go_roundw
    case rel =>
     refine ⟨m / 10, UInt8.ofNat (48 + m % 10) :: q, by go_num, ?_, ?_, by omega, ?_, ?_, hB.alloc hB.size _⟩
     ·rw [cons_bytes, hx]
     ·show _ = _
      rw [← digs_pos h1]
      exact Hs.out
     ·exact pow_step Hp.out
     ·exact len_step Hp.out h1 (by omega) hq
    case measure => simp [intOf]; omega
   ·obtain rfl : m = 0 := by omega
    have e := Hs.out
    rw [digs_zero] at e
    have E := Lib.hid e
    clear e
    go_wp2
    go_ret
    refine ⟨?_, hB⟩
    rw [m_bytes, E.out, mtext, if_neg (by omega)]
    rfl
theorem TFormError.flat (x : TFormError) : x.enc = .st [encI x.fCode, encI x.fPackage, encS x.fKind, encS x.fName] := by
 simp only [TFormError.enc_eq]
theorem TFormError.cnt_flat (x : TFormError) : mct x.enc = 1 + 1 + 1 + 1 := by
 rw [TFormError.flat]
 simp only [encI, encS, mct, cnts]
theorem TFormError.own_flat {w : World} {x : TFormError} {cs : List Value} {bs : List Nat} (h : Own w x.enc cs bs) : cs = [.int .i64 x.fCode, .int .i64 x.fPackage, .string x.fKind, .string x.fName] ∧ bs = [] := by
 rw [TFormError.flat] at h
 simp only [encI, encS, Own_st] at h
 obtain ⟨_, rfl, -, h⟩ := OwnS_lf.1 h
 obtain ⟨_, rfl, -, h⟩ := OwnS_lf.1 h
 obtain ⟨_, rfl, -, h⟩ := OwnS_lf.1 h
 obtain ⟨_, rfl, -, h⟩ := OwnS_lf.1 h
 obtain ⟨rfl, rfl⟩ := OwnS_nil.1 h
 exact ⟨rfl, rfl⟩
set_option maxHeartbeats 1000000 in
theorem TFormError.mk_flat {w : World} {x : TFormError} {k : Int} (h0 : 0 ≤ k) (h1 : k + (mct x.enc : Nat) ≤ 4611686018427387904) : Own w (mkd k x.enc) [.int .i64 (k), .int .i64 (k + 1), .string (mtext (k + 1 + 1)), .string (mtext (k + 1 + 1 + 1))] ([]) := by
 rw [TFormError.cnt_flat] at h1
 rw [TFormError.flat]
 simp only [mkd, mks, mlit, encI, encS, mct, Own_st]
 refine OwnS_lf.2 ⟨_, cons_eq (congrArg (Value.int .i64) (by omega)) rfl, inR_mk (by omega) (by omega), ?_⟩
 refine OwnS_lf.2 ⟨_, cons_eq (congrArg (Value.int .i64) (by omega)) rfl, inR_mk (by omega) (by omega), ?_⟩
 refine OwnS_lf.2 ⟨_, cons_eq (congrArg (fun z => Value.string (mtext z)) (by omega)) rfl, mtext_size (by omega), ?_⟩
 refine OwnS_lf.2 ⟨_, cons_eq (congrArg (fun z => Value.string (mtext z)) (by omega)) rfl, mtext_size (by omega), ?_⟩
 exact OwnS_nil.2 ⟨rfl, rfl⟩
set_option maxHeartbeats 1000000 in
theorem TFormError.mrep_flat {w : World} {K : Nat → Prop} {x : TFormError} {k : Int} {cs : List Value} (h : Rep w K (mkd k x.enc) cs) : cs = [.int .i64 (k), .int .i64 (k + 1), .string (mtext (k + 1 + 1)), .string (mtext (k + 1 + 1 + 1))] := by
 rw [TFormError.flat] at h
 simp only [mkd, mks, mlit, encI, encS, mct, Rep_st] at h
 obtain ⟨_, rfl, -, h⟩ := RepS_lf.1 h
 obtain ⟨_, rfl, -, h⟩ := RepS_lf.1 h
 obtain ⟨_, rfl, -, h⟩ := RepS_lf.1 h
 obtain ⟨_, rfl, -, h⟩ := RepS_lf.1 h
 obtain rfl := RepS_nil.1 h
 exact cons_eq (congrArg (Value.int .i64) (by omega)) (cons_eq (congrArg (Value.int .i64) (by omega)) (cons_eq (congrArg (fun z => Value.string (mtext z)) (by omega)) (cons_eq (congrArg (fun z => Value.string (mtext z)) (by omega)) (rfl))))
end Go.Proofs.YtdooklofebdknaaGreat
