/- Wm: marks written into memory of which only the shape is kept: slices stay where they are, other cells may be written. No condition but sizes. -/
import Derived.Test.YtdooklofebdknaaGreatM05
namespace Go.Proofs.YtdooklofebdknaaGreat
open Go.RowKit
abbrev Fi := Nat → Nat → Option (Option Value)
def fiOf : Option Value → Option (Option Value)
 | some (.slice a n c) => some (some (.slice a n c))
 | some _ => some none
 | none => none
/-- of the blocks bs: a slice stays, another cell may be written -/
def fi (w : World) (bs : List Nat) : Fi := fun b o => if b ∈ bs then match w.heap[b]? with
 | some (.cells cur _ (0, 0)) => fiOf cur[o]?
 | _ => none
 else none
def MM (w : World) (Φ : Fi) : Prop := ∀ b o c, Φ b o = some c → ∃ cur t, w.heap[b]? = some (.cells cur t (0, 0)) ∧ o < cur.size ∧ ∀ u, c = some u → cur[o]? = some u
structure Kf (Φ : Fi) (w w' : World) : Prop where
 os : w'.os = w.os
 tape : w'.tape = w.tape
 output : w'.output = w.output
 size : w.heap.size ≤ w'.heap.size
 other : ∀ b, b < w.heap.size → (∀ o, Φ b o = none) → w'.heap[b]? = w.heap[b]?
theorem Kf.refl (Φ : Fi) (w : World) : Kf Φ w w := ⟨rfl, rfl, rfl, Nat.le_refl _, fun _ _ _ => rfl⟩
theorem Kf.trans {Φ : Fi} {w w' w'' : World} (h : Kf Φ w w') (k : Kf Φ w' w'') : Kf Φ w w'' :=
 ⟨k.os.trans h.os, k.tape.trans h.tape, k.output.trans h.output, Nat.le_trans h.size k.size, fun b hb hn => (k.other b (Nat.lt_of_lt_of_le hb h.size) hn).trans (h.other b hb hn)⟩
theorem Kf.below {Φ : Fi} {w w' : World} (k : Below w.heap.size w w') : Kf Φ w w' := ⟨k.os, k.tape, k.output, k.size, fun b hb _ => k.block b hb⟩
theorem MM.below {Φ : Fi} {w w' : World} (h : MM w Φ) (k : Below w.heap.size w w') : MM w' Φ := fun b o c e => by
 obtain ⟨cur, t, h1, h2, h3⟩ := h b o c e
 exact ⟨cur, t, (k.block b (Array.getElem?_eq_some_iff.1 h1).1).trans h1, h2, h3⟩
theorem Kf.kept {Φ : Fi} {w w' : World} {bs : List Nat} (h : Kf Φ w w') (k : ∀ b, b ∉ bs → ∀ o, Φ b o = none) : Kept w w' bs := ⟨h.os, h.tape, h.output, h.size, fun b hb hn => h.other b hb (k b hn)⟩
structure MK (Φ : Fi) (w0 w : World) : Prop where
 m : MM w Φ
 k : Kf Φ w0 w
theorem MK.step {Φ : Fi} {w0 w w' : World} (h : MK Φ w0 w) (k : Below w.heap.size w w') : MK Φ w0 w' := ⟨h.m.below k, h.k.trans (Kf.below k)⟩
theorem MK.trans {Φ : Fi} {w0 w w' : World} (h : MK Φ w0 w) (k : MK Φ w w') : MK Φ w0 w' := ⟨k.m, h.k.trans k.k⟩
theorem MM.cell {Φ : Fi} {w : World} {b o off : Nat} {v : Value} (h : MM w Φ) (p : Φ b o = some (some v)) (e : off = o) : w.cell? ⟨b, off, none⟩ = some v := by
 subst e
 obtain ⟨cur, t, h1, h2, h3⟩ := h b off _ p
 rw [cell_of_row w b off cur t (0, 0) h1]
 exact h3 v rfl
theorem fi_mm (w : World) (bs : List Nat) : MM w (fi w bs) := fun b o c e => by
 unfold fi at e
 split at e
 ·split at e
  ·rename_i cur t hh
   refine ⟨cur, t, hh, ?_, fun u hu => ?_⟩
   ·cases hq : cur[o]? with
    | none => rw [hq] at e; cases e
    | some v => exact (Array.getElem?_eq_some_iff.1 hq).1
   ·subst hu
    cases hq : cur[o]? with
    | none => rw [hq] at e; cases e
    | some v =>
     rw [hq] at e
     cases v <;> simp only [fiOf, Option.some.injEq] at e <;> first | (rw [← e]; done) | (cases e; done) | (subst e; rfl)
  ·cases e
 ·cases e
theorem fi_other {w : World} {bs : List Nat} {b : Nat} (h : b ∉ bs) (o : Nat) : fi w bs b o = none := if_neg h
theorem fi_at {w : World} {bs : List Nat} {b o : Nat} {v : Value} (hb : b ∈ bs) (hf : Free w b) (hc : w.cell? ⟨b, o, none⟩ = some v) : fi w bs b o = fiOf (some v) := by
 obtain ⟨cur, t, hh⟩ := hf
 rw [cell_of_row w b o cur t (0, 0) hh] at hc
 unfold fi
 rw [if_pos hb, hh]
 show fiOf cur[o]? = _
 rw [hc]
mutual
/-- the tree lies at cell o of block b -/
def Ph (Φ : Fi) (b o : Nat) : D → Prop
 | .lf _ => Φ b o = some none
 | .st fs => Phs Φ b o fs
 | .sl es => ∃ a cap, Φ b o = some (some (.slice a es.length cap)) ∧ es.length ≤ cap ∧ cap ≤ maxLen ∧ (es = [] ∨ ∃ b' o', a = some ⟨b', o', none⟩ ∧ Phs Φ b' o' es)
def Phs (Φ : Fi) (b o : Nat) : List D → Prop
 | [] => True
 | d :: ds => Ph Φ b o d ∧ Phs Φ b (o + d.width) ds
end
def Hd (Φ : Fi) (v : Value) (es : List D) : Prop := ∃ a cap, v = .slice a es.length cap ∧ es.length ≤ cap ∧ cap ≤ maxLen ∧ (es = [] ∨ ∃ b o, a = some ⟨b, o, none⟩ ∧ Phs Φ b o es)
mutual
theorem own_ph {w : World} {BS : List Nat} : ∀ (d : D) (cs : List Value) (bs : List Nat) (b o : Nat), Own w d cs bs → (∀ x ∈ bs, x ∈ BS) → b ∈ BS → Free w b → Cells w b o cs → Ph (fi w BS) b o d
 | .lf v, cs, bs, b, o, h, _, hb, hf, hc => by
  simp only [Own] at h
  obtain ⟨rfl, h, -⟩ := h
  simp only [Ph]
  rw [fi_at hb hf (by simpa using hc 0 v rfl)]
  cases v <;> first | rfl | exact h.elim
 | .st fs, cs, bs, b, o, h, k, hb, hf, hc => by
  simp only [Own] at h
  simp only [Ph]
  exact ownS_ph fs cs bs b o h k hb hf hc
 | .sl es, cs, bs, b, o, h, k, hb, hf, hc => by
  simp only [Own] at h
  obtain ⟨a, cap, rfl, h2, h3, -, h5⟩ := h
  simp only [Ph]
  refine ⟨a, cap, by rw [fi_at hb hf (by simpa using hc 0 _ rfl)]; rfl, h2, h3, ?_⟩
  rcases h5 with ⟨h5, -⟩ | ⟨b', off, r, ha, rfl, hf', he⟩
  ·exact .inl h5
  ·exact .inr ⟨b', off, ha, ownE_ph es b' off r he (fun x hx => k x (by simp [hx])) (k b' (by simp)) hf'⟩
theorem ownS_ph {w : World} {BS : List Nat} : ∀ (ds : List D) (cs : List Value) (bs : List Nat) (b o : Nat), OwnS w ds cs bs → (∀ x ∈ bs, x ∈ BS) → b ∈ BS → Free w b → Cells w b o cs → Phs (fi w BS) b o ds
 | [], _, _, _, _, _, _, _, _, _ => by simp only [Phs]
 | d :: ds, cs, bs, b, o, h, k, hb, hf, hc => by
  simp only [OwnS] at h
  obtain ⟨c1, c2, b1, b2, rfl, rfl, h1, h2⟩ := h
  simp only [Phs]
  have hl := Rep.length (K := fun _ => True) d c1 (Own.rep d c1 b1 h1 (fun _ _ => trivial))
  refine ⟨own_ph d c1 b1 b o h1 (fun x hx => k x (by simp [hx])) hb hf (fun j u hu => hc j u (by rw [List.getElem?_append_left (List.getElem?_eq_some_iff.1 hu).1]; exact hu)), ownS_ph ds c2 b2 b _ h2 (fun x hx => k x (by simp [hx])) hb hf (fun j u hu => ?_)⟩
  have := hc (c1.length + j) u (by rw [List.getElem?_append_right (by omega)]; simpa using hu)
  rw [hl, ← Nat.add_assoc] at this
  exact this
theorem ownE_ph {w : World} {BS : List Nat} : ∀ (ds : List D) (b o : Nat) (bs : List Nat), OwnE w ds b o bs → (∀ x ∈ bs, x ∈ BS) → b ∈ BS → Free w b → Phs (fi w BS) b o ds
 | [], _, _, _, _, _, _, _ => by simp only [Phs]
 | d :: ds, b, o, bs, h, k, hb, hf => by
  simp only [OwnE] at h
  obtain ⟨cs, b1, b2, rfl, h1, h2, h3⟩ := h
  simp only [Phs]
  exact ⟨own_ph d cs b1 b o h2 (fun x hx => k x (by simp [hx])) hb hf h1, ownE_ph ds b _ b2 h3 (fun x hx => k x (by simp [hx])) hb hf⟩
end
theorem own_hd {w : World} {es : List D} {v : Value} {bs BS : List Nat} (h : Own w (.sl es) [v] bs) (k : ∀ x ∈ bs, x ∈ BS) : Hd (fi w BS) v es := by
 simp only [Own] at h
 obtain ⟨a, cap, h1, h2, h3, -, h5⟩ := h
 simp only [List.cons.injEq, and_true] at h1
 refine ⟨a, cap, h1, h2, h3, ?_⟩
 rcases h5 with ⟨h5, -⟩ | ⟨b', off, r, ha, rfl, hf', he⟩
 ·exact .inl h5
 ·exact .inr ⟨b', off, ha, ownE_ph es b' off r he (fun x hx => k x (by simp [hx])) (k b' (by simp)) hf'⟩
theorem Phs_app {Φ : Fi} {b : Nat} : ∀ (fs ds : List D) (o : Nat), Phs Φ b o (fs ++ ds) ↔ Phs Φ b o fs ∧ Phs Φ b (o + D.widths fs) ds
 | [], ds, o => by simp only [List.nil_append, Phs, D.widths, Nat.add_zero, true_and]
 | f :: fs, ds, o => by
  simp only [List.cons_append, Phs, D.widths, Phs_app fs ds, Nat.add_assoc, and_assoc]
theorem Phs_lf {Φ : Fi} {b o : Nat} {v : Value} {ds : List D} : Phs Φ b o (.lf v :: ds) ↔ Φ b o = some none ∧ Phs Φ b (o + 1) ds := by simp only [Phs, Ph, D.width]
theorem Phs_sl {Φ : Fi} {b o : Nat} {es ds : List D} : Phs Φ b o (.sl es :: ds) ↔ ∃ c, Φ b o = some (some c) ∧ Hd Φ c es ∧ Phs Φ b (o + 1) ds := by
 simp only [Phs, Ph, D.width, Hd]
 constructor
 ·rintro ⟨⟨a, cap, h1, h2⟩, h3⟩
  exact ⟨_, h1, ⟨a, cap, rfl, h2⟩, h3⟩
 ·rintro ⟨c, h1, ⟨a, cap, rfl, h2⟩, h3⟩
  exact ⟨⟨a, cap, h1, h2⟩, h3⟩
theorem Phs_stc {Φ : Fi} {b o : Nat} {fs ds : List D} : Phs Φ b o (.st fs :: ds) ↔ Phs Φ b o (fs ++ ds) := by
 rw [Phs_app]; simp only [Phs, Ph, D.width]
theorem Ph_st {Φ : Fi} {b o : Nat} {fs : List D} : Ph Φ b o (.st fs) ↔ Phs Φ b o fs := by simp only [Ph]
theorem Ph_lf {Φ : Fi} {b o : Nat} {v : Value} : Ph Φ b o (.lf v) ↔ Φ b o = some none := by simp only [Ph]
theorem Phs_get {α : Type} {enc : α → D} {s : Nat} (hs : ∀ x, (enc x).width = s) {Φ : Fi} {b : Nat} : ∀ (l : List α) (o n : Nat) (hn : n < l.length), Phs Φ b o (l.map enc) → Ph Φ b (o + n * s) (enc l[n])
 | x :: l, o, 0, _, h => by
  simp only [List.map_cons, Phs] at h
  simpa using h.1
 | x :: l, o, n + 1, hn, h => by
  simp only [List.map_cons, Phs, hs] at h
  have := Phs_get hs l (o + s) n (by simpa using hn) h.2
  rw [show o + (n + 1) * s = o + s + n * s by rw [Nat.add_mul]; omega]
  simpa using this
theorem hd_open {α : Type} {enc : α → D} {s : Nat} (hs : ∀ x, (enc x).width = s) {Φ : Fi} {l : List α} {v : Value} (h : Hd Φ v (l.map enc)) :
  ∃ a cap, v = .slice a l.length cap ∧ l.length ≤ cap ∧ cap ≤ maxLen ∧ ∀ n (hn : n < l.length), ∃ b off, a = some ⟨b, off, none⟩ ∧ Ph Φ b (off + n * s) (enc l[n]) := by
 obtain ⟨a, cap, h1, h2, h3, h4⟩ := h
 rw [List.length_map] at h1 h2
 refine ⟨a, cap, h1, h2, h3, fun n hn => ?_⟩
 rcases h4 with h4 | ⟨b, o, h4, h5⟩
 ·have := congrArg List.length h4
  simp at this
  subst this
  simp at hn
 ·exact ⟨b, o, h4, Phs_get hs l o n hn h5⟩
theorem stF {P : Program} {w : World} {ops : Array Oper} {rest : List Oper} {o : Oper} {a : Act} {Q : Exit → Act → World → Prop} (hg : o.guard = none) (ty : TypeId) (x v : Operand) (ho : o.op = .store ty x v)
  (b off : Nat) (hx : a.eval x = .pointer (some ⟨b, off, none⟩)) (u : Value) (hv : a.eval v = u) (hi : (P.info? ty).map (·.size) = some 1) (h1 : u.oneCell' = true)
  {Φ : Fi} {w0 : World} {o' : Nat} (hm : Hid (MK Φ w0 w)) (hp : Hid (Φ b o' = some none)) (hoff : off = o')
  (h : ∀ w', Hid (MK Φ w0 w') → wpList P ops Q rest (a.put o.dst undef) w') : wpList P ops Q (o :: rest) a w := by
 subst hoff
 replace hm := hm.out
 replace hp := hp.out
 obtain ⟨cur, t, hr, hlt, -⟩ := hm.m b off _ hp
 refine stW hg ty x v ho b off hx u hv hi h1 (t := t) (pre := []) (cs := cur.toList) (post := []) (by unfold RowAt; simpa using hr) off (by simp) (by simpa using hlt) fun w' hr' hw => h w' (Lib.hid ⟨fun b2 o2 c e => ?_, hm.k.trans ⟨hw.os, hw.tape, hw.output, by rw [hw.size]; exact Nat.le_refl _, fun b2 _ hn => hw.other b2 (fun q => by subst q; rw [hn off] at hp; cases hp)⟩⟩)
 by_cases hb : b2 = b
 ·subst hb
  obtain ⟨cur2, t2, k1, k2, k3⟩ := hm.m b2 o2 c e
  rw [hr] at k1
  simp only [Option.some.injEq, Obj.cells.injEq] at k1
  obtain ⟨rfl, -⟩ := k1
  refine ⟨(cur.toList.set off u).toArray, t, by unfold RowAt at hr'; simpa using hr', by simpa using k2, fun u2 hu => ?_⟩
  have hne : off ≠ o2 := fun q => by subst q; rw [hp] at e; cases e; cases hu
  have := k3 u2 hu
  simp only [List.getElem?_toArray, List.getElem?_set_ne hne, Array.getElem?_toList]
  exact this
 ·obtain ⟨cur2, t2, k1, k2, k3⟩ := hm.m b2 o2 c e
  exact ⟨cur2, t2, (hw.other b2 hb).trans k1, k2, k3⟩
theorem PL {Φ : Fi} {b o : Nat} {v : Value} {ds : List D} (h : Phs Φ b o (.lf v :: ds)) : Hid (Φ b o = some none) ∧ Phs Φ b (o + 1) ds := ⟨Lib.hid (Phs_lf.1 h).1, (Phs_lf.1 h).2⟩
theorem PS {Φ : Fi} {b o : Nat} {es ds : List D} (h : Phs Φ b o (.sl es :: ds)) : ∃ c, Hid (Φ b o = some (some c)) ∧ Hid (Hd Φ c es) ∧ Phs Φ b (o + 1) ds := by
 obtain ⟨c, h1, h2, h3⟩ := Phs_sl.1 h
 exact ⟨c, Lib.hid h1, Lib.hid h2, h3⟩
theorem PT {Φ : Fi} {b o : Nat} {fs ds : List D} (h : Phs Φ b o (.st fs :: ds)) : Phs Φ b o (fs ++ ds) := Phs_stc.1 h
theorem mkg {Φ : Fi} {w0 w : World} {b o off : Nat} {v : Value} (h : Hid (MK Φ w0 w)) (p : Hid (Φ b o = some (some v))) (e : off = o) : w.cell? ⟨b, off, none⟩ = some v := h.out.m.cell p.out e
/-- the function f marks rows es -/
def MW (f : Nat) (es : List D) : Prop := ∀ (Φ : Fi) (v : Value), Hd Φ v es → ∀ (w : World) (k : Int), MM w Φ → 0 ≤ k → k + (cnts es : Nat) ≤ 4611686018427387904 →
 Calls Tryz.prog f #[v, .int .i64 k] w fun e w' => e = .returned (.int .i64 (k + (cnts es : Nat))) ∧ Hid (MK Φ w w')
theorem mkc {f : Nat} {es : List D} (hc : MW f es) {Φ : Fi} {v : Value} {w0 w : World} {k : Int} (Q : Hid (Hd Φ v es)) (Hk : Hid (MK Φ w0 w)) (h0 : 0 ≤ k) (h1 : k + (cnts es : Nat) ≤ 4611686018427387904) :
  Calls Tryz.prog f #[v, .int .i64 k] w fun e w' => e = .returned (.int .i64 (k + (cnts es : Nat))) ∧ Hid (MK Φ w0 w') :=
 (hc Φ v Q.out w k Hk.out.m h0 h1).mono fun _ _ ⟨e1, e2⟩ => ⟨e1, Lib.hid (Hk.out.trans e2.out)⟩
theorem mkt {Φ : Fi} {w0 w : World} {k : Int} (Hk : Hid (MK Φ w0 w)) (h0 : k ≤ 4611686018427387904) :
  Calls Tryz.prog 32 #[.int .i64 k] w fun e w' => e = .returned (.string (mtext k)) ∧ Hid (MK Φ w0 w') :=
 (markText_c k h0 w).mono fun _ _ ⟨e1, e2⟩ => ⟨e1, Lib.hid (Hk.out.step e2)⟩
def MWI (k : Int) (es : List D) (n0 : Nat) (Φ : Fi) (w : World) (i kk : Value) (wr : World) : Prop := ∃ (n : Nat) (c : Int), n ≤ n0 ∧ i = .int .i64 n ∧ kk = .int .i64 c ∧ 0 ≤ c ∧ Hid (c = k + (cnts (es.take n) : Nat)) ∧ Hid (MK Φ w wr)
end Go.Proofs.YtdooklofebdknaaGreat
