/- Den10: when an operation may run, in one word; what it looks at. No condition. -/
import Derived.Test.YtkmiecgcibjkbaaGreatDen9
namespace Go.Proofs.YtkmiecgcibjkbaaGreat
open Go.RowKit
def AV.bl : AV → Prop
  | .d (.lf (.bool _)) => True
  | _ => False
def okIx (n : Int) (m : Nat) : Prop := 0 ≤ n ∧ n.toNat < m
/-- the conditions of an operation that is no call of a function -/
def okP (c : Cx) (mv : List Nat) (o : Oper) (S : St) : Prop := (∀ k, o.dst = some k → k < S.n) ∧ (cls mv o).Nodup ∧ match o.op with
  | .move x => okO c o.type x
  | .assign x => okO c o.type x
  | .nilCheck x => okO c o.type x ∧ match evT c o.type S x with
    | .pt _ _ _ => True
    | .el _ => True
    | .fn _ _ => True
    | _ => False
  | .pick g x y => okO c 0 g ∧ okO c o.type x ∧ okO c o.type y ∧ match evT c 0 S g with
    | .d (.lf (.bool b)) => val c mv o S = bif b then evT c o.type S x else evT c o.type S y
    | _ => False
  | .fieldAddr T x i => okO c 0 x ∧ match c.ty T with
    | some { kd := .st fl, .. } => i < fl.length ∧ match evT c 0 S x with
      | .el (.st fs) => DD.shs fs = fl.map Prod.snd
      | .pt lv k p => match hpg S.hp lv k with
        | some cn => ∃ s, cn.csh = some s ∧ ∀ off, offP s p = some off → offP s (p ++ [i]) = some (off + Sh.ws ((fl.map Prod.snd).take i))
        | none => False
      | _ => False
    | _ => False
  | .field T x i => okO c 0 x ∧ match c.ty T with
    | some { kd := .st fl, .. } => i < fl.length ∧ match evT c 0 S x with
      | .d (.st fs) => DD.shs fs = fl.map Prod.snd
      | _ => False
    | _ => False
  | .indexAddr T x i => okO c T x ∧ okO c 0 i ∧ match c.ty T with
    | some { kd := .sl _ s', .. } => match evT c T S x, evT c 0 S i with
      | .d (.sl _ s es), .d (.lf (.int _ n)) => okIx n es.length ∧ s = s'
      | .rw lv q m, .d (.lf (.int _ n)) => okIx n m ∧ ∃ cn, hpg S.hp lv q = some cn ∧ cn.csh = some (.st (List.replicate m s'))
      | _, _ => False
    | _ => False
  | .index T x i => okO c 0 x ∧ okO c 0 i ∧ match c.ty T with
    | some { kd := .str, .. } => match evT c 0 S x, evT c 0 S i with
      | .d (.lf (.string s)), .d (.lf (.int _ n)) => okIx n s.size
      | _, _ => False
    | _ => False
  | .extract x i => okO c 0 x ∧ match evT c 0 S x with
    | .tp l => i < l.length
    | _ => False
  | .binOp op T x y _ => okO c 0 x ∧ okO c 0 y ∧ match evT c 0 S x, evT c 0 S y with
    | .d (.lf u), .d (.lf v) => okB op u v ∨ ∃ p q ti, u = .bool p ∧ v = .bool q ∧ c.ty T = some ti ∧ (match ti.kd with | .bool => True | _ => False) ∧ (op = .eql ∨ op = .neq)
    | _, _ => False
  | .unOp .not _ x => okO c 0 x ∧ (evT c 0 S x).bl
  | .convert Ts T x => okO c 0 x ∧ (∃ ts, c.ty Ts = some ts) ∧ match c.ty T, evT c 0 S x with
    | some { kd := .int _, .. }, .d (.lf (.int _ _)) => True
    | _, _ => False
  | .slice T x lo hi none => okO c T x ∧ okX c lo ∧ okX c hi ∧ match c.ty T, evT c T S x with
    | some { kd := .str, .. }, .d (.lf (.string s)) => ∃ l h kl, loV c S lo = .d (.lf (.int kl ((l : Nat) : Int))) ∧ (hi.map (evT c 0 S) = none ∧ h = s.size ∨ ∃ kh, hi.map (evT c 0 S) = some (.d (.lf (.int kh (h : Int))))) ∧ l ≤ h ∧ h ≤ s.size
    | some { kd := .sl _ s', .. }, .d (.sl _ s es) => s = s' ∧ ∃ l h kl, loV c S lo = .d (.lf (.int kl ((l : Nat) : Int))) ∧ (hi.map (evT c 0 S) = none ∧ h = es.length ∨ ∃ kh, hi.map (evT c 0 S) = some (.d (.lf (.int kh (h : Int))))) ∧ l ≤ h ∧ h ≤ es.length
    | _, _ => False
  | .makeFunc (.func _) first cap => first = #[] ∧ ∀ x ∈ cap.toList, okO c 0 x
  | .build T ps => match c.ty T with
    | some { kd := .st fl, z := .st _, .. } => ∀ p ∈ ps.toList, okO c (c.ft T p.1) p.2 ∧ ∃ x s, tkT c (c.ft T p.1) S p.2 = .d x ∧ (fl.map Prod.snd)[p.1]? = some s ∧ x.sh = s
    | _ => False
  | .call { callee := .builtin .len, args, argTypes } => ∃ x T, args = #[x] ∧ argTypes = #[T] ∧ okO c 0 x ∧ match c.ty T, evT c 0 S x with
    | some { kd := .sl _ _, .. }, .d (.sl _ _ _) => True
    | some { kd := .sl _ _, .. }, .rw _ _ _ => True
    | some { kd := .str, .. }, .d (.lf (.string _)) => True
    | _, _ => False
  | .call { callee := .builtin .min, args, .. } => ∃ x y, args = #[x, y] ∧ okO c 0 x ∧ okO c 0 y ∧ ∃ k m n, evT c 0 S x = .d (.lf (.int k m)) ∧ evT c 0 S y = .d (.lf (.int k n))
  | .call { callee := .builtin .max, args, .. } => ∃ x y, args = #[x, y] ∧ okO c 0 x ∧ okO c 0 y ∧ ∃ k m n, evT c 0 S x = .d (.lf (.int k m)) ∧ evT c 0 S y = .d (.lf (.int k n))
  | .call { callee := .builtin .append, args, argTypes } => ∃ x y T, args = #[x, y] ∧ argTypes = #[T, T] ∧ okO c T x ∧ okO c T y ∧ match c.ty T with
    | some { kd := .sl e s, .. } => match c.ty e with
      | some te => te.sh = s ∧ match tkT c T S x, tkT c T S y with
        | .d (.sl true s1 es), .d (.sl _ s2 ys) => s1 = s ∧ s2 = s ∧ es.length + ys.length ≤ maxLen ∧ (es.length + ys.length) * te.bytes ≤ 140737488355328
        | _, _ => False
      | none => False
    | _ => False
  | .alloc T => (∃ ti, c.ty T = some ti) ∧ 0 < S.hp.length ∧ ∃ k, o.dst = some k ∧ hpg S.hp 0 k = none
  | .box T x => okO c T x ∧ 0 < S.hp.length ∧ (∃ s, (tkT c T S x).csh = some s) ∧ ∃ k, o.dst = some k ∧ hpg S.hp 0 k = none
  | .load T x => okO c 0 x ∧ match c.ty T, evT c 0 S x with
    | some ti, .el y => y.sh = ti.sh
    | some ti, .pt lv k p => match hpg S.hp lv k with
      | some cn => (rdA cn p).csh = some ti.sh ∧ (mvB mv o.dst = true → ∃ y, cn = .d y)
      | none => False
    | _, _ => False
  | .store T x y => okO c 0 x ∧ okO c T y ∧ match c.ty T, evT c 0 S x with
    | some ti, .pt lv k p => match hpg S.hp lv k with
      | some cn => (rdA cn p).csh = some ti.sh ∧ (tkT c T S y).csh = some ti.sh ∧ ((∃ u z, cn = .d u ∧ tkT c T S y = .d z) ∨ p = [])
      | none => False
    | _, _ => False
  | .buildSlice T n ps => match c.ty T with
    | some { kd := .sl e s, .. } => match c.ty e with
      | some te => te.sh = s ∧ n * s.w ≤ 2 ^ 24 ∧ ∀ p ∈ ps.toList, okO c e p.2 ∧ p.1 < n ∧ ∃ x, tkT c e S p.2 = .d x ∧ x.sh = s
      | none => False
    | _ => False
  | .makeSlice T x y => y = x ∧ okO c 0 x ∧ 0 < S.hp.length ∧ (∃ k, o.dst = some k ∧ hpg S.hp 0 k = none) ∧ match c.ty T, evT c 0 S x with
    | some { kd := .sl e s, .. }, .d (.lf (.int _ n)) => match c.ty e with
      | some te => te.sh = s ∧ 0 ≤ n ∧ n ≤ 9223372036854775807 ∧ (te.bytes : Int) * n ≤ 281474976710656
      | none => False
    | _, _ => False
  | _ => False
theorem ok_snd {c : Cx} {mv : List Nat} {o : Oper} {S : St} (h : okP c mv o S) : Snd c o S (nx c mv o S) := by
  obtain ⟨hd, hn, h⟩ := h
  have pure_ : (nx c mv o S = nxP c mv o S) → (∀ (w : World) (F : Nat → Nat) (Θ : Ty) (own : Who → List Nat) (a : Act), Rel w F Θ own S a → ∃ v, (execOp a.eval o).run c.P w = .ok (.value v) w ∧ rv w F Θ (val c mv o S) v ((cls mv o).flatMap fun t => own (.t t))) → Snd c o S (nx c mv o S) :=
    fun e k => by rw [e]; exact snd_pure hd hn k
  split at h
  case h_1 x ho => exact pure_ (by unfold nx; simp only [ho]) fun w F Θ own a hR => p_move hR x ho h
  case h_2 x ho => exact pure_ (by unfold nx; simp only [ho]) fun w F Θ own a hR => p_assign hR x ho h
  case h_3 x ho =>
    refine pure_ (by unfold nx; simp only [ho]) fun w F Θ own a hR => p_nil hR x ho ?_ h.1
    have h2 := h.2
    split at h2
    · exact .inl ⟨_, _, _, ‹_›⟩
    · exact .inr (.inl ⟨_, ‹_›⟩)
    · exact .inr (.inr ⟨_, _, ‹_›⟩)
    · exact h2.elim
  case h_4 g x y ho =>
    refine pure_ (by unfold nx; simp only [ho]) fun w F Θ own a hR => ?_
    obtain ⟨h1, h2, h3, h4⟩ := h
    split at h4
    · exact p_pick hR g x y ho _ ‹_› h1 h2 h3 h4
    · exact h4.elim
  case h_5 T x i ho =>
    refine pure_ (by unfold nx; simp only [ho]) fun w F Θ own a hR => ?_
    obtain ⟨h1, h2⟩ := h
    split at h2
    · rename_i fl ht
      obtain ⟨h2, h3⟩ := h2
      split at h3
      · exact p_fieldEl hR T i x ho _ fl _ ht rfl ‹_› h1 h3 h2
      · split at h3
        · obtain ⟨s, h4, h5⟩ := h3
          exact p_fieldPt hR T i x ho _ fl ht rfl _ _ _ _ ‹_› h1 ‹_› s h4 h5 h2
        · exact h3.elim
      · exact h3.elim
    · exact h2.elim
  case h_6 T x i ho =>
    refine pure_ (by unfold nx; simp only [ho]) fun w F Θ own a hR => ?_
    obtain ⟨h1, h2⟩ := h
    split at h2
    · rename_i fl ht
      obtain ⟨h2, h3⟩ := h2
      split at h3
      · exact p_field hR T i x ho _ fl _ ht rfl ‹_› h1 h3 h2
      · exact h3.elim
    · exact h2.elim
  case h_7 T x i ho =>
    refine pure_ (by unfold nx; simp only [ho]) fun w F Θ own a hR => ?_
    obtain ⟨h1, h2, h3⟩ := h
    split at h3
    · rename_i s' ht
      split at h3
      · obtain ⟨⟨h4, h5⟩, h6⟩ := h3
        exact p_index hR T x i ho _ _ s' ht rfl _ _ _ ‹_› h1 _ _ ‹_› h2 h4 h5 h6
      · obtain ⟨⟨h4, h5⟩, cn, h6, h7⟩ := h3
        exact p_indexRw hR T x i ho _ _ s' ht rfl _ _ _ ‹_› h1 cn h6 h7 _ _ ‹_› h2 h4 h5
      · exact h3.elim
    · exact h3.elim
  case h_8 T x i ho =>
    refine pure_ (by unfold nx; simp only [ho]) fun w F Θ own a hR => ?_
    obtain ⟨h1, h2, h3⟩ := h
    split at h3
    · rename_i ht
      split at h3
      · exact p_indexStr hR T x i ho _ ht rfl _ ‹_› h1 _ _ ‹_› h2 h3.1 h3.2
      · exact h3.elim
    · exact h3.elim
  case h_9 x i ho =>
    refine pure_ (by unfold nx; simp only [ho]) fun w F Θ own a hR => ?_
    obtain ⟨h1, h2⟩ := h
    split at h2
    · exact p_extract hR x i ho _ ‹_› h1 h2
    · exact h2.elim
  case h_10 op T x y yT ho =>
    refine pure_ (by unfold nx; simp only [ho]) fun w F Θ own a hR => ?_
    obtain ⟨h1, h2, h3⟩ := h
    split at h3
    · exact p_bin hR op T yT x y ho _ _ ‹_› ‹_› h1 h2 h3
    · exact h3.elim
  case h_11 T x ho =>
    refine pure_ (by unfold nx; simp only [ho]) fun w F Θ own a hR => ?_
    obtain ⟨h1, h2⟩ := h
    unfold AV.bl at h2
    split at h2
    · exact p_not hR T x ho _ ‹_› h1
    · exact h2.elim
  case h_12 Ts T x ho =>
    refine pure_ (by unfold nx; simp only [ho]) fun w F Θ own a hR => ?_
    obtain ⟨h1, ⟨ts, h2⟩, h3⟩ := h
    split at h3
    · exact p_conv hR Ts T x ho _ _ _ _ ts ‹_› rfl h2 ‹_› h1
    · exact h3.elim
  case h_13 T x lo hi ho =>
    refine pure_ (by unfold nx; simp only [ho]) fun w F Θ own a hR => ?_
    obtain ⟨h1, h2, h3, h4⟩ := h
    split at h4
    · obtain ⟨l, h, kl, g1, g2, g3, g4⟩ := h4
      exact p_sliceStr hR T x lo hi ho _ ‹_› rfl _ ‹_› h1 l h kl g1 g2 h2 h3 g3 g4
    · obtain ⟨g0, l, h, kl, g1, g2, g3, g4⟩ := h4
      exact p_sliceSl hR T x lo hi ho _ ‹_› _ _ rfl _ _ _ ‹_› h1 g0 l h kl g1 g2 h2 h3 g3 g4
    · exact h4.elim
  case h_14 f first cap ho => exact pure_ (by unfold nx; simp only [ho]) fun w F Θ own a hR => p_fn hR f first cap ho h.1 h.2
  case h_15 T ps ho =>
    have e : nx c mv o S = nxP c mv o S := by unfold nx; simp only [ho]
    rw [e]
    split at h
    · exact snd_build hd T ps ho hn _ _ _ ‹_› rfl rfl h
    · exact h.elim
  case h_16 args ts ho =>
    refine pure_ (by unfold nx; simp only [ho]) fun w F Θ own a hR => ?_
    obtain ⟨x, T, rfl, rfl, h1, h2⟩ := h
    split at h2
    · exact p_lenSl hR x T _ ho rfl _ ‹_› _ _ rfl h1 (.inl ⟨_, _, _, ‹_›⟩)
    · exact p_lenSl hR x T _ ho rfl _ ‹_› _ _ rfl h1 (.inr ⟨_, _, _, ‹_›⟩)
    · exact p_lenStr hR x T _ ho rfl _ ‹_› rfl h1 _ ‹_›
    · exact h2.elim
  case h_17 args ts ho =>
    refine pure_ (by unfold nx; simp only [ho]) fun w F Θ own a hR => ?_
    obtain ⟨x, y, rfl, h1, h2, k, m, n, h3, h4⟩ := h
    exact p_mm hR x y .min (.inl rfl) ts _ ho rfl h1 h2 k m n h3 h4
  case h_18 args ts ho =>
    refine pure_ (by unfold nx; simp only [ho]) fun w F Θ own a hR => ?_
    obtain ⟨x, y, rfl, h1, h2, k, m, n, h3, h4⟩ := h
    exact p_mm hR x y .max (.inr rfl) ts _ ho rfl h1 h2 k m n h3 h4
  case h_19 args ts ho =>
    obtain ⟨x, y, T, rfl, rfl, h1, h2, h3⟩ := h
    split at h3
    · split at h3
      · obtain ⟨h4, h5⟩ := h3
        split at h5
        · obtain ⟨g1, g2, g3, g4⟩ := h5
          exact snd_append hd T x y _ ho rfl hn _ _ _ _ ‹_› rfl ‹_› h4 h1 h2 _ _ _ _ _ ‹_› ‹_› g1 g2 g3 g4
        · exact h5.elim
      · exact h3.elim
    · exact h3.elim
  case h_20 T ho =>
    obtain ⟨⟨ti, h1⟩, h2, k, h3, h4⟩ := h
    exact snd_alloc hd T k ho h3 ti h1 h4 h2
  case h_21 T x ho =>
    obtain ⟨h1, h2, ⟨s, h3⟩, k, h4, h5⟩ := h
    exact snd_box hd T k x ho h4 h1 s h3 h5 h2
  case h_22 T x ho =>
    obtain ⟨h1, h2⟩ := h
    split at h2
    · exact snd_loadEl hd T x ho _ ‹_› h1 _ ‹_› h2
    · split at h2
      · exact snd_load hd T x ho _ ‹_› h1 _ _ _ ‹_› _ ‹_› h2.1 h2.2
      · exact h2.elim
    · exact h2.elim
  case h_23 T x y ho =>
    obtain ⟨h1, h2, h3⟩ := h
    split at h3
    · split at h3
      · exact snd_store hd T x y ho _ ‹_› h1 h2 _ _ _ ‹_› _ ‹_› h3.1 h3.2.1 h3.2.2
      · exact h3.elim
    · exact h3.elim
  case h_24 T n ps ho =>
    split at h
    · split at h
      · exact snd_buildSlice hd T n ps ho hn _ _ _ _ ‹_› rfl ‹_› h.1 h.2.2 h.2.1
      · exact h.elim
    · exact h.elim
  case h_25 T x y ho =>
    obtain ⟨rfl, h1, h2, ⟨k, h3, h4⟩, h5⟩ := h
    split at h5
    · split at h5
      · obtain ⟨g1, g2, g3, g4⟩ := h5
        exact snd_make hd T k _ ho h3 _ _ _ _ ‹_› rfl ‹_› g1 h1 _ _ ‹_› g2 g3 g4 h4 h2
      · exact h5.elim
    · exact h5.elim
  case h_26 => exact h.elim
end Go.Proofs.YtkmiecgcibjkbaaGreat
