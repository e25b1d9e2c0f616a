/- Den22: loops over families of states, branches, regions apart from what follows; Den23: from a call by the rules to a call in terms of trees (Rep, Own); Den24: operations that stand under a guard; regions whose ways join again; Den25: loops that change what lies in the callers' variables; function values with captured variables. No condition but sizes. -/
import Derived.Test.YtkadbimpaplnmaaGreatDoorM14
namespace Go.Proofs.YtkadbimpaplnmaaGreatDoor
open Go.RowKit
def toOk (S : St) (L L2 : List (Nat × AV)) : Prop := S.hp ≠ [] ∧ (∀ p ∈ L, S.tm p.1 = p.2 ∧ p.2.cl L2) ∧ ∀ p ∈ L2, hd S p.1 = some p.2 ∧ p.2.cl L2
theorem hd_eq {S : St} (h : S.hp ≠ []) : S.hp = hd S :: S.hp.tail := by
 unfold hd
 cases hs : S.hp with
 | nil => exact absurd hs h
 | cons f r => rfl
theorem wk_to {S : St} {h : HP} (L L2 : List (Nat × AV)) (hh : S.hp.tail = upH h) (k : toOk S L L2) : Wk S ⟨S.n, tl L, al L2 :: upH h⟩ :=
 wk_prune L L2 (by rw [← hh]; exact hd_eq k.1) k.2.1 k.2.2
/-- what a loop starts from: some things as in S, others given -/
def stk (S : St) (ts ks : List Nat) (V H : List (Nat × AV)) : St := ⟨S.n, tl (V ++ tls S ts), al (H ++ hls (hd S) ks) :: S.hp.tail⟩
theorem Wz.to {S S0 : St} {h : HP} {ts ks : List Nat} {V H : List (Nat × AV)} (hh : S.hp.tail = upH h) (h0 : S0.hp.tail = upH h) (hn : S.n = S0.n) (k : toOk S (V ++ tls S0 ts) (H ++ hls (hd S0) ks)) : Wz S (stk S0 ts ks V H) := by
 have := wk_to _ _ hh k
 unfold stk
 rw [h0, ← hn]
 exact Wz.of this
theorem W.loopk {c : Cx} {x : Code} {Q : Exit → St → Prop} {S : St} {h : HP} (ts ks : List Nat) (V H : Nat → List (Nat × AV)) (n : Nat) (hh : S.hp.tail = upH h) (h0 : toOk S (V 0 ++ tls S ts) (H 0 ++ hls (hd S) ks))
  (hb : ∀ k, k ≤ n → ∀ T, stk S ts ks (V k) (H k) = T → W c x T (thenQ (fun S' => k < n ∧ Wz S' (stk S ts ks (V (k + 1)) (H (k + 1)))) Q)) : W c (.loop x) S Q :=
 W.loopz (fun k => stk S ts ks (V k) (H k)) n (Wz.to hh hh rfl h0) fun k hk => hb k hk _ rfl
theorem W.regS {c : Cx} {id : Nat} {ops : Array Oper} {S S1 : St} {Q : Exit → St → Prop} (h : ∀ (ops' : Array Oper) (K : St → Prop), K S1 → WL c ops' ops.toList S K) (k : Q .normal S1) : W c (.region id ops false) S Q := W.regL fun ops' _ => h ops' _ k
theorem W.regSD {c : Cx} {id : Nat} {ops : Array Oper} {S S1 : St} {Q : Exit → St → Prop} (hm : c.P.follows .mixedOrders = true) (h : ∀ K : St → Prop, K S1 → DL c ops [] ops.toList S K) (k : Q .normal S1) : W c (.region id ops true) S Q := W.regD hm fun _ e => by subst e; exact h _ k
theorem W.condS {c : Cx} {S : St} {Q : Exit → St → Prop} {g : Operand} {x y : Code} (b : Bool) (hg : evT c 0 S g = .d (.lf (.bool b))) (og : okO c 0 g) (h1 : b = true → W c x S Q) (h2 : b = false → W c y S Q) : W c (.cond g x y) S Q :=
 W.cond b hg og (by cases b <;> simp [h1, h2])
/-- a row that is full is a slice -/
theorem W.frz {c : Cx} {code : Code} {S : St} {Q : Exit → St → Prop} {h : HP} (t k n : Nat) (es : List DD) (s : Sh) (ts ks : List Nat) (hh : S.hp.tail = upH h) (h0 : S.hp ≠ []) (ht : S.tm t = .rw 0 k n) (hk : hd S k = some (.d (.st es))) (hsp : 0 < s.w) (hes : DD.shs es = List.replicate n s)
  (h1 : ∀ p ∈ tls S ts, p.1 ≠ t ∧ p.2.cl (hls (hd S) ks)) (h2 : ∀ p ∈ hls (hd S) ks, p.1 ≠ k ∧ p.2.cl (hls (hd S) ks)) {T : St} (e : (⟨S.n, tl ((t, .d (.sl true s es)) :: tls S ts), al (hls (hd S) ks) :: S.hp.tail⟩ : St) = T) (w : W c code T Q) : W c code S Q := by
 subst e
 have e1 : S.hp = hd S :: upH h := by rw [← hh]; exact hd_eq h0
 rw [hh] at w
 refine W.ahead (wz_freeze t k n es s (tls S ts) (hls (hd S) ks) e1 ht hk hsp hes (fun p hp => ⟨(h1 p hp).1, ?_, (h1 p hp).2⟩) (fun p hp => ⟨(h2 p hp).1, hls_get _ _ p hp, (h2 p hp).2⟩)) w
 obtain ⟨t, -, rfl⟩ := List.mem_map.1 hp
 rfl
theorem i64mn : IntKind.i64.min = -9223372036854775808 := rfl
theorem i64mx : IntKind.i64.max = 9223372036854775807 := rfl
theorem u8mn : IntKind.u8.min = 0 := rfl
theorem u8mx : IntKind.u8.max = 255 := rfl
theorem i64w {n : Int} (h1 : -9223372036854775808 ≤ n) (h2 : n ≤ 9223372036854775807) : IntKind.i64.wrap n = n := IntWalk.i64_in n ⟨h1, h2⟩
theorem ixNext {k : Nat} {n : Nat} (h : k < n) (hn : n ≤ 4611686018427387904) : IntKind.i64.wrap ((k : Int) + 1) = (k : Int) + 1 := i64w (by omega) (by omega)
/-- a row that is being filled -/
def rowL {α : Type} (f : α → DD) (l : List α) (k : Nat) (z : DD) : List DD := (l.take k).map f ++ List.replicate (l.length - k) z
theorem rowL_zero {α : Type} (f : α → DD) (l : List α) (z : DD) : rowL f l 0 z = List.replicate l.length z := by simp [rowL]
theorem rowL_full {α : Type} (f : α → DD) (l : List α) (z : DD) : rowL f l l.length z = l.map f := by simp [rowL]
theorem rowL_at {α : Type} {f : α → DD} {l : List α} {k : Nat} {z : DD} (h : k < l.length) : (rowL f l k z)[k]? = some z := by
 unfold rowL
 rw [List.getElem?_append_right (by simp; omega)]
 simp only [List.length_map, List.length_take, List.getElem?_replicate]
 rw [if_pos (by omega)]
theorem rowL_set {α : Type} {f : α → DD} {l : List α} {k : Nat} {z : DD} (h : k < l.length) : (rowL f l k z).set k (f l[k]) = rowL f l (k + 1) z := by
 unfold rowL
 have e : l.length - k = (l.length - (k + 1)) + 1 := by omega
 rw [List.set_append_right _ _ (by simp; omega), e, List.replicate_succ]
 have e2 : k - ((l.take k).map f).length = 0 := by simp; omega
 rw [e2, List.set_cons_zero, List.take_succ_eq_append_getElem h, List.map_append]
 simp
theorem shs_rowL {α : Type} {f : α → DD} {s : Sh} (hf : ∀ x, (f x).sh = s) {z : DD} (hz : z.sh = s) {l : List α} {k : Nat} (hk : k ≤ l.length) : DD.shs (rowL f l k z) = List.replicate l.length s := by
 unfold rowL
 rw [DD.shs_eq, List.map_append, ← DD.shs_eq, shs_map hf, List.length_take, List.map_replicate, hz, List.replicate_append_replicate]
 congr 1; omega
/-- what a loop has gathered -/
def tk {α : Type} (f : α → DD) (l : List α) (k : Nat) : List DD := (l.take k).map f
theorem tk_zero {α : Type} (f : α → DD) (l : List α) : tk f l 0 = [] := rfl
theorem tk_full {α : Type} (f : α → DD) (l : List α) : tk f l l.length = l.map f := by simp [tk]
theorem tk_len {α : Type} {f : α → DD} {l : List α} {k : Nat} (h : k ≤ l.length) : (tk f l k).length = k := by simp [tk]; omega
theorem tk_snoc {α : Type} {f : α → DD} {l : List α} {k : Nat} (h : k < l.length) : tk f l k ++ [f l[k]] = tk f l (k + 1) := by
 unfold tk
 rw [List.take_succ_eq_append_getElem h, List.map_append]; rfl
def fk {α : Type} (f : α → List DD) (l : List α) (k : Nat) : List DD := (l.take k).flatMap f
theorem fk_zero {α : Type} (f : α → List DD) (l : List α) : fk f l 0 = [] := rfl
theorem szL_take {α : Type} (g : α → Nat) : ∀ (l : List α) (k : Nat), szL g (l.take k) ≤ szL g l
 | [], k => by simp
 | x :: l, 0 => by simp [szL]
 | x :: l, k + 1 => by simp only [List.take_succ_cons, szL]; have := szL_take g l k; omega
theorem mxl : maxLen = 9223372036854775807 := rfl
theorem ex2 {α β : Type} {a : α} {b : β} {P : α → β → Prop} : (∃ x y, (a = x ∧ b = y) ∧ P x y) ↔ P a b := ⟨fun ⟨_, _, ⟨e1, e2⟩, h⟩ => e1 ▸ e2 ▸ h, fun h => ⟨a, b, ⟨rfl, rfl⟩, h⟩⟩
attribute [simp] AV.ups AV.vws fk_zero ex2 fillD Cx.ft tk_zero rowL_zero mxl okB i64mn i64mx u8mn u8mx cst Cx.el toOk stk Res ResOk resV resW AV.nz AV.nzs AV.dn AV.dns
mutual
/-- the value d is the tree e; all its slices bear the mark o -/
def DD.is (o : Bool) : DD → D → Prop
 | .lf v, .lf u => v = u
 | .st fs, .st gs => DD.iss o fs gs
 | .sl m s es, .sl gs => m = o ∧ 0 < s.w ∧ (∀ e ∈ es, e.sh = s) ∧ DD.iss o es gs
 | _, _ => False
def DD.iss (o : Bool) : List DD → List D → Prop
 | [], [] => True
 | d :: ds, e :: es => d.is o e ∧ DD.iss o ds es
 | _, _ => False
end
theorem is_st {o : Bool} {fs : List DD} {gs : List D} (h : DD.iss o fs gs) : (DD.st fs).is o (.st gs) := by simp only [DD.is]; exact h
theorem is_nil {o : Bool} : DD.iss o [] [] := by simp only [DD.iss]
theorem is_cons {o : Bool} {d : DD} {e : D} {ds : List DD} {es : List D} (h : d.is o e) (k : DD.iss o ds es) : DD.iss o (d :: ds) (e :: es) := by simp only [DD.iss]; exact ⟨h, k⟩
theorem is_lf {o : Bool} (v : Value) : (DD.lf v).is o (.lf v) := by simp only [DD.is]
theorem iss_map {α : Type} {o : Bool} {f : α → DD} {g : α → D} : ∀ {l : List α}, (∀ x ∈ l, (f x).is o (g x)) → DD.iss o (l.map f) (l.map g)
 | [], _ => is_nil
 | x :: l, h => is_cons (h x (by simp)) (iss_map fun y hy => h y (by simp [hy]))
theorem is_sl {α : Type} {o : Bool} {s : Sh} {f : α → DD} {g : α → D} {l : List α} (hs : ∀ x, (f x).sh = s) (hp : 0 < s.w) (h : ∀ x ∈ l, (f x).is o (g x)) : (DD.sl o s (l.map f)).is o (.sl (l.map g)) := by
 simp only [DD.is]
 refine ⟨trivial, hp, fun e he => ?_, iss_map h⟩
 obtain ⟨x, -, rfl⟩ := List.mem_map.1 he
 exact hs x
mutual
theorem is_w {o : Bool} : ∀ (d : DD) (e : D), d.is o e → d.sh.w = e.width
 | .lf v, .lf u, _ => by simp [DD.sh, Sh.w, D.width]
 | .st fs, .st gs, h => by
  simp only [DD.is] at h
  simp only [DD.sh, Sh.w, D.width]
  exact (iss_w fs gs h).1
 | .sl m s es, .sl gs, _ => by simp [DD.sh, Sh.w, D.width]
 | .lf _, .st _, h => by simp [DD.is] at h
 | .lf _, .sl _, h => by simp [DD.is] at h
 | .st _, .lf _, h => by simp [DD.is] at h
 | .st _, .sl _, h => by simp [DD.is] at h
 | .sl _ _ _, .lf _, h => by simp [DD.is] at h
 | .sl _ _ _, .st _, h => by simp [DD.is] at h
theorem iss_w {o : Bool} : ∀ (ds : List DD) (es : List D), DD.iss o ds es → Sh.ws (DD.shs ds) = D.widths es ∧ ds.length = es.length
 | [], [], _ => by simp [DD.shs, Sh.ws, D.widths]
 | d :: ds, e :: es, h => by
  simp only [DD.iss] at h
  obtain ⟨h1, h2⟩ := iss_w ds es h.2
  simp only [DD.shs, Sh.ws, D.widths, is_w d e h.1, h1, List.length_cons, h2, and_self]
 | [], _ :: _, h => by simp [DD.iss] at h
 | _ :: _, [], h => by simp [DD.iss] at h
end
/-- all that is there is frozen -/
def Fz (w : World) (b : Nat) : Nat := match w.heap[b]? with
 | some (.cells cur _ _) => cur.size + 1
 | _ => 0
theorem Fz.lt {w : World} {b o : Nat} {u : Value} (h : w.cell? ⟨b, o, none⟩ = some u) : o < Fz w b := by
 unfold World.cell? at h
 unfold Fz
 split at h
 ·rename_i c _ _ hc
  simp only at hc
  rw [hc]
  simp only at h ⊢
  split at h
  ·cases h
  ·exact Nat.lt_succ_of_lt (Array.getElem?_eq_some_iff.1 h).1
 ·cases h
theorem iss_fz {w : World} {K : Nat → Prop} {s : Sh} {b : Nat} : ∀ (ds : List DD) (es : List D) (off : Nat), DD.iss false ds es → (∀ e ∈ ds, e.sh = s) → 0 < s.w → RepE w K es b off → ds ≠ [] → off + ds.length * s.w ≤ Fz w b
 | [], _, _, _, _, _, _, h => absurd rfl h
 | d :: ds, [], _, h, _, _, _, _ => by simp [DD.iss] at h
 | d :: ds, e :: es, off, h, hs, hp, hr, _ => by
  simp only [DD.iss] at h
  simp only [RepE] at hr
  obtain ⟨⟨cs, hc, hd⟩, hr⟩ := hr
  have hw : e.width = s.w := by rw [← is_w d e h.1, hs d (by simp)]
  have hl := Rep.length e cs hd
  cases hds : ds with
  | nil =>
   have hlt : s.w - 1 < cs.length := by omega
   have := Fz.lt (hc (s.w - 1) _ (List.getElem?_eq_getElem hlt))
   simp; omega
  | cons d2 ds2 =>
   have := iss_fz ds es (off + e.width) h.2 (fun x hx => hs x (by simp [hx])) hp hr (by rw [hds]; simp)
   rw [hds, List.length_cons, Nat.add_mul] at this
   simp only [List.length_cons, Nat.add_mul]
   omega
mutual
theorem rep_rp {w : World} {K : Nat → Prop} : ∀ (d : DD) (e : D) (cs : List Value), d.is false e → Rep w K e cs → rp w (Fz w) d cs []
 | .lf v, .lf u, cs, h, k => by
  simp only [DD.is] at h; subst h
  simp only [Rep] at k
  simp only [rp]; exact ⟨k.1, k.2, trivial⟩
 | .st fs, .st gs, cs, h, k => by
  simp only [DD.is] at h
  simp only [Rep] at k
  simp only [rp]; exact reps_rp fs gs cs h k
 | .sl m s es, .sl gs, cs, h, k => by
  simp only [DD.is] at h
  obtain ⟨rfl, h1, h2, h3⟩ := h
  simp only [Rep] at k
  obtain ⟨a, cap, rfl, k1, k2, k3, k4⟩ := k
  have hl := (iss_w es gs h3).2
  simp only [rp]
  refine ⟨h2, h1, a, cap, by rw [hl], by rw [hl]; exact k1, k2, k3, ?_⟩
  by_cases he : es = []
  ·exact .inl ⟨trivial, he, fun q => by cases q⟩
  ·rcases k4 with rfl | ⟨b, off, ha, hK, hr⟩
   ·exact absurd (List.eq_nil_of_length_eq_zero (by rw [hl]; rfl)) he
   ·exact .inr ⟨b, off, [], ha, repe_rp es gs b off h3 hr, iss_fz es gs off h3 h2 h1 hr he, .inl ⟨trivial, trivial, rfl⟩⟩
 | .lf _, .st _, _, h, _ => by simp [DD.is] at h
 | .lf _, .sl _, _, h, _ => by simp [DD.is] at h
 | .st _, .lf _, _, h, _ => by simp [DD.is] at h
 | .st _, .sl _, _, h, _ => by simp [DD.is] at h
 | .sl _ _ _, .lf _, _, h, _ => by simp [DD.is] at h
 | .sl _ _ _, .st _, _, h, _ => by simp [DD.is] at h
theorem reps_rp {w : World} {K : Nat → Prop} : ∀ (ds : List DD) (es : List D) (cs : List Value), DD.iss false ds es → RepS w K es cs → rpS w (Fz w) ds cs []
 | [], [], cs, _, k => by simp only [RepS] at k; simp only [rpS]; exact ⟨k, trivial⟩
 | d :: ds, e :: es, cs, h, k => by
  simp only [DD.iss] at h
  simp only [RepS] at k
  obtain ⟨c1, c2, rfl, k1, k2⟩ := k
  simp only [rpS]
  exact ⟨c1, c2, [], [], rfl, rfl, rep_rp d e c1 h.1 k1, reps_rp ds es c2 h.2 k2⟩
 | [], _ :: _, _, h, _ => by simp [DD.iss] at h
 | _ :: _, [], _, h, _ => by simp [DD.iss] at h
theorem repe_rp {w : World} {K : Nat → Prop} : ∀ (ds : List DD) (es : List D) (b off : Nat), DD.iss false ds es → RepE w K es b off → rpE w (Fz w) ds b off []
 | [], [], _, _, _, _ => by simp only [rpE]
 | d :: ds, e :: es, b, off, h, k => by
  simp only [DD.iss] at h
  simp only [RepE] at k
  obtain ⟨⟨cs, k1, k2⟩, k3⟩ := k
  simp only [rpE]
  exact ⟨cs, [], [], rfl, k1, rep_rp d e cs h.1 k2, by rw [is_w d e h.1]; exact repe_rp ds es b _ h.2 k3⟩
 | [], _ :: _, _, _, h, _ => by simp [DD.iss] at h
 | _ :: _, [], _, _, h, _ => by simp [DD.iss] at h
end
/-- arguments and their values -/
def argOk (w : World) : List DD → List Value → Prop
 | [], [] => True
 | d :: ds, v :: vs => (∃ cs, rp w (Fz w) d cs [] ∧ v = d.mk cs) ∧ argOk w ds vs
 | _, _ => False
theorem argOk.get {w : World} : ∀ (ds : List DD) (vs : List Value), argOk w ds vs → ds.length = vs.length ∧ ∀ i, rv w (Fz w) (fun _ _ => none) ((ds.map AV.d).getD i .un) (vs.getD i undef) []
 | [], [], _ => ⟨rfl, fun i => by simp [rv]⟩
 | d :: ds, v :: vs, h => by
  simp only [argOk] at h
  obtain ⟨k1, k2⟩ := argOk.get ds vs h.2
  refine ⟨by simp [k1], fun i => ?_⟩
  cases i with
  | zero =>
   obtain ⟨cs, h1, h2⟩ := h.1
   simp only [List.map_cons, List.getD_cons_zero, rv]
   exact ⟨cs, h1, h2⟩
  | succ i => simpa using k2 i
 | [], _ :: _, h => by simp [argOk] at h
 | _ :: _, [], h => by simp [argOk] at h
theorem CS.out {c : Cx} {f : Nat} {args : List DD} {y : DD} (h : CS c.P f (args.map .d) [] (.d y) []) (w : World) (vs : List Value) (hv : argOk w args vs) (hgl : Gl w (Fz w) := by simp [Gl, glb]) :
  Calls c.P f vs.toArray w fun e w' => ∃ cs bs F', e = .returned (y.mk cs) ∧ rp w' F' y cs bs ∧ bs.Nodup ∧ (∀ b ∈ bs, w.heap.size ≤ b ∧ b < w'.heap.size) ∧ Below w.heap.size w w' := by
 obtain ⟨hl, hg⟩ := argOk.get args vs hv
 have hR : Rel w (Fz w) (fun _ _ => none) (fun _ => []) (entS (args.map .d) []) ⟨vs.toArray, []⟩ := by
  refine ⟨by simp [entS, hl], rfl, fun t => ?_, fun lv k _ => ⟨rfl, rfl, rfl⟩, fun lv k cn hq => ?_, fun _ => List.nodup_nil, fun _ _ _ b hb => by simp at hb, fun _ b hb => by simp at hb, fun b hb => ?_, hgl⟩
  ·have := hg t
   simpa [entS, Array.getD_eq_getD_getElem?, List.getD_eq_getElem?_getD] using this
  ·cases lv <;> simp [entS, hpg] at hq
  ·unfold Fz
   rw [Array.getElem?_eq_none hb]
 refine (h w _ _ _ vs hR).mono fun e w' ⟨v, F', own', h1, h2, h3⟩ => ?_
 have h4 := h2.tm 0
 simp only [retS, if_true] at h4
 simp only [rv] at h4
 obtain ⟨cs, h5, h6⟩ := h4
 have h6' : v = y.mk cs := by simpa using h6
 subst h6'
 refine ⟨cs, own' (.t 0), F', h1, h5, h2.nd _, fun b hb => ⟨?_, h2.lt _ b hb⟩, ⟨h3.ks.os, h3.ks.tape, h3.ks.output, h3.ks.size, fun b hb => (h3.ks.out b hb (by simp)).1⟩⟩
 rcases h3.fr _ b hb with ⟨x, q⟩ | q
 ·simp at q
 ·exact q
theorem argOk_nil {w : World} : argOk w [] [] := by simp only [argOk]
theorem argOk_cons {w : World} {d : DD} {ds : List DD} {v : Value} {vs : List Value} (cs : List Value) (h : rp w (Fz w) d cs []) (e : d.mk cs = v) (k : argOk w ds vs) : argOk w (d :: ds) (v :: vs) := by
 simp only [argOk]; exact ⟨⟨cs, h, e.symm⟩, k⟩
/-- a test is true or false -/
theorem WL.split {c : Cx} {ops : Array Oper} {l : List Oper} {S : St} {K : St → Prop} (k : Nat) (q : Bool) (hq : S.tm k = .d (.lf (.bool q))) (h1 : q = true → WL c ops l ⟨S.n, upd S.tm k (.d (.lf (.bool true))), S.hp⟩ K) (h2 : q = false → WL c ops l ⟨S.n, upd S.tm k (.d (.lf (.bool false))), S.hp⟩ K) : WL c ops l S K := by
 have e : ∀ b, S.tm k = .d (.lf (.bool b)) → (⟨S.n, upd S.tm k (.d (.lf (.bool b))), S.hp⟩ : St) = S := fun b hb => by
  have : upd S.tm k (.d (.lf (.bool b))) = S.tm := by
   funext t
   by_cases ht : t = k
   ·subst ht; rw [upd_self, hb]
   ·rw [upd_ne _ _ ht]
  rw [this]
 cases q with
 | true => have := h1 rfl; rwa [e _ hq] at this
 | false => have := h2 rfl; rwa [e _ hq] at this
theorem wnt_of {ops : Array Oper} {o : Oper} {S : St} {D : List (Option Nat)} (hD : ops.toList.map (·.dst) = D) (j k : Nat) (b q : Bool) (hg : o.guard = some (j, b)) (hj : D[j]? = some (some k)) (hk : S.tm k = .d (.lf (.bool q))) : wnt ops o S = some (q == b) := by
 subst hD
 have e : (ops[j]?).bind (·.dst) = some k := by
  rw [List.getElem?_map] at hj
  cases ho : ops[j]? with
  | none => simp [ho] at hj
  | some o => simp [ho] at hj; simpa using hj
 unfold wnt
 rw [hg]
 simp only [e, hk]
theorem WL.opG {c : Cx} (mv : List Nat) {ops : Array Oper} {o : Oper} {l : List Oper} {S S1 : St} {K : St → Prop} {D : List (Option Nat)} (hD : ops.toList.map (·.dst) = D) (j k : Nat) (b : Bool) (hg : o.guard = some (j, b)) (hj : D[j]? = some (some k)) (hk : S.tm k = .d (.lf (.bool b))) (h : okP c mv o S) (e : nx c mv o S = S1) (kk : WL c ops l S1 K) : WL c ops (o :: l) S K :=
 WL.cons (OS.op (by rw [wnt_of hD j k b b hg hj hk]; simp) (ok_snd h)) (by rw [e]; exact kk)
/-- an operation that is not wanted leaves nothing behind -/
theorem OS.no2 {c : Cx} {ops : Array Oper} {o : Oper} {S : St} (hd : ∀ k, o.dst = some k → k < S.n) (hw : ∀ {w : World} {F : Nat → Nat} {Θ : Ty} {own : Who → List Nat} {a : Act}, Rel w F Θ own S a → Region.wanted o (yielded ops a.tmps) = false) : OS c ops o S ⟨S.n, putF S.tm o.dst (.tp []), S.hp⟩ := by
 intro w F Θ own a hR K Q hK
 rw [if_neg (by rw [hw hR]; simp)]
 obtain ⟨own', h1, h2⟩ := hR.pure o.dst hd [] List.nodup_nil (.tp []) undef (by simp only [List.flatMap_nil, rv, rvS]; refine ⟨[], rfl, ?_⟩; simp)
 exact hK _ _ _ _ _ h1 h2
theorem wanted_no {c : Cx} {ops : Array Oper} {o : Oper} {S : St} {D : List (Option Nat)} (hD : ops.toList.map (·.dst) = D) (j k : Nat) (b : Bool) (hg : o.guard = some (j, b)) (hj : D[j]? = some (some k)) (hk : S.tm k = .d (.lf (.bool (!b))) ∨ S.tm k = .tp []) {w : World} {F : Nat → Nat} {Θ : Ty} {own : Who → List Nat} {a : Act} (hR : Rel w F Θ own S a) : Region.wanted o (yielded ops a.tmps) = false := by
 rcases hk with hk | hk
 ·have := wnt_spec (c := c) hR (wnt_of hD j k b (!b) hg hj hk)
  rw [this]; cases b <;> rfl
 ·subst hD
  have e : (ops[j]?).bind (·.dst) = some k := by
   rw [List.getElem?_map] at hj
   cases ho : ops[j]? with
   | none => simp [ho] at hj
   | some o => simp [ho] at hj; simpa using hj
  have hv := hR.tm k
  rw [hk] at hv
  simp only [rv, rvS] at hv
  obtain ⟨vs, h1, rfl, -⟩ := hv
  have hy : yielded ops a.tmps j = none := by
   unfold yielded
   rw [e]
   simp only [Option.bind_some]
   rw [Array.getD_eq_getD_getElem?] at h1
   cases ha : a.tmps[k]? with
   | none => rfl
   | some v =>
    rw [ha] at h1
    simp only [Option.getD_some] at h1
    subst h1; rfl
  unfold Region.wanted
  rw [hg]
  simp only [hy]
  first | rfl | (cases b <;> rfl)
theorem WL.no2 {c : Cx} {ops : Array Oper} {o : Oper} {l : List Oper} {S S1 : St} {K : St → Prop} {D : List (Option Nat)} (hD : ops.toList.map (·.dst) = D) (j k : Nat) (b : Bool) (hg : o.guard = some (j, b)) (hj : D[j]? = some (some k)) (hk : S.tm k = .d (.lf (.bool (!b))) ∨ S.tm k = .tp []) (hd : ∀ k, o.dst = some k → k < S.n) (e : (⟨S.n, putF S.tm o.dst (.tp []), S.hp⟩ : St) = S1) (kk : WL c ops l S1 K) : WL c ops (o :: l) S K :=
 WL.cons (OS.no2 hd (wanted_no (c := c) hD j k b hg hj hk)) (by rw [e]; exact kk)
theorem WL.callG {c : Cx} {ops : Array Oper} {o : Oper} {l : List Oper} {S : St} {K : St → Prop} {D : List (Option Nat)} (hD : ops.toList.map (·.dst) = D) (j kg : Nat) (bg : Bool) (hg : o.guard = some (j, bg)) (hj : D[j]? = some (some kg)) (hk : S.tm kg = .d (.lf (.bool bg))) (ts : List Nat) (f : Operand) (args : Array Operand) (argTypes : Array TypeId) (ho : o.op = .call { callee := .value f, args, argTypes }) (hd : ∀ k, o.dst = some k → k < S.n)
  {g : Nat} {caps : List AV} (hf : evT c 0 S f = .fn g caps) (of : okO c 0 f) {fn : Func} {body : Code} (hfn : FnOk c.P g fn body) (hTs : argTypes.toList.length = args.toList.length) (hok : ∀ x ∈ argTypes.toList.zip args.toList, okO c x.1 x.2) (hn : (gvn ts args.toList).Nodup)
  {as' : List AV} (ha : (argTypes.toList.zip args.toList).map (fun x => argA c ts S x.1 x.2) ++ caps = as') {r : AV} {h' : HP} (hc : CS c.P g as' S.hp r h') {S1 : St} (e : (⟨S.n, putF (clrs S.tm (gvn ts args.toList)) o.dst r, h'⟩ : St) = S1) (k : WL c ops l S1 K) : WL c ops (o :: l) S K := by
 subst ha
 exact WL.cons (OS.call hd (by rw [wnt_of hD j kg bg bg hg hj hk]; simp) f args argTypes ho ts g caps hf of fn body hfn argTypes.toList hTs hok hn r h' hc) (by rw [e]; exact k)
theorem WL.ahead {c : Cx} {ops : Array Oper} {l : List Oper} {S S1 : St} {K : St → Prop} (z : Wz S S1) (h : WL c ops l S1 K) : WL c ops l S K := fun is hi w F Θ own a hR Q hQ => by
 obtain ⟨F1, Θ1, own1, h1, h2⟩ := z w F Θ own a hR
 exact h is hi w F1 Θ1 own1 a h1 Q fun S' a' w' F' Θ' own' k1 k2 k3 => hQ S' a' w' F' Θ' own' k1 k2 (h2.trans k3)
/-- within a region, ways that join behind n operations -/
theorem WL.mid {c : Cx} {ops : Array Oper} {l : List Oper} {S : St} {K : St → Prop} (n : Nat) (ts ks : List Nat) (V H : List (Nat × AV)) (h1 : (∀ S', Wz S' (stk S ts ks V H) → WL c ops (l.drop n) S' K) → WL c ops l S K) (h2 : ∀ T, stk S ts ks V H = T → WL c ops (l.drop n) T K) : WL c ops l S K :=
 h1 fun _ hz => WL.ahead hz (h2 _ rfl)
/-- a region whose ways join -/
theorem W.regJ {c : Cx} {id : Nat} {ops : Array Oper} {S : St} {Q : Exit → St → Prop} {D : List (Option Nat)} (ts ks : List Nat) (V H : List (Nat × AV)) (hD : ops.toList.map (·.dst) = D)
  (hb : ∀ (ops' : Array Oper) (K : St → Prop), ops'.toList.map (·.dst) = D → (∀ S', Wz S' (stk S ts ks V H) → K S') → WL c ops' ops.toList S K) (k : ∀ T, stk S ts ks V H = T → Q .normal T) : W c (.region id ops false) S Q := by
 refine W.after (Q' := fun e S1 => e = .normal ∧ Wz S1 (stk S ts ks V H)) (W.regL fun ops' e => ?_) fun e S1 ⟨h1, h2⟩ => ⟨_, h2, by subst h1; exact k _ rfl⟩
 exact hb ops' _ (by subst e; exact hD) fun S' h => ⟨rfl, h⟩
/-- the same without guards or ways -/
theorem W.regJ0 {c : Cx} {id : Nat} {ops : Array Oper} {S : St} {Q : Exit → St → Prop} {D : List (Option Nat)} (hD : ops.toList.map (·.dst) = D)
  (hb : ∀ (ops' : Array Oper) (K : St → Prop), ops'.toList.map (·.dst) = D → (∀ S', Q .normal S' → K S') → WL c ops' ops.toList S K) : W c (.region id ops false) S Q :=
 W.regL fun ops' e => hb ops' _ (by subst e; exact hD) fun _ h => h
theorem W.condT {c : Cx} {S : St} {Q : Exit → St → Prop} {g : Operand} {x y : Code} (hg : evT c 0 S g = .d (.lf (.bool true))) (og : okO c 0 g) (h : W c x S Q) : W c (.cond g x y) S Q := W.cond true hg og (by simpa using h)
/-- a text whose ways join at its end -/
theorem W.join {c : Cx} {code : Code} {S : St} {Q : Exit → St → Prop} (ts ks : List Nat) (V H : List (Nat × AV)) (h1 : W c code S (thenQ (fun S1 => Wz S1 (stk S ts ks V H)) Q)) (h2 : ∀ T, stk S ts ks V H = T → Q .normal T) : W c code S Q :=
 W.after h1 fun e S1 q => by
  cases e with
  | normal => exact ⟨_, q, h2 _ rfl⟩
  | exit id => exact ⟨S1, Wz.refl S1, q⟩
  | goto l => exact ⟨S1, Wz.refl S1, q⟩
  | ret => exact ⟨S1, Wz.refl S1, q⟩
  | panic ch => exact ⟨S1, Wz.refl S1, q⟩
  | outgrown => exact ⟨S1, Wz.refl S1, q⟩
/-- a loop with a fact for each round -/
theorem W.loopI {c : Cx} {x : Code} {Q : Exit → St → Prop} {S : St} {h : HP} (ts ks : List Nat) (V H : Nat → List (Nat × AV)) (n : Nat) (I : Nat → Prop) (hh : S.hp.tail = upH h) (h0 : toOk S (V 0 ++ tls S ts) (H 0 ++ hls (hd S) ks)) (i0 : I 0)
  (hb : ∀ k, k ≤ n → I k → ∀ T, stk S ts ks (V k) (H k) = T → W c x T (thenQ (fun S' => k < n ∧ I (k + 1) ∧ Wz S' (stk S ts ks (V (k + 1)) (H (k + 1)))) Q)) : W c (.loop x) S Q := by
 have key : ∀ m k, k + m = n → I k → WR c x Q (m + 1) (stk S ts ks (V k) (H k)) := by
  intro m
  induction m with
  | zero =>
   intro k hk hi
   refine (hb k (by omega) hi _ rfl).mono fun e S' hq => ?_
   cases e with
   | normal => obtain ⟨h1, -⟩ := hq; omega
   | _ => exact hq
  | succ m ih =>
   intro k hk hi
   refine W.after (hb k (by omega) hi _ rfl) fun e S1 hq => ?_
   cases e with
   | normal =>
    obtain ⟨-, h2, h3⟩ := hq
    exact ⟨_, h3, ih (k + 1) (by omega) h2⟩
   | exit id => exact ⟨S1, Wz.refl S1, hq⟩
   | goto l => exact ⟨S1, Wz.refl S1, hq⟩
   | ret => exact ⟨S1, Wz.refl S1, hq⟩
   | panic ch => exact ⟨S1, Wz.refl S1, hq⟩
   | outgrown => exact ⟨S1, Wz.refl S1, hq⟩
 exact W.ahead (Wz.to hh hh rfl h0) (W.rounds _ (key n 0 (by omega) i0))
/-- all numbers below n -/
def allB (n : Nat) (p : Nat → Bool) : Bool := (List.range n).all p
theorem allB_true {n : Nat} {p : Nat → Bool} (h : ∀ k, k < n → p k = true) : allB n p = true := by
 unfold allB
 simpa using h
theorem allB_false {n k : Nat} {p : Nat → Bool} (hk : k < n) (h : p k = false) : allB n p = false := by
 unfold allB
 rw [Bool.eq_false_iff]
 intro q
 have := (List.all_eq_true.1 q) k (by simpa using hk)
 rw [h] at this; cases this
theorem step_all {p : Nat → Bool} {k : Nat} (h : ∀ j, j < k → p j = true) (hk : p k = true) : ∀ j, j < k + 1 → p j = true := fun j hj => by
 rcases Nat.lt_or_ge j k with q | q
 ·exact h j q
 ·have : j = k := by omega
  subst this; exact hk
/-- what hands back a value and keeps all that was there -/
theorem CS.ofVal {c : Cx} {f : Nat} {args : List DD} {v : Value} {y : DD} (hv : ∀ w F, rp w F y [v] [] ∧ y.mk [v] = v) (hc : ∀ (w : World) (vs : List Value), (∃ F : Nat → Nat, (∀ b, w.heap.size ≤ b → F b = 0) ∧ Gl w F ∧ vs.length = args.length ∧ ∀ (i : Nat) (d : DD), args[i]? = some d → ∃ cs, rp w F d.vw cs [] ∧ vs[i]? = some (d.mk cs)) → Calls c.P f vs.toArray w fun e w' => e = .returned v ∧ Below w.heap.size w w') (h : HP) :
  CS c.P f (args.map .d) h (.d y) h := by
 intro w F Θ own vs hR
 have hlen : vs.length = args.length := by have := hR.n; simpa [entS] using this
 refine (hc w vs ⟨F, hR.top, hR.gl, hlen, fun i d hd => ?_⟩).mono fun e w' ⟨h1, h2⟩ => ?_
 ·have h1 := hR.tm i
  have hi : i < args.length := (List.getElem?_eq_some_iff.1 hd).1
  have e1 : (entS (args.map AV.d) h).tm i = .d d := by
   simp only [entS, List.getD_eq_getElem?_getD, List.getElem?_map, hd, Option.map_some, Option.getD_some]
  rw [e1] at h1
  have h3 := rv.view _ _ _ h1
  simp only [AV.vw, rv] at h3
  obtain ⟨cs, h4, h5⟩ := h3
  refine ⟨cs, h4, ?_⟩
  rw [DD.mk_vw] at h5
  have hi2 : i < vs.length := by omega
  simp only [Array.getD_eq_getD_getElem?, List.getElem?_toArray, List.getElem?_eq_getElem hi2, Option.getD_some] at h5
  rw [List.getElem?_eq_getElem hi2, h5]
 ·obtain ⟨k1, k2⟩ := hv w' F
  have hF : ∀ b, w.heap.size ≤ b → F b = 0 := hR.top
  have kp : ∀ bs : List Nat, (∀ b ∈ bs, b < w.heap.size) → Kp w F w' F bs := fun bs hbs => by
   refine ⟨fun b o ho => ?_, fun _ => Nat.le_refl _, fun b hb => ⟨h2.block b (hbs b hb), rfl⟩⟩
   have hb : b < w.heap.size := by
    rcases Nat.lt_or_ge b w.heap.size with q | q
    ·exact q
    ·have := hF b q; omega
   exact World.cell?_of_block (a := ⟨b, o, none⟩) (h2.block b hb)
  let own' : Who → List Nat := fun
   | .t _ => []
   | .h lv k => own (.h lv k)
   | .l lv k => own (.l lv k)
  have hsub : ∀ x b, b ∈ own' x → b ∈ own x := fun x b hb => by
   cases x with
   | t t => simp [own'] at hb
   | h lv k => exact hb
   | l lv k => exact hb
  refine ⟨v, F, own', h1, ⟨rfl, rfl, fun t => ?_, fun lv k q => ?_, fun lv k cn q => ?_, fun x => ?_, fun x z hxz b hb hz => hR.dj x z hxz b (hsub x b hb) (hsub z b hz), fun x b hb => Nat.lt_of_lt_of_le (hR.lt x b (hsub x b hb)) h2.size, fun b hb => hF b (Nat.le_trans h2.size hb), fun p hp => ⟨(hR.gl p hp).1, ((kp [] (by simp)).cell _ _ (hR.gl p hp).1).trans (hR.gl p hp).2⟩⟩, ⟨⟨h2.os, h2.tape, h2.output, h2.size, fun b o ho => (kp [] (by simp)).cell b o ho, fun _ => Nat.le_refl _, fun b hb _ => ⟨h2.block b hb, rfl⟩⟩, fun x b hb => .inl ⟨x, hsub x b hb⟩, fun _ _ => rfl⟩⟩
  ·by_cases ht : t = 0
   ·subst ht
    show rv w' F Θ (if (0 : Nat) = 0 then AV.d y else .un) _ _
    rw [if_pos rfl]
    simp only [rv]
    exact ⟨[v], k1, by simp [k2]⟩
   ·show rv w' F Θ (if t = 0 then AV.d y else .un) _ _
    rw [if_neg ht]
    simp only [rv]; rfl
  ·exact hR.hn lv k q
  ·obtain ⟨b, s, cur, ty, g1, g2, g3, g4, g5, g6⟩ := hR.hs lv k cn q
   have hb : b < w.heap.size := hR.lt _ b (by rw [g2]; simp)
   exact ⟨b, s, cur, ty, g1, g2, g3, g4, (h2.block b hb).trans g5, rc.keep (fun _ _ _ e => e) _ _ _ g6 (kp _ fun x hx => hR.lt _ x hx)⟩
  ·cases x with
   | t t => exact List.nodup_nil
   | h lv k => exact hR.nd _
   | l lv k => exact hR.nd _
theorem beqS (a b : ByteArray) : (a.toList == b.toList) = decide (a = b) := by
 by_cases h : a = b
 ·subst h; simp
 ·have : a.toList ≠ b.toList := fun e => h (ba_ext e)
  rw [decide_eq_false h]
  simpa using this
/-- a byte of a text -/
def bt (s : ByteArray) (i : Nat) : Nat := (s.data.getD i 0).toNat
theorem bt_eq (s : ByteArray) (i : Nat) : (s.data.getD i 0).toNat = bt s i := rfl
theorem bt_eq2 (s : ByteArray) (i : Nat) : ((s.data[i]?).getD 0).toNat = bt s i := by
 unfold bt
 rw [Array.getD_eq_getD_getElem?]
theorem bt_eq3 (s : ByteArray) (i : Nat) (h : i < s.data.size) : (s.data[i]'h).toNat = bt s i := by
 unfold bt
 rw [Array.getD_eq_getD_getElem?, Array.getElem?_eq_getElem h]; rfl
theorem bt_lt (s : ByteArray) (i : Nat) : bt s i < 256 := UInt8.toNat_lt _
theorem beqI (a b : Int) : (a == b) = decide (a = b) := Bool.eq_iff_iff.2 (by simp)
theorem baSize (a : Array UInt8) : (⟨a⟩ : ByteArray).size = a.size := rfl
def hasS (l : List ByteArray) (s : ByteArray) : Bool := l.any fun x => decide (x = s)
theorem hasS_true {l : List ByteArray} {s : ByteArray} (h : s ∈ l) : hasS l s = true := List.any_eq_true.2 ⟨s, h, by simp⟩
theorem hasS_false {l : List ByteArray} {s : ByteArray} (h : s ∉ l) : hasS l s = false := by
 unfold hasS
 rw [Bool.eq_false_iff]
 intro q
 obtain ⟨x, hx, e⟩ := List.any_eq_true.1 q
 have : x = s := by simpa using e
 exact h (this ▸ hx)
attribute [simp] beqI AV.bl baSize beqS bt_eq bt_eq2 bt_eq3
theorem upH_hps : ∀ (h : HP) (lv k : Nat) (v : Option AV), hps (upH h) lv k (v.map AV.up) = upH (hps h lv k v)
 | [], _, _, _ => rfl
 | f :: h, 0, k, v => by
  show upd (fun k => (f k).map AV.up) k (v.map AV.up) :: upH h = (fun q => ((upd f k v) q).map AV.up) :: upH h
  congr 1
  funext q
  simp only [upd]
  cases q == k <;> rfl
 | f :: h, lv + 1, k, v => by
  show (fun k => (f k).map AV.up) :: hps (upH h) lv k (v.map AV.up) = (fun k => (f k).map AV.up) :: upH (hps h lv k v)
  rw [upH_hps h lv k v]
theorem hpsD (h : HP) (lv k : Nat) (x : DD) : hps (upH h) lv k (some (.d x)) = upH (hps h lv k (some (.d x))) := upH_hps h lv k (some (.d x))
theorem hpgD {h : HP} {lv k : Nat} {x : DD} (e : hpg h lv k = some (.d x)) : hpg (upH h) lv k = some (.d x) := by rw [hpg_upH, e]; rfl
theorem hpg_self {h : HP} {lv k : Nat} {u v : AV} (e : hpg h lv k = some u) : hpg (hps h lv k (some v)) lv k = some v := by
 rw [hpg_hps, if_pos ⟨rfl, rfl, hpg_lt h lv k u e⟩]
theorem hps_hps : ∀ (h : HP) (lv k : Nat) (u v : Option AV), hps (hps h lv k u) lv k v = hps h lv k v
 | [], _, _, _, _ => rfl
 | f :: h, 0, k, u, v => by
  show upd (upd f k u) k v :: h = upd f k v :: h
  congr 1
  funext q
  simp only [upd]
  cases q == k <;> rfl
 | f :: h, lv + 1, k, u, v => by
  show f :: hps (hps h lv k u) lv k v = f :: hps h lv k v
  rw [hps_hps h lv k u v]
theorem hps_same : ∀ (h : HP) (lv k : Nat) (u : AV), hpg h lv k = some u → hps h lv k (some u) = h
 | [], _, _, _, _ => rfl
 | f :: h, 0, k, u, e => by
  show upd f k (some u) :: h = f :: h
  congr 1
  funext q
  simp only [upd]
  by_cases hq : q = k
  ·subst hq; simp; exact e.symm
  ·simp [beq_eq_false_iff_ne.2 hq]
 | f :: h, lv + 1, k, u, e => by
  show f :: hps h lv k (some u) = f :: h
  rw [hps_same h lv k u e]
/-- some things as in S, others given, and what the callers hold -/
def stkT (S : St) (ts ks : List Nat) (V H : List (Nat × AV)) (h : HP) : St := ⟨S.n, tl (V ++ tls S ts), al (H ++ hls (hd S) ks) :: upH h⟩
theorem Wz.toT {S S0 : St} {h : HP} {ts ks : List Nat} {V H : List (Nat × AV)} (hh : S.hp.tail = upH h) (hn : S.n = S0.n) (k : toOk S (V ++ tls S0 ts) (H ++ hls (hd S0) ks)) : Wz S (stkT S0 ts ks V H h) := by
 have := wk_to _ _ hh k
 unfold stkT
 rw [← hn]
 exact Wz.of this
theorem W.loopT {c : Cx} {x : Code} {Q : Exit → St → Prop} {S : St} (ts ks : List Nat) (V H : Nat → List (Nat × AV)) (n : Nat) (Th : Nat → HP) (hh : S.hp.tail = upH (Th 0)) (h0 : toOk S (V 0 ++ tls S ts) (H 0 ++ hls (hd S) ks))
  (hb : ∀ k, k ≤ n → ∀ T, stkT S ts ks (V k) (H k) (Th k) = T → W c x T (thenQ (fun S' => k < n ∧ Wz S' (stkT S ts ks (V (k + 1)) (H (k + 1)) (Th (k + 1)))) Q)) : W c (.loop x) S Q :=
 W.loopz (fun k => stkT S ts ks (V k) (H k) (Th k)) n (Wz.toT hh rfl h0) fun k hk => hb k hk _ rfl
/-- a piece of a row -/
theorem ok_sliceSl {c : Cx} {mv : List Nat} {o : Oper} {S : St} {T : Nat} {x : Operand} {lo hi : Option Operand} (ho : o.op = .slice T x lo hi none) (hd : ∀ k, o.dst = some k → k < S.n) (hn : (cls mv o).Nodup) (h1 : okO c T x) (h2 : okX c lo) (h3 : okX c hi) {ti : TI} (ht : c.ty T = some ti) {e : Nat} {s' : Sh} (hk : ti.kd = .sl e s') {ow : Bool} {s : Sh} {es : List DD} (he : evT c T S x = .d (.sl ow s es)) (hs : s = s')
  (l h : Nat) (kl : IntKind) (hl : loV c S lo = .d (.lf (.int kl (l : Int)))) (hh : hi.map (evT c 0 S) = none ∧ h = es.length ∨ ∃ kh, hi.map (evT c 0 S) = some (.d (.lf (.int kh (h : Int))))) (h4 : l ≤ h) (h5 : h ≤ es.length) : okP c mv o S := by
 obtain ⟨sh, z, zc, b, kd⟩ := ti
 simp only at hk
 subst hk
 unfold okP
 refine ⟨hd, hn, ?_⟩
 rw [ho]
 simp only [ht, he]
 exact ⟨h1, h2, h3, hs, l, h, kl, hl, hh, h4, h5⟩
attribute [simp] stkT hpsD hps_hps
end Go.Proofs.YtkadbimpaplnmaaGreatDoor
