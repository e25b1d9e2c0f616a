/- Den23: from a call by the rules to a call in terms of trees (Rep, Own). No condition. -/
import Derived.Test.YtkmiecgcibjkbaaGreatDen22
namespace Go.Proofs.YtkmiecgcibjkbaaGreat
open Go.RowKit
mutual
/-- the value d is the tree e; all its slices bear the mark o -/
def DD.is (o : Bool) : DD → D → Prop
  | .lf v, .lf u => v = u
  | .st fs, .st gs => DD.iss o fs gs
  | .sl m s es, .sl gs => m = o ∧ 0 < s.w ∧ (∀ e ∈ es, e.sh = s) ∧ DD.iss o es gs
  | _, _ => False
def DD.iss (o : Bool) : List DD → List D → Prop
  | [], [] => True
  | d :: ds, e :: es => d.is o e ∧ DD.iss o ds es
  | _, _ => False
end
theorem is_st {o : Bool} {fs : List DD} {gs : List D} (h : DD.iss o fs gs) : (DD.st fs).is o (.st gs) := by simp only [DD.is]; exact h
theorem is_nil {o : Bool} : DD.iss o [] [] := by simp only [DD.iss]
theorem is_cons {o : Bool} {d : DD} {e : D} {ds : List DD} {es : List D} (h : d.is o e) (k : DD.iss o ds es) : DD.iss o (d :: ds) (e :: es) := by simp only [DD.iss]; exact ⟨h, k⟩
theorem is_lf {o : Bool} (v : Value) : (DD.lf v).is o (.lf v) := by simp only [DD.is]
theorem iss_map {α : Type} {o : Bool} {f : α → DD} {g : α → D} : ∀ {l : List α}, (∀ x ∈ l, (f x).is o (g x)) → DD.iss o (l.map f) (l.map g)
  | [], _ => is_nil
  | x :: l, h => is_cons (h x (by simp)) (iss_map fun y hy => h y (by simp [hy]))
theorem is_sl {α : Type} {o : Bool} {s : Sh} {f : α → DD} {g : α → D} {l : List α} (hs : ∀ x, (f x).sh = s) (hp : 0 < s.w) (h : ∀ x ∈ l, (f x).is o (g x)) : (DD.sl o s (l.map f)).is o (.sl (l.map g)) := by
  simp only [DD.is]
  refine ⟨trivial, hp, fun e he => ?_, iss_map h⟩
  obtain ⟨x, -, rfl⟩ := List.mem_map.1 he
  exact hs x
mutual
theorem is_w {o : Bool} : ∀ (d : DD) (e : D), d.is o e → d.sh.w = e.width
  | .lf v, .lf u, _ => by simp [DD.sh, Sh.w, D.width]
  | .st fs, .st gs, h => by
    simp only [DD.is] at h
    simp only [DD.sh, Sh.w, D.width]
    exact (iss_w fs gs h).1
  | .sl m s es, .sl gs, _ => by simp [DD.sh, Sh.w, D.width]
  | .lf _, .st _, h => by simp [DD.is] at h
  | .lf _, .sl _, h => by simp [DD.is] at h
  | .st _, .lf _, h => by simp [DD.is] at h
  | .st _, .sl _, h => by simp [DD.is] at h
  | .sl _ _ _, .lf _, h => by simp [DD.is] at h
  | .sl _ _ _, .st _, h => by simp [DD.is] at h
theorem iss_w {o : Bool} : ∀ (ds : List DD) (es : List D), DD.iss o ds es → Sh.ws (DD.shs ds) = D.widths es ∧ ds.length = es.length
  | [], [], _ => by simp [DD.shs, Sh.ws, D.widths]
  | d :: ds, e :: es, h => by
    simp only [DD.iss] at h
    obtain ⟨h1, h2⟩ := iss_w ds es h.2
    simp only [DD.shs, Sh.ws, D.widths, is_w d e h.1, h1, List.length_cons, h2, and_self]
  | [], _ :: _, h => by simp [DD.iss] at h
  | _ :: _, [], h => by simp [DD.iss] at h
end
/-- all that is there is frozen -/
def Fz (w : World) (b : Nat) : Nat := match w.heap[b]? with
  | some (.cells cur _ _) => cur.size
  | _ => 0
theorem Fz.lt {w : World} {b o : Nat} {u : Value} (h : w.cell? ⟨b, o, none⟩ = some u) : o < Fz w b := by
  unfold World.cell? at h
  unfold Fz
  split at h
  · rename_i c _ _ hc
    simp only at hc
    rw [hc]
    simp only at h ⊢
    split at h
    · cases h
    · exact (Array.getElem?_eq_some_iff.1 h).1
  · cases h
theorem iss_fz {w : World} {K : Nat → Prop} {s : Sh} {b : Nat} : ∀ (ds : List DD) (es : List D) (off : Nat), DD.iss false ds es → (∀ e ∈ ds, e.sh = s) → 0 < s.w → RepE w K es b off → ds ≠ [] → off + ds.length * s.w ≤ Fz w b
  | [], _, _, _, _, _, _, h => absurd rfl h
  | d :: ds, [], _, h, _, _, _, _ => by simp [DD.iss] at h
  | d :: ds, e :: es, off, h, hs, hp, hr, _ => by
    simp only [DD.iss] at h
    simp only [RepE] at hr
    obtain ⟨⟨cs, hc, hd⟩, hr⟩ := hr
    have hw : e.width = s.w := by rw [← is_w d e h.1, hs d (by simp)]
    have hl := Rep.length e cs hd
    cases hds : ds with
    | nil =>
      have hlt : s.w - 1 < cs.length := by omega
      have := Fz.lt (hc (s.w - 1) _ (List.getElem?_eq_getElem hlt))
      simp; omega
    | cons d2 ds2 =>
      have := iss_fz ds es (off + e.width) h.2 (fun x hx => hs x (by simp [hx])) hp hr (by rw [hds]; simp)
      rw [hds, List.length_cons, Nat.add_mul] at this
      simp only [List.length_cons, Nat.add_mul]
      omega
mutual
theorem rep_rp {w : World} {K : Nat → Prop} : ∀ (d : DD) (e : D) (cs : List Value), d.is false e → Rep w K e cs → rp w (Fz w) d cs []
  | .lf v, .lf u, cs, h, k => by
    simp only [DD.is] at h; subst h
    simp only [Rep] at k
    simp only [rp]; exact ⟨k.1, k.2, trivial⟩
  | .st fs, .st gs, cs, h, k => by
    simp only [DD.is] at h
    simp only [Rep] at k
    simp only [rp]; exact reps_rp fs gs cs h k
  | .sl m s es, .sl gs, cs, h, k => by
    simp only [DD.is] at h
    obtain ⟨rfl, h1, h2, h3⟩ := h
    simp only [Rep] at k
    obtain ⟨a, cap, rfl, k1, k2, k3, k4⟩ := k
    have hl := (iss_w es gs h3).2
    simp only [rp]
    refine ⟨h2, h1, a, cap, by rw [hl], by rw [hl]; exact k1, k2, k3, ?_⟩
    by_cases he : es = []
    · exact .inl ⟨trivial, he, fun q => by cases q⟩
    · rcases k4 with rfl | ⟨b, off, ha, hK, hr⟩
      · exact absurd (List.eq_nil_of_length_eq_zero (by rw [hl]; rfl)) he
      · exact .inr ⟨b, off, [], ha, repe_rp es gs b off h3 hr, iss_fz es gs off h3 h2 h1 hr he, .inl ⟨trivial, trivial, rfl⟩⟩
  | .lf _, .st _, _, h, _ => by simp [DD.is] at h
  | .lf _, .sl _, _, h, _ => by simp [DD.is] at h
  | .st _, .lf _, _, h, _ => by simp [DD.is] at h
  | .st _, .sl _, _, h, _ => by simp [DD.is] at h
  | .sl _ _ _, .lf _, _, h, _ => by simp [DD.is] at h
  | .sl _ _ _, .st _, _, h, _ => by simp [DD.is] at h
theorem reps_rp {w : World} {K : Nat → Prop} : ∀ (ds : List DD) (es : List D) (cs : List Value), DD.iss false ds es → RepS w K es cs → rpS w (Fz w) ds cs []
  | [], [], cs, _, k => by simp only [RepS] at k; simp only [rpS]; exact ⟨k, trivial⟩
  | d :: ds, e :: es, cs, h, k => by
    simp only [DD.iss] at h
    simp only [RepS] at k
    obtain ⟨c1, c2, rfl, k1, k2⟩ := k
    simp only [rpS]
    exact ⟨c1, c2, [], [], rfl, rfl, rep_rp d e c1 h.1 k1, reps_rp ds es c2 h.2 k2⟩
  | [], _ :: _, _, h, _ => by simp [DD.iss] at h
  | _ :: _, [], _, h, _ => by simp [DD.iss] at h
theorem repe_rp {w : World} {K : Nat → Prop} : ∀ (ds : List DD) (es : List D) (b off : Nat), DD.iss false ds es → RepE w K es b off → rpE w (Fz w) ds b off []
  | [], [], _, _, _, _ => by simp only [rpE]
  | d :: ds, e :: es, b, off, h, k => by
    simp only [DD.iss] at h
    simp only [RepE] at k
    obtain ⟨⟨cs, k1, k2⟩, k3⟩ := k
    simp only [rpE]
    exact ⟨cs, [], [], rfl, k1, rep_rp d e cs h.1 k2, by rw [is_w d e h.1]; exact repe_rp ds es b _ h.2 k3⟩
  | [], _ :: _, _, _, h, _ => by simp [DD.iss] at h
  | _ :: _, [], _, _, h, _ => by simp [DD.iss] at h
end
mutual
theorem rp_own {w : World} {F : Nat → Nat} : ∀ (d : DD) (e : D) (cs : List Value) (bs : List Nat), d.is true e → rp w F d cs bs → Own w e cs bs
  | .lf v, .lf u, cs, bs, h, k => by
    simp only [DD.is] at h; subst h
    simp only [rp] at k
    simp only [Own]; exact k
  | .st fs, .st gs, cs, bs, h, k => by
    simp only [DD.is] at h
    simp only [rp] at k
    simp only [Own]; exact rps_own fs gs cs bs h k
  | .sl m s es, .sl gs, cs, bs, h, k => by
    simp only [DD.is] at h
    obtain ⟨rfl, h1, h2, h3⟩ := h
    simp only [rp] at k
    obtain ⟨-, -, a, cap, rfl, k1, k2, k3, k4⟩ := k
    have hl := (iss_w es gs h3).2
    simp only [Own]
    refine ⟨a, cap, by rw [hl], by rw [← hl]; exact k1, k2, k3, ?_⟩
    rcases k4 with ⟨rfl, rfl, -⟩ | ⟨b, off, r, ha, hr, -, h6⟩
    · exact .inl ⟨List.eq_nil_of_length_eq_zero (by rw [← hl]; rfl), rfl⟩
    · rcases h6 with ⟨q, -, -⟩ | ⟨-, rfl, rfl, -, cur, t, hh, -⟩
      · cases q
      · exact .inr ⟨b, 0, r, ha, rfl, ⟨cur, t, hh⟩, rpe_own es gs b 0 r h3 hr⟩
  | .lf _, .st _, _, _, h, _ => by simp [DD.is] at h
  | .lf _, .sl _, _, _, h, _ => by simp [DD.is] at h
  | .st _, .lf _, _, _, h, _ => by simp [DD.is] at h
  | .st _, .sl _, _, _, h, _ => by simp [DD.is] at h
  | .sl _ _ _, .lf _, _, _, h, _ => by simp [DD.is] at h
  | .sl _ _ _, .st _, _, _, h, _ => by simp [DD.is] at h
theorem rps_own {w : World} {F : Nat → Nat} : ∀ (ds : List DD) (es : List D) (cs : List Value) (bs : List Nat), DD.iss true ds es → rpS w F ds cs bs → OwnS w es cs bs
  | [], [], cs, bs, _, k => by simp only [rpS] at k; simp only [OwnS]; exact k
  | d :: ds, e :: es, cs, bs, h, k => by
    simp only [DD.iss] at h
    simp only [rpS] at k
    obtain ⟨c1, c2, b1, b2, rfl, rfl, k1, k2⟩ := k
    simp only [OwnS]
    exact ⟨c1, c2, b1, b2, rfl, rfl, rp_own d e c1 b1 h.1 k1, rps_own ds es c2 b2 h.2 k2⟩
  | [], _ :: _, _, _, h, _ => by simp [DD.iss] at h
  | _ :: _, [], _, _, h, _ => by simp [DD.iss] at h
theorem rpe_own {w : World} {F : Nat → Nat} : ∀ (ds : List DD) (es : List D) (b off : Nat) (bs : List Nat), DD.iss true ds es → rpE w F ds b off bs → OwnE w es b off bs
  | [], [], _, _, _, _, k => by simp only [rpE] at k; simp only [OwnE]; exact k
  | d :: ds, e :: es, b, off, bs, h, k => by
    simp only [DD.iss] at h
    simp only [rpE] at k
    obtain ⟨cs, b1, b2, rfl, k1, k2, k3⟩ := k
    simp only [OwnE]
    exact ⟨cs, b1, b2, rfl, k1, rp_own d e cs b1 h.1 k2, by rw [← is_w d e h.1]; exact rpe_own ds es b _ b2 h.2 k3⟩
  | [], _ :: _, _, _, _, h, _ => by simp [DD.iss] at h
  | _ :: _, [], _, _, _, h, _ => by simp [DD.iss] at h
end
/-- arguments and their values -/
def argOk (w : World) : List DD → List Value → Prop
  | [], [] => True
  | d :: ds, v :: vs => (∃ cs, rp w (Fz w) d cs [] ∧ v = d.mk cs) ∧ argOk w ds vs
  | _, _ => False
theorem argOk.get {w : World} : ∀ (ds : List DD) (vs : List Value), argOk w ds vs → ds.length = vs.length ∧ ∀ i, rv w (Fz w) (fun _ _ => none) ((ds.map AV.d).getD i .un) (vs.getD i undef) []
  | [], [], _ => ⟨rfl, fun i => by simp [rv]⟩
  | d :: ds, v :: vs, h => by
    simp only [argOk] at h
    obtain ⟨k1, k2⟩ := argOk.get ds vs h.2
    refine ⟨by simp [k1], fun i => ?_⟩
    cases i with
    | zero =>
      obtain ⟨cs, h1, h2⟩ := h.1
      simp only [List.map_cons, List.getD_cons_zero, rv]
      exact ⟨cs, h1, h2⟩
    | succ i => simpa using k2 i
  | [], _ :: _, h => by simp [argOk] at h
  | _ :: _, [], h => by simp [argOk] at h
theorem CS.out {c : Cx} {f : Nat} {args : List DD} {y : DD} (h : CS c.P f (args.map .d) [] (.d y) []) (w : World) (vs : List Value) (hv : argOk w args vs) :
    Calls c.P f vs.toArray w fun e w' => ∃ cs bs F', e = .returned (y.mk cs) ∧ rp w' F' y cs bs ∧ bs.Nodup ∧ (∀ b ∈ bs, w.heap.size ≤ b ∧ b < w'.heap.size) ∧ Below w.heap.size w w' := by
  obtain ⟨hl, hg⟩ := argOk.get args vs hv
  have hR : Rel w (Fz w) (fun _ _ => none) (fun _ => []) (entS (args.map .d) []) ⟨vs.toArray, []⟩ := by
    refine ⟨by simp [entS, hl], rfl, fun t => ?_, fun lv k _ => ⟨rfl, rfl, rfl⟩, fun lv k cn hq => ?_, fun _ => List.nodup_nil, fun _ _ _ b hb => by simp at hb, fun _ b hb => by simp at hb, fun b hb => ?_⟩
    · have := hg t
      simpa [entS, Array.getD_eq_getD_getElem?, List.getD_eq_getElem?_getD] using this
    · cases lv <;> simp [entS, hpg] at hq
    · unfold Fz
      rw [Array.getElem?_eq_none hb]
  refine (h w _ _ _ vs hR).mono fun e w' ⟨v, F', own', h1, h2, h3⟩ => ?_
  have h4 := h2.tm 0
  simp only [retS, if_true] at h4
  simp only [rv] at h4
  obtain ⟨cs, h5, h6⟩ := h4
  have h6' : v = y.mk cs := by simpa using h6
  subst h6'
  refine ⟨cs, own' (.t 0), F', h1, h5, h2.nd _, fun b hb => ⟨?_, h2.lt _ b hb⟩, ⟨h3.ks.os, h3.ks.tape, h3.ks.output, h3.ks.size, fun b hb => (h3.ks.out b hb (by simp)).1⟩⟩
  rcases h3.fr _ b hb with ⟨x, q⟩ | q
  · simp at q
  · exact q
/-- a slice is handed back -/
theorem CS.outS {c : Cx} {f : Nat} {args : List DD} {α : Type} {l : List α} {dd : α → DD} {en : α → D} {s : Sh} (hs : ∀ x, (dd x).sh = s) (hp : 0 < s.w) (hi : ∀ x, (dd x).is true (en x)) (h : CS c.P f (args.map .d) [] (.d (.sl true s (l.map dd))) []) (w : World) (vs : List Value) (hv : argOk w args vs) :
    Calls c.P f vs.toArray w fun e w' => ∃ a p bs, e = .returned (.slice a l.length p) ∧ Own w' (.sl (l.map en)) [.slice a l.length p] bs ∧ bs.Nodup ∧ (∀ b ∈ bs, w.heap.size ≤ b ∧ b < w'.heap.size) ∧ Below w.heap.size w w' :=
  (h.out w vs hv).mono fun e w' ⟨cs, bs, F', h1, h2, h3, h4, h5⟩ => by
    have ho := rp_own _ _ _ _ (is_sl (l := l) hs hp fun y _ => hi y) h2
    simp only [rp] at h2
    obtain ⟨-, -, a, cap, rfl, -⟩ := h2
    rw [List.length_map] at h1 ho
    exact ⟨a, cap, bs, h1, ho, h3, h4, h5⟩
/-- a struct is handed back -/
theorem CS.outT {c : Cx} {f : Nat} {args : List DD} {fs : List DD} {e0 : D} (hi : (DD.st fs).is true e0) (h : CS c.P f (args.map .d) [] (.d (.st fs)) []) (w : World) (vs : List Value) (hv : argOk w args vs) :
    Calls c.P f vs.toArray w fun e w' => ∃ cs bs, e = .returned (.agg cs.toArray) ∧ Own w' e0 cs bs ∧ bs.Nodup ∧ (∀ b ∈ bs, w.heap.size ≤ b ∧ b < w'.heap.size) ∧ Below w.heap.size w w' :=
  (h.out w vs hv).mono fun _ _ ⟨cs, bs, _, h1, h2, h3, h4, h5⟩ => ⟨cs, bs, h1, rp_own _ _ _ _ hi h2, h3, h4, h5⟩
theorem argOk_nil {w : World} : argOk w [] [] := by simp only [argOk]
theorem argOk_cons {w : World} {d : DD} {ds : List DD} {v : Value} {vs : List Value} (cs : List Value) (h : rp w (Fz w) d cs []) (e : d.mk cs = v) (k : argOk w ds vs) : argOk w (d :: ds) (v :: vs) := by
  simp only [argOk]; exact ⟨⟨cs, h, e.symm⟩, k⟩
end Go.Proofs.YtkmiecgcibjkbaaGreat
