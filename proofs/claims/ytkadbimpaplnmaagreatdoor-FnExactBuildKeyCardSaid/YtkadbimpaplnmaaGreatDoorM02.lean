/- An argument that reads as data is the tree of a mirror value; what is handed back as it was. No condition but sizes. -/
import Derived.Test.YtkadbimpaplnmaaGreatDoorM01
import Derived.OpenShut
import Derived.ProofKit
namespace Go.Proofs.YtkadbimpaplnmaaGreatDoor
open Go.ChangeShapes Go.WideShapes Go.ChangeAt Go.RowKit
section
variable {H : Type} {enc : TypeId × Value → H} {P : Program} {w : World} {spare : Nat → Bool} {held : Bool} {t : TypeId} {fuel : Nat} {cs : List Value} {x : DataW H × List MemPlace}
/-- what lies in the heap -/
abbrev Live (w : World) : Nat → Prop := fun b => b < w.heap.size
theorem RepE.put {K : Nat → Prop} {s b : Nat} : ∀ (es : List D) (off : Nat), (∀ d ∈ es, d.width = s) → (∀ (k : Nat) (d : D), es[k]? = some d → ∃ cs, Cells w b (off + k * s) cs ∧ Rep w K d cs) → RepE w K es b off
 | [], _, _, _ => by simp only [RepE]
 | e :: es, off, hw, h => by
  simp only [RepE]
  refine ⟨?_, ?_⟩
  ·have := h 0 e (by simp)
   simpa using this
  ·have he := hw e (by simp)
   refine RepE.put es _ (fun d hd => hw d (by simp [hd])) (fun k d hd => ?_)
   have := h (k + 1) d (by simpa using hd)
   rw [he, show off + s + k * s = off + (k + 1) * s by rw [Nat.add_mul]; omega]
   exact this
theorem list_of {α : Type} {Q : Nat → α → Prop} : ∀ n : Nat, (∀ i, i < n → ∃ y, Q i y) → ∃ l : List α, l.length = n ∧ ∀ i (h : i < l.length), Q i l[i]
 | 0, _ => ⟨[], rfl, fun i h => absurd h (Nat.not_lt_zero _)⟩
 | n + 1, h => by
  obtain ⟨l, hl, hq⟩ := list_of n (fun i hi => h i (by omega))
  obtain ⟨y, hy⟩ := h n (by omega)
  refine ⟨l ++ [y], by simp [hl], fun i hi => ?_⟩
  by_cases hin : i < l.length
  ·rw [List.getElem_append_left hin]; exact hq i hin
  ·have hi' : i = l.length := by simp at hi; omega
   subst hi'
   simp only [List.getElem_concat_length]
   rw [hl]; exact hy
theorem open_I (ht : P.underlying t = some (.int .i64)) (h : DataW.trod enc P w 0 spare held fuel t cs = some x) : ∃ n, Rep w (Live w) (encI n) cs := by
 obtain ⟨n, rfl, -, hw⟩ := DataW.trod_int ht h
 refine ⟨n, repI ?_⟩
 simpa [Lit.wf, InR] using hw
theorem open_S (ht : P.underlying t = some .string) (h : DataW.trod enc P w 0 spare held fuel t cs = some x) : ∃ s, Rep w (Live w) (encS s) cs := by
 obtain ⟨s, rfl, -, hw⟩ := DataW.trod_string ht h
 exact ⟨s, repS hw⟩
theorem open_B (ht : P.underlying t = some .bool) (h : DataW.trod enc P w 0 spare held fuel t cs = some x) : ∃ b, Rep w (Live w) (encB b) cs := by
 cases fuel with
 | zero => simp [DataW.trod] at h
 | succ n =>
  unfold DataW.trod at h
  rw [ht] at h
  split at h
  all_goals first | exact ⟨_, repB _⟩ | simp_all
theorem open_L {α : Type} {ea : α → D} {e : TypeId} {s : Nat} (ht : P.underlying t = some (.slice e)) (hs : P.cellsOf e = s) (hs0 : 0 < s) (hw : ∀ y, (ea y).width = s)
  (he : ∀ n cs x, n < fuel → DataW.trod enc P w 0 spare held n e cs = some x → ∃ y : α, Rep w (Live w) (ea y) cs)
  (h : DataW.trod enc P w 0 spare held fuel t cs = some x) : ∃ l : List α, Rep w (Live w) (.sl (l.map ea)) cs := by
 rcases DataW.trod_slice ht h with ⟨rfl, -⟩ | ⟨a, len, cap, elems, rest, n, rfl, rfl, -, -, hc, hm, hlen, hel, -, -⟩
 ·exact ⟨[], by simp only [Rep, List.map_nil]; exact ⟨none, 0, rfl, Nat.le_refl _, Nat.zero_le _, fun _ => rfl, .inl trivial⟩⟩
 ·rw [hs] at hel
  have hq : ∀ i, i < len → ∃ y : α, ∃ c, w.cells? 0 (a.add (i * s)) s = some c ∧ Rep w (Live w) (ea y) c := by
   intro i hi
   have h1 := hel i hi
   have h2 : i < elems.length := by omega
   rw [List.getElem?_eq_getElem h2] at h1
   cases hc : w.cells? 0 (a.add (i * s)) s with
   | none => rw [hc] at h1; simp at h1
   | some c =>
    rw [hc] at h1
    obtain ⟨y, hy⟩ := he n c _ (Nat.lt_succ_self _) h1
    exact ⟨y, c, rfl, hy⟩
  obtain ⟨l, hl, hl2⟩ := list_of len hq
  refine ⟨l, ?_⟩
  simp only [Rep, List.length_map]
  refine ⟨some a, cap, by rw [hl], by omega, hm, (by simp), ?_⟩
  by_cases h0 : len = 0
  ·left
   rw [List.map_eq_nil_iff]
   exact List.length_eq_zero_iff.1 (by omega)
  ·right
   obtain ⟨c, hc0, -⟩ := hl2 0 (by omega)
   have hb := World.cells?_block hc0 hs0
   obtain ⟨-, hcl, hcc⟩ := World.cells?_some hc0
   have hspot : a.spot = none := by
    have h1 := hcc 0 hs0
    obtain ⟨u, hu⟩ : ∃ u, c[0]? = some u := ⟨_, List.getElem?_eq_getElem (by omega)⟩
    rw [hu] at h1
    have h2 := World.cell?_spot h1
    rw [Nat.zero_mul, Addr.add_zero', Addr.add_zero'] at h2
    exact h2
   obtain ⟨b, off, spot⟩ := a
   simp only at hspot
   subst hspot
   have hb' : b < w.heap.size := by rw [Nat.zero_mul, Addr.add_zero'] at hb; exact hb
   refine ⟨b, off, rfl, hb', RepE.put _ off (by intro d hd; obtain ⟨y, _, rfl⟩ := List.mem_map.1 hd; exact hw y) (fun k d hd => ?_)⟩
   simp only [List.getElem?_map, Option.map_eq_some_iff] at hd
   obtain ⟨y, hy, rfl⟩ := hd
   obtain ⟨hk, rfl⟩ := List.getElem?_eq_some_iff.1 hy
   obtain ⟨c', hc', hr⟩ := hl2 k hk
   obtain ⟨-, hcl', hcc'⟩ := World.cells?_some hc'
   refine ⟨c', ?_, hr⟩
   intro j u hu
   have hj : j < s := by have := (List.getElem?_eq_some_iff.1 hu).1; omega
   have := hcc' j hj
   rw [Addr.add_lit, Addr.add_lit] at this
   rw [this, hu]
theorem sl_w (es : List D) : (D.sl es).width = 1 := by simp only [D.width]
/-- a struct's parts, one behind another -/
theorem RepS.at_ {K : Nat → Prop} {d : D} {ds : List D} {off n : Nat} (_ : d.width = n) (h1 : Rep w K d ((cs.drop off).take n)) (h2 : RepS w K ds (cs.drop (off + n))) : RepS w K (d :: ds) (cs.drop off) := by
 simp only [RepS]
 refine ⟨_, _, (List.take_append_drop n (cs.drop off)).symm, h1, ?_⟩
 rw [List.drop_drop]
 exact h2
theorem RepS.end_ {K : Nat → Prop} {off : Nat} (h : cs.length = off) : RepS w K [] (cs.drop off) := by
 simp only [RepS]
 exact List.drop_eq_nil_of_le (by omega)
theorem open_F {fs : Array Field} (ht : P.underlying t = some (.struct fs)) (h : DataW.trod enc P w 0 spare held fuel t cs = some x) :
  cs.length = P.cellsOf t ∧ ∃ n, fuel = n + 1 ∧ ∀ (i : Nat) (f : Field), fs[i]? = some f → ∃ y, DataW.trod enc P w 0 spare held n f.type ((cs.drop f.offset).take (P.cellsOf f.type)) = some y := by
 obtain ⟨xs, n, rfl, -, h1, h2, h3⟩ := DataW.trod_struct ht h
 refine ⟨h1, n, rfl, fun i f hf => ?_⟩
 have hi : i < xs.length := by
  rw [h2]
  exact (Array.getElem?_eq_some_iff.1 hf).1
 exact ⟨xs[i], by rw [h3 i f hf, List.getElem?_eq_getElem hi]⟩
end
theorem Rep.step {w w' : World} {d : D} {cs : List Value} (h : Rep w (Live w) d cs) (hB : Below w.heap.size w w') : Rep w' (Live w') d cs :=
 Rep.mono (fun _ hb => Nat.lt_of_lt_of_le hb hB.size) (fun b hb => hB.block b hb) d cs h
theorem post_of_below {f : Func} {s : ChangeSpec} {H : Type} {enc : TypeId × Value → H} {P : Program} {apart fresh handsOn again : Bool} {W W' : World} {args : Array Value} {v : Value} {ds gs : List (DataW H)} {before pa pv : List MemPlace}
  (hW : DataW.Whole enc P f.params.toList s.vars apart W args.toList ds gs before)
  (hres : ∀ (b : Nat) (sp : Nat → Bool) (hd : Bool), DataW.TrodAll enc P W' b sp hd f.resultTypes.toList (v.resultList f.resultTypes.size) (s.fn H (ds ++ gs)).results [])
  (hargs : ∀ sp : Nat → Bool, (∀ p ∈ before, sp p.block = true) → DataW.TrodAll enc P W' 0 sp true f.params.toList args.toList (s.fn H (ds ++ gs)).args pa)
  (hvars : ∀ sp : Nat → Bool, (∀ p ∈ before, sp p.block = true) → DataW.TrodVars enc P W' sp s.vars (s.fn H (ds ++ gs)).vars pv)
  (hps : before = pa ++ pv) (hB : Below W.heap.size W W')
  (hok : ∀ (j : Nat) (t : TypeId) (r : Value), f.resultTypes[j]? = some t → (v.resultList f.resultTypes.size)[j]? = some r → Value.okWide P W' .any 0 t r) :
  s.post enc P f apart fresh handsOn again W args v W' := by
 have hlt := hW.lt
 have hold : ∀ p ∈ before, (fun b => decide (b < W.heap.size)) p.block = true := fun p hp => by simpa using hlt p hp
 refine ⟨ds, gs, before, [], pa, pv, hW, hres _ _ _, hargs _ hold, hvars _ hold, World.keptBut_mono (fun p hp => ⟨hp, ?_⟩) (hB.frame (· ∈ before)), fun _ => ?_⟩
 ·rw [hps, List.mem_append] at hp
  exact Or.inr hp
 ·obtain ⟨_, _, _, _, _, hz, hn⟩ := hW
  refine ⟨hok, _, _, ([] ++ pa) ++ pv, ⟨[] ++ pa, pv, trodAll_append (hargs _ (fun _ _ => rfl)) (hres _ _ _), hvars _ (fun _ _ => rfl), rfl, ?_, ?_⟩, ?_⟩
  ·intro b off hp
   have hb : (MemPlace.cell b off) ∈ before := by rw [hps]; simpa using hp
   have := hlt _ hb
   rw [hB.frozen (p := ⟨b, off, none⟩) this]
   exact hz b off hb
  ·intro ha
   have := hn ha
   rw [hps] at this
   simpa using this
  ·intro p hp _
   rw [hps]
   simpa using hp
theorem okAgg {P : Program} {w : World} {base : Nat} {t : TypeId} {v : Value} {fs : Array Field} (ht : P.underlying t = some (.struct fs)) (h : Value.okWide P w .any base t v) : ∃ cs : List Value, v = .agg cs.toArray := by
 unfold Value.okWide at h
 rw [ht] at h
 obtain ⟨cs, rfl, -, -⟩ := h
 exact ⟨cs.toList, by simp⟩
theorem inR_of {n : Int} (h : (Lit.int .i64 n).wf = true) : InR n := by simpa [Lit.wf, InR] using h
theorem stays {H : Type} {enc : TypeId × Value → H} {P : Program} {t : TypeId} {W W' : World} {v : Value} {d : DataW H} {ps : List MemPlace} {sp : Nat → Bool} (h : DataW.Trod enc P W 0 (fun _ => true) true t v d ps) (hrow : t < P.types.size) (hr : P.readableRec t = true) (hl : laidOutB P = true)
  (hB : Below W.heap.size W W') (hlt : ∀ x ∈ ps, x.block < W.heap.size) (hsp : ∀ x ∈ ps, sp x.block = true) : DataW.Trod enc P W' 0 sp true t v d ps :=
 WideElems.Trod_stays hl hr hrow h (fun x hx => hB.same (hlt x hx)) hsp
end Go.Proofs.YtkadbimpaplnmaaGreatDoor
