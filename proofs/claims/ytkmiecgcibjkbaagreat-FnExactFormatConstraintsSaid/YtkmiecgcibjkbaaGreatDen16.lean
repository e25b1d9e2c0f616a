/- Den16: a region that draws its order, whichever order it draws. No condition. -/
import Derived.Test.YtkmiecgcibjkbaaGreatDen15
namespace Go.Proofs.YtkmiecgcibjkbaaGreat
open Go.RowKit
instance : Inhabited FS := ⟨⟨default, [], .un, .val⟩⟩
structure DInv (ops : Array Oper) (listed : Array Bool) (L : List Nat) : Prop where
  size : listed.size = ops.size
  lt : ∀ i ∈ L, i < ops.size
  mem : ∀ i, i < ops.size → (listed.getD i true = false ↔ i ∈ L)
  srt : L.Pairwise (· < ·)
  cl : ∀ i, i < ops.size → i ∉ L → ∀ o, ops[i]? = some o → ∀ e ∈ o.after, Region.binds .any e = true → e.on ∉ L
theorem dep_cl {ops : Array Oper} {listed : Array Bool} {L : List Nat} (I : DInv ops listed L) (hb : ∀ i o, ops[i]? = some o → ∀ e ∈ o.after, Region.binds .any e = true → e.on < i) : ∀ (n a x : Nat), a < ops.size → a ∉ L → depE ops n a x = true → x ∉ L
  | 0, _, _, _, _, h => by simp [depE] at h
  | n + 1, a, x, ha, hL, h => by
    simp only [depE] at h
    cases ho : ops[a]? with
    | none => rw [ho] at h; cases h
    | some o =>
      rw [ho] at h
      simp only [List.any_eq_true, Bool.and_eq_true, Bool.or_eq_true, beq_iff_eq, Array.mem_toList_iff] at h
      obtain ⟨e, he, hbd, h⟩ := h
      have hon := I.cl a ha hL o ho e he hbd
      rcases h with rfl | h
      · exact hon
      · exact dep_cl I hb n e.on x (by have := hb a o ho e he hbd; omega) hon h
theorem draw_go {c : Cx} {ops : Array Oper} {fs : List FS} {Sf : St} (hF : ∀ i o, ops[i]? = some o → (fs.getD i default).o = o) (hb : ∀ i o, ops[i]? = some o → ∀ e ∈ o.after, Region.binds .any e = true → e.on < i)
    (hd : ∀ j, j < ops.size → ∀ i, i < j → depE ops ops.size j i = true ∨ Ind ops (fs.getD i default) (fs.getD j default)) {Q : Exit → Act → World → Prop}
    {w0 : World} {F0 : Nat → Nat} {Θ0 : Ty} {own0 : Who → List Nat} (hQ : ∀ a w F Θ own, Rel w F Θ own Sf a → Stp w0 F0 Θ0 own0 w F Θ own → Q .normal a w) :
    ∀ (n : Nat) (L : List Nat) (listed : Array Bool) (S : St) (a : Act) (w : World) (F : Nat → Nat) (Θ : Ty) (own : Who → List Nat), L.length = n → DInv ops listed L → Pth c ops (L.map fun i => fs.getD i default) S Sf → Rel w F Θ own S a → Stp w0 F0 Θ0 own0 w F Θ own →
      wpAny c.P .any ops Q n listed a w := by
  intro n
  induction n with
  | zero =>
    intro L listed S a w F Θ own hL I hP hR hS
    obtain rfl := List.length_eq_zero_iff.1 hL
    have e : S = Sf := hP
    subst e
    refine ⟨?_, hQ a w F Θ own hR hS⟩
    refine List.eq_nil_iff_forall_not_mem.2 fun j hj => ?_
    obtain ⟨h1, o, ho, -⟩ := mem_ready.1 hj
    have := (I.mem j (Array.getElem?_eq_some_iff.1 ho).1).1 h1
    simp at this
  | succ n ih =>
    intro L listed S a w F Θ own hL I hP hR hS
    have rdy : ∀ j, j ∈ Region.ready .any ops listed ↔ j ∈ L ∧ ∃ o, ops[j]? = some o ∧ ∀ e ∈ o.after, Region.binds .any e = true → e.on ∉ L := by
      intro j
      rw [mem_ready]
      constructor
      · rintro ⟨h1, o, ho, h2⟩
        have hj := (Array.getElem?_eq_some_iff.1 ho).1
        refine ⟨(I.mem j hj).1 h1, o, ho, fun e he hbd hm => ?_⟩
        have h3 := h2 e he hbd
        have hon : e.on < ops.size := I.lt _ hm
        have h4 := (I.mem e.on hon).2 hm
        have h5 : e.on < listed.size := by rw [I.size]; exact hon
        simp [Array.getD_eq_getD_getElem?, h5] at h3 h4
        rw [h3] at h4; cases h4
      · rintro ⟨h1, o, ho, h2⟩
        have hj := (Array.getElem?_eq_some_iff.1 ho).1
        refine ⟨(I.mem j hj).2 h1, o, ho, fun e he hbd => ?_⟩
        have hon : e.on < ops.size := by have := hb j o ho e he hbd; omega
        have h4 : ¬ listed.getD e.on true = false := fun q => h2 e he hbd ((I.mem e.on hon).1 q)
        have h5 : e.on < listed.size := by rw [I.size]; exact hon
        simp [Array.getD_eq_getD_getElem?, h5] at h4 ⊢
        exact h4
    refine ⟨fun h0 => ?_, fun i hi => ?_⟩
    · exfalso
      cases L with
      | nil => simp at hL
      | cons x l =>
        have hx := I.lt x (by simp)
        have : x ∈ Region.ready .any ops listed := (rdy x).2 ⟨by simp, ops[x], by simp [hx], fun e he hbd hm => by
          have h1 := hb x ops[x] (by simp [hx]) e he hbd
          rcases List.mem_cons.1 hm with h2 | h2
          · omega
          · have := (List.pairwise_cons.1 I.srt).1 _ h2; omega⟩
        rw [h0] at this; simp at this
    · obtain ⟨him, o, ho, hall⟩ := (rdy i).1 hi
      have hilt := I.lt i him
      obtain ⟨xs, l, rfl⟩ := List.append_of_mem him
      have hsrt := List.pairwise_append.1 I.srt
      have hsrt2 := List.pairwise_cons.1 hsrt.2.1
      have hxi : ∀ x ∈ xs, x < i := fun x hx => hsrt.2.2 x hx i (by simp)
      have hnd : i ∉ xs ++ l := by
        intro h
        rcases List.mem_append.1 h with h | h
        · have := hxi i h; omega
        · have := hsrt2.1 i h; omega
      rw [List.map_append, List.map_cons] at hP
      have hInd : ∀ z ∈ xs.map (fun i => fs.getD i default), Ind ops z (fs.getD i default) := by
        intro z hz
        obtain ⟨x, hx, rfl⟩ := List.mem_map.1 hz
        rcases hd i hilt x (hxi x hx) with h | h
        · exfalso
          -- i waits for x: it is not ready
          have : x ∉ xs ++ i :: l := by
            cases hs : ops.size with
            | zero => omega
            | succ m =>
              rw [hs] at h
              simp only [depE, ho] at h
              simp only [List.any_eq_true, Bool.and_eq_true, Bool.or_eq_true, beq_iff_eq, Array.mem_toList_iff] at h
              obtain ⟨e, he, hbd, h⟩ := h
              have hon := hall e he hbd
              rcases h with rfl | h
              · exact hon
              · exact dep_cl I hb m e.on x (by have := hb i o ho e he hbd; omega) hon h
          exact this (by simp [hx])
        · exact h
      obtain ⟨⟨hv, -⟩, hP'⟩ := Pth.front _ _ _ hP hInd
      have hos := hv S FS.agr.refl
      rw [hF i o ho] at hos
      have hI' : DInv ops (listed.setIfInBounds i true) (xs ++ l) := by
        refine ⟨by simpa using I.size, fun j hj => I.lt j (by simp only [List.mem_append, List.mem_cons] at hj ⊢; rcases hj with h | h <;> simp [h]), fun j hj => ?_, ?_, fun j hj hnj o' ho' e he hbd hm => ?_⟩
        · by_cases hji : j = i
          · subst hji
            have : j < listed.size := by rw [I.size]; exact hj
            simp [Array.getD_eq_getD_getElem?, this, hnd] at hnd ⊢
            first | done | exact hnd
          · have h1 : (listed.setIfInBounds i true).getD j true = listed.getD j true := by
              simp [Array.getD_eq_getD_getElem?, Ne.symm hji]
            rw [h1, I.mem j hj]
            simp [hji]
        · exact List.pairwise_append.2 ⟨hsrt.1, hsrt2.2, fun x hx y hy => hsrt.2.2 x hx y (by simp [hy])⟩
        · have hm' : e.on ∈ xs ++ i :: l := by simp only [List.mem_append, List.mem_cons] at hm ⊢; rcases hm with h | h <;> simp [h]
          by_cases hji : j = i
          · subst hji
            rw [ho] at ho'
            cases ho'
            exact hall e he hbd hm'
          · exact I.cl j hj (by simp only [List.mem_append, List.mem_cons] at hnj ⊢; rintro (h | h | h); exact hnj (.inl h); exact hji h; exact hnj (.inr h)) o' ho' e he hbd hm'
      unfold wpOp
      rw [ho]
      have := hos w F Θ own a hR (wpAny c.P .any ops Q n (listed.setIfInBounds i true)) Q (fun a' w' F' Θ' own' h1 h2 => ih (xs ++ l) _ _ a' w' F' Θ' own' (by simp at hL ⊢; omega) hI' (by rw [List.map_append]; exact hP') h1 (hS.trans h2))
      simp only
      split
      · rename_i hw; rw [if_pos hw] at this; exact .inl this
      · rename_i hw; rw [if_neg hw] at this; exact this
theorem Rel.drew {w : World} {F : Nat → Nat} {Θ : Ty} {own : Who → List Nat} {S : St} {a : Act} (h : Rel w F Θ own S a) : Rel w.drew F Θ own S a := by
  have hT : ∀ lv q (x : Nat × Sh), Θ lv q = some x → Θ lv q = some x := fun _ _ _ q => q
  have kp : ∀ bs, Kp w F w.drew F bs := fun _ => ⟨fun _ _ _ => rfl, fun _ => Nat.le_refl _, fun _ _ => ⟨rfl, rfl⟩⟩
  exact ⟨h.n, h.df, fun t => rv.keep hT _ _ _ (h.tm t) (kp _), h.hn, fun lv q cn hq => by
    obtain ⟨b, s, cur, t, h1, h2, h3, h4, h5, h6⟩ := h.hs lv q cn hq
    exact ⟨b, s, cur, t, h1, h2, h3, h4, h5, rc.keep hT _ _ _ h6 (kp _)⟩, h.nd, h.dj, h.lt, h.top⟩
theorem Stp.of_drew {w w' : World} {F F' : Nat → Nat} {Θ Θ' : Ty} {own own' : Who → List Nat} (h : Stp w.drew F Θ own w' F' Θ' own') : Stp w F Θ own w' F' Θ' own' :=
  ⟨⟨h.ks.os, h.ks.tape, h.ks.output, h.ks.size, h.ks.cell, h.ks.mono, h.ks.out⟩, h.fr, h.ty⟩
theorem W.draw {c : Cx} {id : Nat} {ops : Array Oper} {S Sf : St} {Q : Exit → St → Prop} (fs : List FS) (hP : Pth c ops fs S Sf) (hm : c.P.follows .mixedOrders = true) (ho : fs.map FS.o = ops.toList) (hc : drawB ops fs = true) (h : Q .normal Sf) : W c (.region id ops true) S Q := by
  intro w F Θ own a hR
  refine wp_region_any hm ?_
  simp only [drawB, Bool.and_eq_true, beq_iff_eq, List.all_eq_true, List.mem_range] at hc
  obtain ⟨⟨h1, h2⟩, h3⟩ := hc
  have hlen := h1
  have hF : ∀ i o, ops[i]? = some o → (fs.getD i default).o = o := by
    intro i o hi
    have hi2 : (fs.map FS.o)[i]? = some o := by rw [ho]; simpa using hi
    rw [List.getElem?_map] at hi2
    cases hq : fs[i]? with
    | none => rw [hq] at hi2; cases hi2
    | some f =>
      rw [hq] at hi2
      simp only [Option.map_some, Option.some.injEq] at hi2
      rw [List.getD_eq_getElem?_getD, hq]; exact hi2
  have hb : ∀ i o, ops[i]? = some o → ∀ e ∈ o.after, Region.binds .any e = true → e.on < i := by
    intro i o hi e he hbd
    have := h2 i (Array.getElem?_eq_some_iff.1 hi).1
    rw [hi] at this
    simp only [List.all_eq_true, Array.mem_toList_iff] at this
    have := this e he
    simpa [hbd] using this
  have hd : ∀ j, j < ops.size → ∀ i, i < j → depE ops ops.size j i = true ∨ Ind ops (fs.getD i default) (fs.getD j default) := by
    intro j hj i hi
    have := h3 j hj i hi
    rw [Bool.or_eq_true] at this
    rcases this with q | q
    · exact .inl q
    · right
      have e1 : fs[i]? = some (fs.getD i default) := by rw [List.getD_eq_getElem?_getD, List.getElem?_eq_getElem (by omega)]; rfl
      have e2 : fs[j]? = some (fs.getD j default) := by rw [List.getD_eq_getElem?_getD, List.getElem?_eq_getElem (by omega)]; rfl
      rw [e1, e2] at q
      exact ind_spec q
  refine draw_go (c := c) (fs := fs) (Sf := Sf) hF hb hd (w0 := w) (F0 := F) (Θ0 := Θ) (own0 := own) (fun a' w' F' Θ' own' g1 g2 => ⟨Sf, F', Θ', own', h, g1, g2⟩) ops.size (List.range ops.size) _ S a _ F Θ own (by simp) ⟨by simp, fun i hi => by simpa using hi, fun i hi => by simp [Array.getD_eq_getD_getElem?, hi], List.pairwise_lt_range, fun i hi hn => absurd (List.mem_range.2 hi) hn⟩ ?_ hR.drew (Stp.of_drew (Stp.refl _ _ _ _))
  have : ((List.range ops.size).map fun i => fs.getD i default) = fs := by
    rw [← hlen]
    refine List.ext_getElem (by simp) fun i h1 h2 => ?_
    simp [List.getD_eq_getElem?_getD, List.getElem?_eq_getElem h2]
  rw [this]
  exact hP
end Go.Proofs.YtkmiecgcibjkbaaGreat
