/- Den6: append. No condition. -/
import Derived.Test.YtkmiecgcibjkbaaGreatDen5
namespace Go.Proofs.YtkmiecgcibjkbaaGreat
open Go.RowKit
/-- a row goes on: its block's frozen part grows to n cells -/
theorem ks_row {w : World} {F : Nat → Nat} {g : Nat} {cur arr : Array Value} {t : TypeId} {n : Nat} (hg : w.heap[g]? = some (.cells cur t (0, 0))) (hn : F g ≤ n) (hc : ∀ o, o < F g → arr[o]? = cur[o]?) :
    Ks w F (w.setRow g arr) (upd F g n) (fun b => b = g) where
  os := rfl
  tape := rfl
  output := rfl
  size := by simp
  cell := fun b o ho => by
    by_cases hb : b = g
    · subst hb
      rw [cell_of_row (w.setRow b arr) b o arr t (0, 0) (setRow_heap w b cur arr t (0, 0) hg), cell_of_row w b o cur t (0, 0) hg]
      exact hc o ho
    · exact World.cell?_of_block (w := w) (a := ⟨b, o, none⟩) (setRow_other w g b arr hb)
  mono := fun b => by
    by_cases hb : b = g
    · subst hb; rw [upd_self]; exact hn
    · rw [upd_ne _ _ hb]; exact Nat.le_refl _
  out := fun b _ hne => ⟨setRow_other w g b arr hne, upd_ne _ _ hne⟩
/-- a new block, its frozen part n cells -/
theorem ks_new {w : World} {F : Nat → Nat} {o : Obj} {n : Nat} (E : Nat → Prop) (ht : ∀ b, w.heap.size ≤ b → F b = 0) : Ks w F (w.alloc o) (upd F w.heap.size n) E where
  os := rfl
  tape := rfl
  output := rfl
  size := by simp
  cell := fun b q hq => by
    have hb : b < w.heap.size := by
      rcases Nat.lt_or_ge b w.heap.size with h | h
      · exact h
      · rw [ht b h] at hq; omega
    exact World.cell?_of_block (w := w) (a := ⟨b, q, none⟩) (Below.heap_alloc w o b hb)
  mono := fun b => by
    by_cases hb : b = w.heap.size
    · subst hb; rw [ht _ (Nat.le_refl _)]; omega
    · rw [upd_ne _ _ hb]; exact Nat.le_refl _
  out := fun b hb _ => ⟨Below.heap_alloc w o b hb, upd_ne _ _ (by omega)⟩
theorem Ks.drew {w w' : World} {F F' : Nat → Nat} {E : Nat → Prop} (h : Ks w.drew F w' F' E) : Ks w F w' F' E := ⟨h.os, h.tape, h.output, h.size, h.cell, h.mono, h.out⟩
theorem top_new {w : World} {F : Nat → Nat} {o : Obj} {n : Nat} (ht : ∀ b, w.heap.size ≤ b → F b = 0) : ∀ b, (w.alloc o).heap.size ≤ b → upd F w.heap.size n b = 0 := fun b hb => by
  have hb' : w.heap.size + 1 ≤ b := by simpa using hb
  rw [upd_ne _ _ (by omega)]; exact ht b (by omega)
theorem Ks.kp {w w' : World} {F F' : Nat → Nat} {E : Nat → Prop} (h : Ks w F w' F' E) {bs : List Nat} (hl : ∀ b ∈ bs, b < w.heap.size) (hn : ∀ b ∈ bs, ¬ E b) : Kp w F w' F' bs := ⟨h.cell, h.mono, fun b hb => h.out b (hl b hb) (hn b hb)⟩
/-- the trees of a new row -/
theorem row_new {w : World} {F : Nat → Nat} {s : Sh} {es : List DD} {xs : List Value} {r : List Nat} {cap : Nat} {e : TypeId} {arr : Array Value} (hs : ∀ d ∈ es, d.sh = s) (h0 : 0 < s.w) (h : rpS w F es xs r) (hr : ∀ b ∈ r, b < w.heap.size) (ht : ∀ b, w.heap.size ≤ b → F b = 0)
    (hx : arr.toList.take xs.length = xs) (hc : es.length ≤ cap) (hm : cap ≤ maxLen) (hz : cap * s.w ≤ arr.size) :
    rp (w.alloc (.cells arr e)) (upd F w.heap.size (es.length * s.w)) (.sl true s es) [.slice (some ⟨w.heap.size, 0, none⟩) es.length cap] (w.heap.size :: r) := by
  have k := (ks_new (o := .cells arr e) (n := es.length * s.w) (fun _ => False) ht).kp hr (by simp)
  have hxl := rpS.length es xs r h
  rw [DD.shs_eq, Sh.ws_map es hs] at hxl
  have hat : (w.alloc (.cells arr e)).heap[w.heap.size]? = some (.cells arr e (0, 0)) := alloc_at rfl
  simp only [rp]
  refine ⟨hs, h0, _, cap, rfl, hc, hm, by simp, .inr ⟨w.heap.size, 0, r, rfl, rpS.toE es xs 0 r (rpS.keep es xs r h k) ?_, by rw [upd_self]; omega, .inr ⟨trivial, rfl, rfl, upd_self _ _ _, arr, e, hat, hz⟩⟩⟩
  intro j u hu
  have hj := (List.getElem?_eq_some_iff.1 hu).1
  rw [cell_of_row _ _ _ _ e (0, 0) hat]
  have hu2 : (arr.toList.take xs.length)[j]? = some u := by rw [hx]; exact hu
  rw [List.getElem?_take_of_lt hj] at hu2
  simpa using hu2
section
variable {P : Program} (w : World)
/-- as 'run_append_room', for a row of any type -/
theorem run_append_roomT (t ty e t0 : TypeId) (i : TypeInfo) (ht : P.underlying t = some (.slice e)) (hi : P.info? e = some i)
    (g sLen sCap : Nat) (cur : Array Value) (hg : w.heap[g]? = some (.cells cur t0 (0, 0)))
    (a : Addr) (m c : Nat) (news : List Value) (hl : news.length = m * i.size) (hnews : ∀ j u, news[j]? = some u → w.cell? (a.add j) = some u) (h1 : ∀ u ∈ news, u.oneCell' = true)
    (hroom : sLen + m ≤ sCap) (hfit : sLen * i.size + news.length ≤ cur.size) :
    (Builtin.append_ #[t, t] ty #[.slice (some ⟨g, 0, none⟩) sLen sCap, .slice (some a) m c]).run P w =
      .ok (.slice (some ⟨g, 0, none⟩) (sLen + m) sCap) (w.setRow g (cur.toList.take (sLen * i.size) ++ news ++ cur.toList.drop (sLen * i.size + news.length)).toArray) := by
  have hf := run_firstCells_some (P := P) w i.size m a m c news hl hnews
  have hst := run_storeCells_at P g (sLen * i.size) t0 news 0 cur w hg (by simpa using hfit) h1
  simp only [Nat.add_zero] at hst
  simp [Builtin.append_, run_underlying ht, sizeOf, typeInfo, hi, Builtin.lenOf, hroom, hf, Addr.add_lit, hst]
theorem run_append_zero (t ty e : TypeId) (i : TypeInfo) (ht : P.underlying t = some (.slice e)) (hi : P.info? e = some i) (a a2 : Option Addr) (n cap c : Nat) (hn : n ≤ cap) :
    (Builtin.append_ #[t, t] ty #[.slice a n cap, .slice a2 0 c]).run P w = .ok (.slice a n cap) w := by
  cases a <;> cases a2 <;> simp [Builtin.append_, run_underlying ht, sizeOf, typeInfo, hi, Builtin.lenOf, hn, Builtin.firstCells, loadCells, loadCellsFrom, storeCells]
end
theorem append_rp {P : Program} {w : World} {F : Nat → Nat} (T ty e : TypeId) (ii : TypeInfo) {s : Sh} (z : DD) (zc : List Value) (hu : P.underlying T = some (.slice e)) (hi : P.info? e = some ii) (his : ii.size = s.w) (hiz : ii.zero = some (z.mk zc)) (hz : ∀ w F, rp w F z zc []) (hzs : z.sh = s)
    {es ys : List DD} {ox : Bool} {vs vx : Value} {b1 b2 : List Nat} (hS : rp w F (.sl true s es) [vs] b1) (hX : rp w F (.sl ox s ys) [vx] b2) (hn : (b1 ++ b2).Nodup) (hl : ∀ b ∈ b1 ++ b2, b < w.heap.size) (ht : ∀ b, w.heap.size ≤ b → F b = 0)
    (hm : es.length + ys.length ≤ maxLen) (hby : (es.length + ys.length) * ii.bytes ≤ 140737488355328) :
    ∃ v' w' F' bs, (Builtin.append_ #[T, T] ty #[vs, vx]).run P w = .ok v' w' ∧ rp w' F' (.sl true s (es ++ ys)) [v'] bs ∧ Ks w F w' F' (fun b => b ∈ b1) ∧ bs.Nodup ∧ (∀ b ∈ bs, b ∈ b1 ++ b2 ∨ w.heap.size ≤ b) ∧ (∀ b ∈ bs, b < w'.heap.size) ∧
      (∀ b, w'.heap.size ≤ b → F' b = 0) := by
  have hS0 := hS
  simp only [rp] at hS hX
  obtain ⟨hs, h0, a, cap, hv, g1, g2, g3, g4⟩ := hS
  obtain ⟨hy, -, a2, c2, hv2, k1, k2, k3, k4⟩ := hX
  simp only [List.cons.injEq, and_true] at hv hv2
  subst hv
  subst hv2
  have hsy : ∀ d ∈ es ++ ys, d.sh = s := fun d hd => by
    rcases List.mem_append.1 hd with hd | hd
    · exact hs d hd
    · exact hy d hd
  by_cases hy0 : ys = []
  · subst hy0
    refine ⟨_, w, F, b1, run_append_zero (P := P) w T ty e ii hu hi a a2 es.length cap c2 g1, by rw [List.append_nil]; exact hS0, Ks.refl _ _ _, (List.nodup_append.1 hn).1, fun b hb => .inl (by simp [hb]), fun b hb => hl b (by simp [hb]), ht⟩
  -- the new elements
  obtain ⟨b', off2, q, rfl, hE2, hf2, hq⟩ : ∃ b off r, a2 = some ⟨b, off, none⟩ ∧ rpE w F ys b off r ∧ off + ys.length * s.w ≤ F b ∧ (∀ x ∈ r, x ∈ b2) ∧ r.Nodup := by
    rcases k4 with ⟨-, h, -⟩ | ⟨b, off, r, h1, h2, h3, h4⟩
    · exact absurd h hy0
    · refine ⟨b, off, r, h1, h2, h3, ?_⟩
      have hn2 := (List.nodup_append.1 hn).2.1
      rcases h4 with ⟨-, -, h4⟩ | ⟨-, h4, -⟩
      · subst h4; exact ⟨by simp, List.nodup_nil⟩
      · subst h4; exact ⟨fun x hx => by simp [hx], (List.nodup_cons.1 hn2).2⟩
  obtain ⟨news, hc2, hS2⟩ := rpE.toS ys off2 q hE2
  have hnl := rpS.length ys news q hS2
  rw [DD.shs_eq, Sh.ws_map ys hy] at hnl
  have hn1 : news.length = ys.length * ii.size := by rw [hnl, his]
  have hnews : ∀ j u, news[j]? = some u → w.cell? ((⟨b', off2, none⟩ : Addr).add j) = some u := fun j u hu => by rw [Addr.add_lit]; exact hc2 j u hu
  have hone := rpS.one ys news q hS2
  have hyp : 0 < ys.length := List.length_pos_iff.2 hy0
  have hm' : es.length + ys.length ≤ 9223372036854775807 := by simpa [maxLen] using hm
  have hzsz : (z.mk zc).cells.size = s.w := by rw [mk_cells (hz w F)]; simp [rp.length z zc [] (hz w F), hzs]
  have grown : ∀ (olds : List Value) (r : List Nat) (old : Nat), rpS w F es olds r → old < es.length + ys.length → (∀ x ∈ r, x ∈ b1) → r.Nodup →
      ∃ bs, rp (w.drew.alloc (.cells (olds.toArray ++ news.toArray ++ Builtin.zeroCells (z.mk zc).cells (grownCap w (es.length + ys.length) old e - (es.length + ys.length))) e)) (upd F w.heap.size ((es ++ ys).length * s.w)) (.sl true s (es ++ ys))
        [.slice (some ⟨w.heap.size, 0, none⟩) (es.length + ys.length) (grownCap w (es.length + ys.length) old e)] bs ∧ bs.Nodup ∧ (∀ b ∈ bs, b ∈ b1 ++ b2 ∨ w.heap.size ≤ b) ∧ ∀ b ∈ bs, b < w.heap.size + 1 := by
    intro olds r old hO ho hr hrn
    have hge := grownCap_ge w (es.length + ys.length) old e
    have hcm : grownCap w (es.length + ys.length) old e ≤ maxLen := grownCap_le_maxLen w (es.length + ys.length) old e hm
    have hol := rpS.length es olds r hO
    rw [DD.shs_eq, Sh.ws_map es hs] at hol
    have hrq : ∀ b ∈ r ++ q, b ∈ b1 ++ b2 := fun b hb => by
      rcases List.mem_append.1 hb with hb | hb
      · simp [hr b hb]
      · simp [hq.1 b hb]
    have := row_new (w := w.drew) (F := F) (s := s) (es := es ++ ys) (xs := olds ++ news) (r := r ++ q) (cap := grownCap w (es.length + ys.length) old e) (e := e)
      (arr := olds.toArray ++ news.toArray ++ Builtin.zeroCells (z.mk zc).cells (grownCap w (es.length + ys.length) old e - (es.length + ys.length))) hsy h0 (rpS.keep _ _ _ (rpS.append es olds r ys news q hO hS2) ⟨fun _ _ _ => rfl, fun _ => Nat.le_refl _, fun _ _ => ⟨rfl, rfl⟩⟩) (fun b hb => hl b (hrq b hb)) ht
      (by rw [Array.toList_append, Array.toList_append]; exact List.take_left) (by simpa using hge) hcm (by
        simp only [Array.size_append, List.size_toArray, size_zeroCells, hzsz, hol, hnl, ← Nat.add_mul]
        exact Nat.mul_le_mul_right _ (by omega))
    rw [List.length_append] at this ⊢
    refine ⟨_, this, ?_, ?_, ?_⟩
    · refine List.nodup_cons.2 ⟨fun hb => ?_, ?_⟩
      · have := hl _ (hrq _ hb); simp at this
      · refine List.nodup_append.2 ⟨hrn, hq.2, fun x hx y hy e => ?_⟩
        subst e
        exact (List.nodup_append.1 hn).2.2 x (hr x hx) x (hq.1 x hy) rfl
    · intro b hb
      rcases List.mem_cons.1 hb with rfl | hb
      · exact .inr (Nat.le_refl _)
      · exact .inl (hrq b hb)
    · intro b hb
      rcases List.mem_cons.1 hb with rfl | hb
      · simp
      · have := hl b (hrq b hb); omega
  by_cases hroom : es.length + ys.length ≤ cap
  · -- it fits
    rcases g4 with ⟨-, rfl, h⟩ | ⟨b, off, r, rfl, he, hf, h⟩
    · have := h trivial
      simp only [List.length_nil] at hroom
      omega
    · rcases h with ⟨h, -⟩ | ⟨-, rfl, rfl, hF, cur, t0, hg, hcz⟩
      · cases h
      · obtain ⟨olds, hco, hO⟩ := rpE.toS es 0 r he
        have hol := rpS.length es olds r hO
        rw [DD.shs_eq, Sh.ws_map es hs] at hol
        have hsum : es.length * s.w + ys.length * s.w ≤ cap * s.w := by rw [← Nat.add_mul]; exact Nat.mul_le_mul_right _ hroom
        have hrun := run_append_roomT (P := P) w T ty e t0 ii hu hi b es.length cap cur hg ⟨b', off2, none⟩ ys.length c2 news hn1 hnews hone hroom (by rw [hn1, his]; omega)
        rw [his] at hrun
        have hbn : b ∉ r := (List.nodup_cons.1 (List.nodup_append.1 hn).1).1
        have hks : Ks w F (w.setRow b (cur.toList.take (es.length * s.w) ++ news ++ cur.toList.drop (es.length * s.w + news.length)).toArray) (upd F b ((es ++ ys).length * s.w)) (fun x => x = b) := by
          refine ks_row hg (by rw [hF, List.length_append, Nat.add_mul]; omega) (fun o ho => ?_)
          rw [hF] at ho
          have hlt : o < cur.size := by omega
          simp only [List.getElem?_toArray, List.append_assoc]
          rw [List.getElem?_append_left (by simp; omega), List.getElem?_take_of_lt ho]
          simp
        have hrl : ∀ x ∈ r, x < w.heap.size := fun x hx => hl x (by simp [hx])
        have hql : ∀ x ∈ q, x < w.heap.size := fun x hx => hl x (by simp [hq.1 x hx])
        have hqb : ∀ x ∈ q, ¬ x = b := fun x hx e => (List.nodup_append.1 hn).2.2 b (by simp) x (hq.1 x hx) e.symm
        have hat := setRow_heap w b cur (cur.toList.take (es.length * s.w) ++ news ++ cur.toList.drop (es.length * s.w + news.length)).toArray t0 (0, 0) hg
        refine ⟨_, _, upd F b ((es ++ ys).length * s.w), b :: (r ++ q), hrun, ?_, ⟨hks.os, hks.tape, hks.output, hks.size, hks.cell, hks.mono, fun x hx hne => hks.out x hx (fun e => hne (by simp [e]))⟩, ?_, ?_, ?_, ?_⟩
        · simp only [rp]
          refine ⟨hsy, h0, _, cap, by rw [List.length_append], by rw [List.length_append]; exact hroom, g2, by simp, .inr ⟨b, 0, r ++ q, rfl, ?_, by rw [upd_self]; omega, .inr ⟨trivial, rfl, rfl, upd_self _ _ _, _, t0, hat, ?_⟩⟩⟩
          · refine rpS.toE (es ++ ys) (olds ++ news) 0 (r ++ q) (rpS.append es olds r ys news q (rpS.keep es olds r hO (hks.kp hrl (fun x hx e => hbn (e ▸ hx)))) (rpS.keep ys news q hS2 (hks.kp hql hqb))) ?_
            intro j u hu
            rw [cell_of_row _ _ _ _ t0 (0, 0) hat, Nat.zero_add]
            simp only [List.getElem?_toArray]
            by_cases hj : j < olds.length
            · rw [List.getElem?_append_left hj] at hu
              have := hco j u hu
              rw [cell_of_row w _ _ _ t0 (0, 0) hg, Nat.zero_add] at this
              rw [List.append_assoc, List.getElem?_append_left (by simp; omega), List.getElem?_take_of_lt (by omega)]
              simpa using this
            · have hj2 := (List.getElem?_eq_some_iff.1 hu).1
              rw [List.length_append] at hj2
              rw [List.getElem?_append_right (by omega)] at hu
              have htl : (cur.toList.take (es.length * s.w)).length = es.length * s.w := by simp; omega
              rw [List.append_assoc, List.getElem?_append_right (by omega), List.getElem?_append_left (by omega), htl, ← hol]
              exact hu
          · simp only [List.size_toArray, List.length_append, List.length_take, List.length_drop, Array.length_toList]
            omega
        · refine List.nodup_cons.2 ⟨fun hb => ?_, ?_⟩
          · rcases List.mem_append.1 hb with hb | hb
            · exact hbn hb
            · exact hqb b hb rfl
          · have hn3 := (List.nodup_cons.1 (List.nodup_append.1 hn).1).2
            refine List.nodup_append.2 ⟨hn3, hq.2, fun x hx y hy e => ?_⟩
            subst e
            exact (List.nodup_append.1 hn).2.2 x (by simp [hx]) x (hq.1 x hy) rfl
        · intro x hx
          left
          rcases List.mem_cons.1 hx with rfl | hx
          · simp
          · rcases List.mem_append.1 hx with hx | hx
            · simp [hx]
            · simp [hq.1 x hx]
        · intro x hx
          rw [size_setRow]
          rcases List.mem_cons.1 hx with rfl | hx
          · exact hl _ (by simp)
          · rcases List.mem_append.1 hx with hx | hx
            · exact hrl x hx
            · exact hql x hx
        · intro x hx
          rw [size_setRow] at hx
          have : x ≠ b := fun e => by have := hl b (by simp); omega
          rw [upd_ne _ _ this]
          exact ht x hx
  · -- it grows
    have hfits : ∀ old, old < es.length + ys.length → Builtin.nextslicecap (es.length + ys.length) old * ii.bytes ≤ 281474976710656 := fun old h => growslice_fits h hby
    cases a with
    | none =>
      have hc := g3 rfl
      have he0 : es = [] := List.length_eq_zero_iff.1 (by omega)
      subst he0
      subst hc
      simp only [List.length_nil, Nat.zero_add] at hm' hby grown ⊢
      have hrun := run_append_nil (P := P) w T ty e ii (z.mk zc) hu hi hiz ⟨b', off2, none⟩ ys.length c2 news hn1 hnews hyp (by omega) (by omega)
      obtain ⟨bs, m1, m2, m3, m4⟩ := grown [] [] 0 (by simp [rpS]) hyp (by simp) List.nodup_nil
      refine ⟨_, _, _, bs, hrun, by simpa using m1, (Ks.drew (ks_new (w := w.drew) _ ht)), m2, m3, fun b hb => by simpa using m4 b hb, top_new (w := w.drew) ht⟩
    | some ad =>
      rcases g4 with ⟨rfl, rfl, -⟩ | ⟨b, off, r, ha, he, hf, h⟩
      · have hrun := run_append_grow (P := P) w T ty e ii (z.mk zc) hu hi hiz ad 0 cap [] (by simp) (by simp) ⟨b', off2, none⟩ ys.length c2 news hn1 hnews (by simp at hroom; omega) (by simp at hm'; omega) (hfits cap (by omega))
        obtain ⟨bs, m1, m2, m3, m4⟩ := grown [] [] cap (by simp [rpS]) (by omega) (by simp) List.nodup_nil
        refine ⟨_, _, _, bs, hrun, m1, (Ks.drew (ks_new (w := w.drew) _ ht)), m2, m3, fun b hb => by simpa using m4 b hb, top_new (w := w.drew) ht⟩
      · simp only [Option.some.injEq] at ha
        subst ha
        obtain ⟨olds, hco, hO⟩ := rpE.toS es off r he
        have hol := rpS.length es olds r hO
        rw [DD.shs_eq, Sh.ws_map es hs] at hol
        have hr : (∀ x ∈ r, x ∈ b1) ∧ r.Nodup := by
          have hn1 := (List.nodup_append.1 hn).1
          rcases h with ⟨-, -, h⟩ | ⟨-, h, -⟩
          · subst h; exact ⟨by simp, List.nodup_nil⟩
          · subst h; exact ⟨fun x hx => by simp [hx], (List.nodup_cons.1 hn1).2⟩
        have hrun := run_append_grow (P := P) w T ty e ii (z.mk zc) hu hi hiz ⟨b, off, none⟩ es.length cap olds (by rw [hol, his]) (fun j u hu => by rw [Addr.add_lit]; exact hco j u hu) ⟨b', off2, none⟩ ys.length c2 news hn1 hnews (by omega) (by omega) (hfits cap (by omega))
        obtain ⟨bs, m1, m2, m3, m4⟩ := grown olds r cap hO (by omega) hr.1 hr.2
        refine ⟨_, _, _, bs, hrun, m1, (Ks.drew (ks_new (w := w.drew) _ ht)), m2, m3, fun b hb => by simpa using m4 b hb, top_new (w := w.drew) ht⟩
end Go.Proofs.YtkmiecgcibjkbaaGreat
