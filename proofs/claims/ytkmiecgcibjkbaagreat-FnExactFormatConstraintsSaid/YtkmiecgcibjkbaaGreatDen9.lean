/- Den9: rows that are built or made, appends. No condition. -/
import Derived.Test.YtkmiecgcibjkbaaGreatDen8
namespace Go.Proofs.YtkmiecgcibjkbaaGreat
open Go.RowKit
theorem ws_take_rep (s : Sh) : ∀ m k : Nat, k ≤ m → Sh.ws ((List.replicate m s).take k) = k * s.w
  | 0, k, h => by simp at h; subst h; simp [Sh.ws]
  | m + 1, 0, _ => by simp [Sh.ws]
  | m + 1, k + 1, h => by rw [List.replicate_succ, List.take_succ_cons, Sh.ws, ws_take_rep s m k (by omega), Nat.add_mul]; omega
theorem shs_rep (z : DD) (n : Nat) : DD.shs (List.replicate n z) = List.replicate n z.sh := by rw [DD.shs_eq, List.map_replicate]
theorem rpS_rep {w : World} {F : Nat → Nat} {z : DD} {zc : List Value} (h : rp w F z zc []) : ∀ n : Nat, rpS w F (List.replicate n z) (List.replicate n zc).flatten []
  | 0 => by simp [rpS]
  | n + 1 => by
    simp only [List.replicate_succ, List.flatten_cons, rpS]
    exact ⟨zc, _, [], [], rfl, rfl, h, rpS_rep h n⟩
theorem made_flat (zc : List Value) (m : Nat) (hm : zc.length = m) (h0 : 0 < m) : ∀ n : Nat, (madeCells zc.toArray (n * m)).toList = (List.replicate n zc).flatten
  | 0 => by simp [madeCells]
  | n + 1 => by
    rw [List.replicate_succ', List.flatten_append, ← made_flat zc m hm h0 n]
    simp only [madeCells, Array.toList_map, Array.toList_range, Nat.add_mul, Nat.one_mul, List.range_add, List.map_append, List.map_map, List.flatten_cons, List.flatten_nil, List.append_nil]
    congr 1
    refine List.ext_getElem (by simp [hm]) fun i h1 h2 => ?_
    have hi : i < m := by simpa using h1
    simp [hm, Nat.add_mod, Nat.mod_eq_of_lt hi, hi]
theorem made_flat' (z : DD) (zc : List Value) {w : World} {F : Nat → Nat} (h : rp w F z zc []) (n : Nat) (h0 : 0 < z.sh.w) : madeCells (z.mk zc).cells (n * z.sh.w) = ((List.replicate n zc).flatten).toArray := by
  rw [mk_cells h]
  apply Array.toList_inj.1
  rw [made_flat zc z.sh.w (rp.length _ _ _ h) h0 n]
section
variable {c : Cx} {mv : List Nat} {o : Oper} {S : St} {w : World} {F : Nat → Nat} {Θ : Ty} {own : Who → List Nat} {a : Act}
theorem snd_buildSlice (hd : ∀ k, o.dst = some k → k < S.n) (T n : Nat) (ps : Array (Nat × Operand)) (ho : o.op = .buildSlice T n ps) (hn : (cls mv o).Nodup) (ti te : TI) (e : Nat) (s : Sh) (ht : c.ty T = some ti) (hk : ti.kd = .sl e s) (hte : c.ty e = some te) (hts : te.sh = s)
    (hp : ∀ p ∈ ps.toList, okO c e p.2 ∧ p.1 < n ∧ ∃ x, tkT c e S p.2 = .d x ∧ x.sh = s) (h24 : n * s.w ≤ 2 ^ 24) : Snd c o S (nx c mv o S) := by
  intro w F Θ own a hR
  have hT := c.ok T ti ht
  have hE := c.ok e te hte
  obtain ⟨ii, hi1, hi2, hi3, hi4⟩ := hE.info
  have hkd := hT.kd
  rw [hk] at hkd
  obtain ⟨-, h0, hu, -⟩ := hkd
  have hz := hE.z w F
  have hzs := hE.zs
  rw [hts] at hzs hi2
  have hvs := tkS_rv (c := c) hR (ps.toList.map fun p => (e, p.2)) (by intro x hx; obtain ⟨p, hp1, rfl⟩ := List.mem_map.1 hx; exact (hp p hp1).1)
  simp only [List.map_map, Function.comp_def] at hvs
  have hfm : ((ps.toList.map fun p => (e, p.2)).flatMap fun x => tmO x.2) = cls mv o := by
    unfold cls
    simp only [ho, List.flatMap_map]
  rw [hfm] at hvs
  let place : Nat → Option (Nat × Nat) := fun i => some (i * s.w, s.w)
  have hpl : ∀ i q, (List.replicate n s)[i]? = some q → place i = some (Sh.ws ((List.replicate n s).take i), q.w) := by
    intro i q hq
    rw [List.getElem?_replicate] at hq
    split at hq
    · cases hq
      rename_i hi
      rw [ws_take_rep s n i (Nat.le_of_lt hi)]
    · cases hq
  have hndF : (([] : List Nat) ++ (cls mv o).flatMap fun t => own (.t t)).Nodup := by
    rw [List.nil_append]
    refine List.pairwise_flatMap.2 ⟨fun t _ => hR.nd _, List.Pairwise.imp (fun {x y} hxy b hb q hq e => ?_) hn⟩
    subst e
    exact hR.dj (.t x) (.t y) (fun e => hxy (by cases e; rfl)) b hb hq
  obtain ⟨cs', bs, k1, k2, k3, k4, k5⟩ := fill_rp (Θ := Θ) place (List.replicate n s) hpl (ps.toList.map fun p => (p.1, tkT c e S p.2)) _ _ (by simpa only [List.map_map, Function.comp_def] using hvs)
    (by
      intro p hp1
      obtain ⟨q, hq, rfl⟩ := List.mem_map.1 hp1
      obtain ⟨-, g1, x, g2, g3⟩ := hp q hq
      exact ⟨x, s, g2, by rw [List.getElem?_replicate, if_pos g1], g3⟩) (List.replicate n te.z) _ [] (rpS_rep hz n) (by rw [shs_rep, hzs]) hndF
  have hlen : (fillD (List.replicate n te.z) (ps.toList.map fun p => (p.1, tkT c e S p.2))).length = n := by
    have := congrArg List.length k3
    rwa [DD.shs_eq, List.length_map, List.length_replicate] at this
  have hshs : ∀ d ∈ fillD (List.replicate n te.z) (ps.toList.map fun p => (p.1, tkT c e S p.2)), d.sh = s := by
    intro d hd2
    have h1 : d.sh ∈ DD.shs (fillD (List.replicate n te.z) (ps.toList.map fun p => (p.1, tkT c e S p.2))) := by rw [DD.shs_eq]; exact List.mem_map_of_mem hd2
    rw [k3] at h1
    exact (List.mem_replicate.1 h1).2
  have hcl : cs'.length = n * s.w := by
    have := rpS.length _ _ _ k2
    rw [DD.shs_eq, Sh.ws_map _ hshs, hlen] at this
    exact this
  have hrun : (execOp a.eval o).run c.P w = .ok (.value (.slice (some ⟨w.heap.size, 0, none⟩) n n)) (w.alloc (.cells cs'.toArray e)) := by
    simp only [List.map_map, Function.comp_def] at k1
    have hzip : ((ps.toList.map fun x => x.1).zip (ps.toList.map fun x => a.eval x.2)) = (ps.map fun (i, x) => (i, a.eval x)).toList := by
      rw [List.zip_map', Array.toList_map]
    rw [hzip] at k1
    have hmf := made_flat' te.z te.zc hz n (by rw [hzs]; exact h0)
    rw [hzs] at hmf
    have h24' : ¬ n * ii.size > 2 ^ 24 := by rw [hi2]; omega
    unfold execOp
    simp only [ho, Go.Instr.buildSlice, Sem.run_bind, run_underlying hu, Result.andThen_ok]
    by_cases hn0 : n = 0
    · subst hn0
      simp at k1
      simp [sizeOf, typeInfo, hi1, hi2, newRow, Array.range_zero']
      rw [show (fun i : Nat => some (i * s.w, s.w)) = place from rfl, k1]
      simp
    · have hne : ¬ n * s.w = 0 := by
        have : 0 < n * s.w := Nat.mul_pos (by omega) h0
        omega
      have hlt : ¬ 16777216 < n * s.w := by omega
      have hne1 : ¬ s.w = 0 := by omega
      unfold madeCells at hmf
      simp only [Array.toList_map] at k1
      simp [sizeOf, typeInfo, hi1, hi2, newRow, hlt, zeroValue, hi4, hmf]
      rw [show (fun i : Nat => some (i * s.w, s.w)) = place from rfl, k1]
      simp
      intro q
      exact absurd q hne
  have hk5 : ∀ b ∈ bs, ∃ t ∈ cls mv o, b ∈ own (.t t) := fun b hb => by
    have := k5 b hb
    rw [List.nil_append] at this
    obtain ⟨t, ht2, q⟩ := List.mem_flatMap.1 this
    exact ⟨t, ht2, q⟩
  have hrow := row_new (w := w) (F := F) (s := s) (es := fillD (List.replicate n te.z) (ps.toList.map fun p => (p.1, tkT c e S p.2))) (xs := cs') (r := bs) (cap := n) (e := e) (arr := cs'.toArray) hshs h0 k2 (fun b hb => by obtain ⟨t, _, q⟩ := hk5 b hb; exact hR.lt _ b q) hR.top
    (by simp) (by rw [hlen]; exact Nat.le_refl _) (by
      have h1 : n * 1 ≤ n * s.w := Nat.mul_le_mul_left _ h0
      unfold maxLen; omega) (by simp [hcl])
  rw [hlen] at hrow
  obtain ⟨own', h3, h4⟩ := hR.fin o.dst hd (cls mv o) (.d (.sl true s (fillD (List.replicate n te.z) (ps.toList.map fun p => (p.1, tkT c e S p.2))))) (.slice (some ⟨w.heap.size, 0, none⟩) n n) (w.heap.size :: bs) (ks_new _ hR.top) (top_new hR.top)
    (by simp only [rv]; exact ⟨_, hrow, rfl⟩) (List.nodup_cons.2 ⟨fun h => by obtain ⟨t, _, q⟩ := hk5 _ h; have := hR.lt _ _ q; omega, k4⟩)
    (fun b hb => by
      rcases List.mem_cons.1 hb with rfl | hb
      · exact .inr (Nat.le_refl _)
      · exact .inl (hk5 b hb))
    (fun b hb => by
      have : (w.alloc (.cells cs'.toArray e)).heap.size = w.heap.size + 1 := by simp
      rw [this]
      rcases List.mem_cons.1 hb with rfl | hb
      · omega
      · obtain ⟨t, _, q⟩ := hk5 b hb; have := hR.lt _ b q; omega)
  refine ⟨_, _, _, Θ, own', .inl hrun, ?_, h4⟩
  unfold nx
  obtain ⟨sh, z, zc, by_, kd⟩ := ti
  simp only at hk
  subst hk
  simp only [ho, ht, hte]
  exact h3
theorem snd_append (hd : ∀ k, o.dst = some k → k < S.n) (T : Nat) (x y : Operand) (cl : Call) (ho : o.op = .call cl) (hcl : cl = { callee := .builtin .append, args := #[x, y], argTypes := #[T, T] }) (hn : (cls mv o).Nodup) (ti te : TI) (e : Nat) (s : Sh) (ht : c.ty T = some ti) (hk : ti.kd = .sl e s)
    (hte : c.ty e = some te) (hts : te.sh = s) (ox : okO c T x) (oy : okO c T y) (es ys : List DD) (ob : Bool) (s1 s2 : Sh) (hx : tkT c T S x = .d (.sl true s1 es)) (hy : tkT c T S y = .d (.sl ob s2 ys)) (h1 : s1 = s) (h2 : s2 = s)
    (hm : es.length + ys.length ≤ maxLen) (hby : (es.length + ys.length) * te.bytes ≤ 140737488355328) : Snd c o S (nx c mv o S) := by
  subst h1
  subst hcl
  intro w F Θ own a hR
  have hT := c.ok T ti ht
  have hE := c.ok e te hte
  obtain ⟨ii, hi1, hi2, hi3, hi4⟩ := hE.info
  have hkd := hT.kd
  rw [hk] at hkd
  obtain ⟨-, h0, hu, -⟩ := hkd
  have hvx := tk_rv hR ox
  have hvy := tk_rv hR oy
  rw [hx] at hvx
  rw [hy] at hvy
  simp only [rv] at hvx hvy
  obtain ⟨cx, hvx, ex⟩ := hvx
  obtain ⟨cy, hvy, ey⟩ := hvy
  rw [h2] at hvy hy
  have gx : ∃ vx, cx = [vx] ∧ a.eval x = vx := by
    have h := hvx
    simp only [rp] at h
    obtain ⟨-, -, a', cap, rfl, -⟩ := h
    exact ⟨_, rfl, ex⟩
  have gy : ∃ vy, cy = [vy] ∧ a.eval y = vy := by
    have h := hvy
    simp only [rp] at h
    obtain ⟨-, -, a', cap, rfl, -⟩ := h
    exact ⟨_, rfl, ey⟩
  obtain ⟨vx, rfl, ex'⟩ := gx
  obtain ⟨vy, rfl, ey'⟩ := gy
  have hcls : cls mv o = tmO x ++ tmO y := by unfold cls; rw [ho]; simp
  have hsub : ∀ b, b ∈ ((tmO x).flatMap fun t => own (.t t)) ++ ((tmO y).flatMap fun t => own (.t t)) → ∃ t ∈ cls mv o, b ∈ own (.t t) := fun b hb => by
    rw [← List.flatMap_append, ← hcls] at hb
    obtain ⟨t, ht2, q⟩ := List.mem_flatMap.1 hb
    exact ⟨t, ht2, q⟩
  have hnd : (((tmO x).flatMap fun t => own (.t t)) ++ ((tmO y).flatMap fun t => own (.t t))).Nodup := by
    rw [← List.flatMap_append, ← hcls]
    refine List.pairwise_flatMap.2 ⟨fun t _ => hR.nd _, List.Pairwise.imp (fun {x y} hxy b hb q hq e => ?_) hn⟩
    subst e
    exact hR.dj (.t x) (.t y) (fun e => hxy (by cases e; rfl)) b hb hq
  obtain ⟨v', w', F', bs, m1, m2, m3, m4, m5, m6, m7⟩ := append_rp (P := c.P) T o.type e ii te.z te.zc hu hi1 (by rw [hi2, hts]) hi4 hE.z (by rw [hE.zs, hts]) hvx hvy hnd (fun b hb => by obtain ⟨t, _, q⟩ := hsub b hb; exact hR.lt _ b q) hR.top hm (by rw [hi3]; exact hby)
  have hrun : (execOp a.eval o).run c.P w = .ok (.value v') w' := by
    unfold execOp
    simp only [ho, resolve, invoke, builtin, Sem.run_bind, Sem.run_pure, Result.andThen_ok, List.map_toArray, List.map_cons, List.map_nil, ex', ey', m1]
  obtain ⟨own', h3, h4⟩ := hR.fin o.dst hd (cls mv o) (.d (.sl true s1 (es ++ ys))) v' bs ⟨m3.os, m3.tape, m3.output, m3.size, m3.cell, m3.mono, fun b hb hne => m3.out b hb (fun h => hne (hsub b (by simp [h])))⟩ m7
    (by
      simp only [rv]
      refine ⟨[v'], m2, ?_⟩
      simp [DD.mk]) m4 (fun b hb => by rcases m5 b hb with h | h; exact .inl (hsub b h); exact .inr h) m6
  refine ⟨_, _, _, Θ, own', .inl hrun, ?_, h4⟩
  have hel : c.el T = s1 := by
    unfold Cx.el
    obtain ⟨sh, z, zc, by_, kd⟩ := ti
    simp only at hk
    subst hk
    simp only [ht]
  unfold nx
  rw [ho]
  simp only [List.map_cons, List.map_nil]
  have hT0 : (#[T, T] : Array TypeId).getD 0 0 = T := rfl
  simp only [hT0, hx, hy, hel]
  exact h3
theorem snd_make (hd : ∀ k, o.dst = some k → k < S.n) (T k : Nat) (x : Operand) (ho : o.op = .makeSlice T x x) (hk : o.dst = some k) (ti te : TI) (e : Nat) (s : Sh) (ht : c.ty T = some ti) (hkd : ti.kd = .sl e s) (hte : c.ty e = some te) (hts : te.sh = s)
    (ox : okO c 0 x) (q : IntKind) (n : Int) (hx : evT c 0 S x = .d (.lf (.int q n))) (h0 : 0 ≤ n) (hm : n ≤ 9223372036854775807) (hby : (te.bytes : Int) * n ≤ 281474976710656) (hn : hpg S.hp 0 k = none) (hne : 0 < S.hp.length) : Snd c o S (nx c mv o S) := by
  intro w F Θ own a hR
  have hT := c.ok T ti ht
  have hE := c.ok e te hte
  obtain ⟨ii, hi1, hi2, hi3, hi4⟩ := hE.info
  have hkd2 := hT.kd
  rw [hkd] at hkd2
  obtain ⟨-, hp, hu, -⟩ := hkd2
  obtain ⟨e1, -⟩ := lf_of hR hx ox
  have hz := hE.z w F
  have hzs := hE.zs
  rw [hts] at hzs hi2
  have hmf := made_flat' te.z te.zc hz n.toNat (by rw [hzs]; exact hp)
  rw [hzs] at hmf
  have hrun : (execOp a.eval o).run c.P w = .ok (.value (.slice (some ⟨w.heap.size, 0, none⟩) n.toNat n.toNat)) (w.alloc (.cells ((List.replicate n.toNat te.zc).flatten).toArray e)) := by
    have := run_make (P := c.P) w T e ii (te.z.mk te.zc) hu hi1 hi4 q q n n h0 (Int.le_refl _) (by rw [hi3]; exact hby) hm
    rw [hi2, hmf] at this
    unfold execOp
    simp [ho, e1, this]
  obtain ⟨own', h1, h2⟩ := hR.alloc k (hd k hk) hn hne [] (.d (.st (List.replicate n.toNat te.z))) ((List.replicate n.toNat te.zc).flatten) [] (.st (List.replicate n.toNat s)) e (by simp only [AV.csh, DD.sh, shs_rep, hzs]) (by simp only [rc, rp]; exact rpS_rep hz _) List.nodup_nil (by simp)
    (.rw 0 k n.toNat) (.slice (some ⟨w.heap.size, 0, none⟩) n.toNat n.toNat)
    (by simp only [rv]; exact ⟨trivial, w.heap.size, s, by unfold tset; rw [if_pos ⟨rfl, rfl⟩], rfl, hp, by unfold maxLen; omega⟩)
  refine ⟨_, _, F, _, own', .inl hrun, ?_, h2⟩
  unfold nx
  obtain ⟨sh, z, zc, by_, kd⟩ := ti
  simp only at hkd
  subst hkd
  simp only [ho, hk, ht, hx, hte]
  exact h1
end
end Go.Proofs.YtkmiecgcibjkbaaGreat
