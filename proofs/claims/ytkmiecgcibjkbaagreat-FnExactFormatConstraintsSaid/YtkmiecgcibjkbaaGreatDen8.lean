/- Den8: the operations that make or turn memory are sound. No condition. -/
import Derived.Test.YtkmiecgcibjkbaaGreatDen7
namespace Go.Proofs.YtkmiecgcibjkbaaGreat
open Go.RowKit
/-- what lies in a variable, from a path on -/
def rdA (cn : AV) (p : List Nat) : AV := match cn with
  | .d y => .d (getP y p)
  | c => c
def wrA (cn : AV) (p : List Nat) (x : AV) : AV := match cn, x, p with
  | .d y, .d z, p => .d (setP y p z)
  | _, x, _ => x
def ldX (mv : Bool) (S : St) (lv k : Nat) (p : List Nat) (cn : AV) : AV × HP :=
  bif mv then (rdA cn p, hps S.hp lv k (some (wrA cn p (rdA cn p).vw))) else ((rdA cn p).vw, S.hp)
def nx (c : Cx) (mv : List Nat) (o : Oper) (S : St) : St := match o.op with
  | .alloc T => match o.dst, c.ty T with
    | some k, some ti => ⟨S.n, upd S.tm k (.pt 0 k []), hps S.hp 0 k (some (.d ti.z))⟩
    | _, _ => S
  | .box T x => match o.dst with
    | some k => ⟨S.n, upd (clrs S.tm (tmO x)) k (.pt 0 k []), hps S.hp 0 k (some (tkT c T S x))⟩
    | none => S
  | .load _ x => match evT c 0 S x with
    | .pt lv k p => match hpg S.hp lv k with
      | some cn => ⟨S.n, putF S.tm o.dst (ldX (mvB mv o.dst) S lv k p cn).1, (ldX (mvB mv o.dst) S lv k p cn).2⟩
      | none => S
    | .el y => ⟨S.n, putF S.tm o.dst (.d y), S.hp⟩
    | _ => S
  | .store T x v => match evT c 0 S x with
    | .pt lv k p => match hpg S.hp lv k with
      | some cn => ⟨S.n, putF (clrs S.tm (tmO v)) o.dst .un, hps S.hp lv k (some (wrA cn p (tkT c T S v)))⟩
      | none => S
    | _ => S
  | .buildSlice T n ps => match c.ty T with
    | some { kd := .sl e s, .. } => match c.ty e with
      | some te => ⟨S.n, putF (clrs S.tm (cls mv o)) o.dst (.d (.sl true s (fillD (List.replicate n te.z) (ps.toList.map fun p => (p.1, tkT c e S p.2))))), S.hp⟩
      | none => S
    | _ => S
  | .call { callee := .builtin .append, args, argTypes } => match args.toList.map (tkT c (argTypes.getD 0 0) S) with
    | [.d (.sl _ _ es), .d (.sl _ _ ys)] => ⟨S.n, putF (clrs S.tm (cls mv o)) o.dst (.d (.sl true (c.el (argTypes.getD 0 0)) (es ++ ys))), S.hp⟩
    | _ => S
  | .makeSlice T l _ => match o.dst, c.ty T, evT c 0 S l with
    | some k, some { kd := .sl e _, .. }, .d (.lf (.int _ n)) => match c.ty e with
      | some te => ⟨S.n, upd S.tm k (.rw 0 k n.toNat), hps S.hp 0 k (some (.d (.st (List.replicate n.toNat te.z))))⟩
      | none => S
    | _, _, _ => S
  | _ => nxP c mv o S
theorem offP_nil : ∀ s : Sh, offP s [] = some 0
  | .one => rfl
  | .st _ => rfl
section
variable {c : Cx} {mv : List Nat} {o : Oper} {S : St} {w : World} {F : Nat → Nat} {Θ : Ty} {own : Who → List Nat} {a : Act}
theorem agg_run {T : Nat} {ti : TI} (h : TyOk c.P T ti) : (isAgg T).run c.P w = .ok (match ti.sh with | .st _ => true | .one => false) w := by
  have hk := h.kd
  unfold isAgg
  cases hq : ti.kd <;> rw [hq] at hk <;> simp only [KdOk] at hk
  · obtain ⟨h1, d, h2, h3, h4⟩ := hk
    rw [h1, Sem.run_bind, run_underlying h2]
    cases d <;> first | rfl | exact absurd rfl (h3 _) | exact absurd rfl (h4 _ _)
  · rw [hk.1, Sem.run_bind, run_underlying hk.2]; rfl
  · rw [hk.1, Sem.run_bind, run_underlying hk.2]; rfl
  · rw [hk.1, Sem.run_bind, run_underlying hk.2]; rfl
  · rw [hk.1, Sem.run_bind, run_underlying hk.2.2.1]; rfl
  · obtain ⟨h1, fs, h2, -⟩ := hk
    rw [h1, Sem.run_bind, run_underlying h2]; rfl
theorem loadVar_run {T : Nat} {ti : TI} (h : TyOk c.P T ti) {b off : Nat} {ce : List Value} {e : DD} {be : List Nat} (hc : Cells w b off ce) (hr : rp w F e ce be) (hs : e.sh = ti.sh) : (loadVar T ⟨b, off, none⟩).run c.P w = .ok (e.mk ce) w := by
  have hl := rp.length _ _ _ hr
  obtain ⟨i, hi1, hi2, -⟩ := h.info
  have hld : (loadCells ⟨b, off, none⟩ ce.length).run c.P w = .ok ce.toArray w := run_loadCells_list (P := c.P) w ⟨b, off, none⟩ ce (fun j v hv => by rw [Addr.add_lit]; exact hc j v hv)
  unfold loadVar
  rw [Sem.run_bind, agg_run h]
  cases e with
  | st fs =>
    simp only [DD.sh] at hs
    rw [← hs]
    rw [← hs] at hi2
    have : i.size = ce.length := by rw [hi2, hl]; rfl
    simp [sizeOf, typeInfo, hi1, this, hld, DD.mk]
  | lf v =>
    simp only [DD.sh] at hs
    rw [← hs]
    simp only [rp] at hr
    obtain ⟨rfl, -⟩ := hr
    have := hc 0 v rfl
    simp only [Nat.add_zero] at this
    simp [load, Sem.run, this, DD.mk]
  | sl o s es =>
    simp only [DD.sh] at hs
    rw [← hs]
    have hr' := hr
    simp only [rp] at hr'
    obtain ⟨-, -, a', cap, rfl, -⟩ := hr'
    have := hc 0 _ rfl
    simp only [Nat.add_zero] at this
    simp [load, Sem.run, this, DD.mk]
theorem storeVar_run {T : Nat} {ti : TI} (h : TyOk c.P T ti) {b off : Nat} {cx : List Value} (v : Value) (hv : v.cells = cx.toArray) (hl : cx.length = ti.sh.w) (h1 : ∀ u ∈ cx, u.oneCell' = true) {cur : Array Value} {t : TypeId} (hg : w.heap[b]? = some (.cells cur t (0, 0))) (hf : off + cx.length ≤ cur.size) :
    (storeVar T ⟨b, off, none⟩ v).run c.P w = .ok () (w.setRow b (cur.toList.take off ++ cx ++ cur.toList.drop (off + cx.length)).toArray) := by
  obtain ⟨i, hi1, hi2, -⟩ := h.info
  have hst := run_storeCells_at c.P b off t cx 0 cur w hg (by simpa using hf) h1
  simp only [Nat.add_zero] at hst
  have : i.size = cx.length := by rw [hi2, hl]
  simp [storeVar, sizeOf, typeInfo, hi1, this, hv, hst]
theorem snd_alloc (hd : ∀ k, o.dst = some k → k < S.n) (T k : Nat) (ho : o.op = .alloc T) (hk : o.dst = some k) (ti : TI) (ht : c.ty T = some ti) (hn : hpg S.hp 0 k = none) (hne : 0 < S.hp.length) : Snd c o S (nx c mv o S) := by
  intro w F Θ own a hR
  have hT := c.ok T ti ht
  obtain ⟨i, hi1, hi2, hi3, hi4⟩ := hT.info
  have hz := hT.z w F
  have hrun : (execOp a.eval o).run c.P w = .ok (.value (.pointer (some ⟨w.heap.size, 0, none⟩))) (w.alloc (.cells ti.zc.toArray T)) := by
    unfold execOp
    have hc := mk_cells hz
    simp [ho, Go.Instr.alloc, zeroValue, typeInfo, hi1, hi4, newVar, newRow, hc]
  obtain ⟨own', h1, h2⟩ := hR.alloc k (hd k hk) hn hne [] (.d ti.z) ti.zc [] ti.sh T (by simp only [AV.csh, hT.zs]) (by simpa only [rc] using hz) List.nodup_nil (by simp) (.pt 0 k []) (.pointer (some ⟨w.heap.size, 0, none⟩))
    (by simp only [rv]; exact ⟨trivial, w.heap.size, ti.sh, 0, by unfold tset; rw [if_pos ⟨rfl, rfl⟩], offP_nil _, rfl⟩)
  refine ⟨_, _, F, _, own', .inl hrun, ?_, h2⟩
  unfold nx
  simp only [ho, hk, ht]
  exact h1
theorem rc_of_rv {cn : AV} {v : Value} {bs : List Nat} {s : Sh} (h : rv w F Θ cn v bs) (hs : cn.csh = some s) : ∃ cs, rc w F Θ cn cs bs ∧ v.cells = cs.toArray ∧ cs.length = s.w ∧ ∀ u ∈ cs, u.oneCell' = true := by
  cases cn with
  | un => simp [AV.csh] at hs
  | tp l => simp [AV.csh] at hs
  | d x =>
    simp only [AV.csh, Option.some.injEq] at hs
    subst hs
    simp only [rv] at h
    obtain ⟨cs, h1, rfl⟩ := h
    exact ⟨cs, by simpa only [rc] using h1, mk_cells h1, rp.length _ _ _ h1, rp.one _ _ _ h1⟩
  | pt lv k p =>
    simp only [AV.csh, Option.some.injEq] at hs
    subst hs
    have h' := h
    simp only [rv] at h'
    obtain ⟨-, b, s, off, -, -, rfl⟩ := h'
    exact ⟨[_], by simp only [rc]; exact ⟨_, rfl, rfl, h⟩, rfl, rfl, by simp [Value.oneCell']⟩
  | el x =>
    simp only [AV.csh, Option.some.injEq] at hs
    subst hs
    have h' := h
    simp only [rv] at h'
    obtain ⟨-, b, off, cs, rfl, -⟩ := h'
    exact ⟨[_], by simp only [rc]; exact ⟨_, rfl, rfl, h⟩, rfl, rfl, by simp [Value.oneCell']⟩
  | rw lv k n =>
    simp only [AV.csh, Option.some.injEq] at hs
    subst hs
    have h' := h
    simp only [rv] at h'
    obtain ⟨-, b, s, -, rfl, -⟩ := h'
    exact ⟨[_], by simp only [rc]; exact ⟨_, rfl, rfl, h⟩, rfl, rfl, by simp [Value.oneCell']⟩
  | fn f k =>
    simp only [AV.csh, Option.some.injEq] at hs
    subst hs
    have h' := h
    simp only [rv] at h'
    obtain ⟨vs, rfl, -⟩ := h'
    exact ⟨[_], by simp only [rc]; exact ⟨_, rfl, rfl, h⟩, rfl, rfl, by simp [Value.oneCell']⟩
theorem snd_box (hd : ∀ k, o.dst = some k → k < S.n) (T k : Nat) (x : Operand) (ho : o.op = .box T x) (hk : o.dst = some k) (ox : okO c T x) (s : Sh) (hs : (tkT c T S x).csh = some s) (hn : hpg S.hp 0 k = none) (hne : 0 < S.hp.length) : Snd c o S (nx c mv o S) := by
  intro w F Θ own a hR
  have hv := tk_rv hR ox
  obtain ⟨cs, h1, h2, h3, h4⟩ := rc_of_rv hv hs
  have hrun : (execOp a.eval o).run c.P w = .ok (.value (.pointer (some ⟨w.heap.size, 0, none⟩))) (w.alloc (.cells cs.toArray T)) := by
    unfold execOp
    simp [ho, Go.Instr.box, newVar, newRow, h2]
  obtain ⟨own', g1, g2⟩ := hR.alloc k (hd k hk) hn hne (tmO x) (tkT c T S x) cs _ s T hs h1 (by
      refine List.pairwise_flatMap.2 ⟨fun t _ => hR.nd _, ?_⟩
      cases x <;> simp [tmO]) (fun b hb => by obtain ⟨t, ht, q⟩ := List.mem_flatMap.1 hb; exact ⟨t, ht, q⟩) (.pt 0 k []) (.pointer (some ⟨w.heap.size, 0, none⟩))
    (by simp only [rv]; exact ⟨trivial, w.heap.size, s, 0, by unfold tset; rw [if_pos ⟨rfl, rfl⟩], offP_nil _, rfl⟩)
  refine ⟨_, _, F, _, own', .inl hrun, ?_, g2⟩
  unfold nx
  simp only [ho, hk]
  exact g1
/-- a part of a variable is read -/
theorem rd_focus {cn : AV} {cs : List Value} {bs : List Nat} (h : rc w F Θ cn cs bs) {s : Sh} (hs : cn.csh = some s) {p : List Nat} {off : Nat} (ho : offP s p = some off) {T : Nat} {ti : TI} (hT : TyOk c.P T ti) (hr : (rdA cn p).csh = some ti.sh) :
    ∃ c1 ce c2 be v, cs = c1 ++ (ce ++ c2) ∧ c1.length = off ∧ ce.length = ti.sh.w ∧ (∀ x ∈ be, x ∈ bs) ∧ rv w F Θ (rdA cn p) v be ∧ ∀ b, Cells w b off ce → (loadVar T ⟨b, off, none⟩).run c.P w = .ok v w := by
  have nonD : (∀ y, cn ≠ .d y) → rdA cn p = cn → ∃ c1 ce c2 be v, cs = c1 ++ (ce ++ c2) ∧ c1.length = off ∧ ce.length = ti.sh.w ∧ (∀ x ∈ be, x ∈ bs) ∧ rv w F Θ (rdA cn p) v be ∧ ∀ b, Cells w b off ce → (loadVar T ⟨b, off, none⟩).run c.P w = .ok v w := by
    intro hd he
    have hs1 : s = .one := by
      cases cn <;> simp [AV.csh] at hs <;> first | exact hs.symm | exact absurd rfl (hd _)
    rw [he] at hr
    have hts : ti.sh = .one := by rw [hs] at hr; simp only [Option.some.injEq] at hr; rw [← hr, hs1]
    subst hs1
    have hp : p = [] := by
      cases p with
      | nil => rfl
      | cons i p => simp [offP] at ho
    subst hp
    simp only [offP, Option.some.injEq] at ho
    subst ho
    have hv : ∃ v, cs = [v] ∧ rv w F Θ cn v bs := by
      cases cn <;> simp only [rc] at h <;> first | exact h.elim | exact absurd rfl (hd _) | (obtain ⟨v, h1, -, h3⟩ := h; exact ⟨v, h1, h3⟩)
    obtain ⟨v, hcv, hv⟩ := hv
    refine ⟨[], cs, [], bs, v, by simp, rfl, by rw [hcv, hts]; rfl, fun _ q => q, by rw [he]; exact hv, fun b hc => ?_⟩
    subst hcv
    have := hc 0 v rfl
    simp only [Nat.add_zero] at this
    unfold loadVar
    rw [Sem.run_bind, agg_run hT, hts]
    simp [load, Sem.run, this]
  cases cn with
  | un => simp [AV.csh] at hs
  | tp l => simp [AV.csh] at hs
  | pt _ _ _ => exact nonD (by simp) rfl
  | el _ => exact nonD (by simp) rfl
  | rw _ _ _ => exact nonD (by simp) rfl
  | fn _ _ => exact nonD (by simp) rfl
  | d y =>
    simp only [AV.csh, Option.some.injEq] at hs
    subst hs
    simp only [rc] at h
    obtain ⟨c1, ce, c2, b1, be, b2, rfl, rfl, g1, g2, g3⟩ := rp.focus p y cs bs h off ho
    simp only [rdA, AV.csh, Option.some.injEq] at hr
    have hce := rp.length _ _ _ g2
    exact ⟨c1, ce, c2, be, (getP y p).mk ce, rfl, g1, by rw [hce, hr], fun x hx => by simp [hx], by simp only [rdA, rv]; exact ⟨ce, g2, rfl⟩, fun b hc => loadVar_run hT hc g2 hr⟩
/-- a part of a variable is replaced -/
theorem wr_focus {cn x : AV} {cs cx : List Value} {bs bx : List Nat} (h : rc w F Θ cn cs bs) (hx : rc w F Θ x cx bx) {s s' : Sh} (hs : cn.csh = some s) {p : List Nat} {off : Nat} (ho : offP s p = some off) (hr : (rdA cn p).csh = some s') (hxs : x.csh = some s') (hl : cx.length = s'.w) (hcl : cs.length = s.w)
    (hcase : (∃ y z, cn = .d y ∧ x = .d z) ∨ p = []) (hn : (bs ++ bx).Nodup) :
    ∃ bs', rc w F Θ (wrA cn p x) (cs.take off ++ (cx ++ cs.drop (off + cx.length))) bs' ∧ (wrA cn p x).csh = some s ∧ off + cx.length ≤ cs.length ∧ bs'.Nodup ∧ ∀ b ∈ bs', b ∈ bs ∨ b ∈ bx := by
  by_cases hp : p = []
  · subst hp
    simp only [offP_nil, Option.some.injEq] at ho
    subst ho
    have hw : wrA cn [] x = x := by cases cn <;> cases x <;> simp [wrA, setP]
    have hrd : (rdA cn []).csh = cn.csh := by cases cn <;> simp [rdA, getP]
    rw [hrd, hs] at hr
    cases hr
    rw [hw]
    refine ⟨bx, ?_, hxs, by omega, (List.nodup_append.1 hn).2.1, fun b hb => .inr hb⟩
    rw [hl, ← hcl]
    simpa using hx
  · obtain ⟨y, z, rfl, rfl⟩ := hcase.resolve_right hp
    simp only [AV.csh, Option.some.injEq] at hs
    subst hs
    simp only [rc] at h hx
    obtain ⟨c1, ce, c2, b1, be, b2, rfl, rfl, g1, g2, g3⟩ := rp.focus p y cs bs h off ho
    simp only [rdA, AV.csh, Option.some.injEq] at hr hxs
    have hce := rp.length _ _ _ g2
    have hcx := rp.length _ _ _ hx
    have hcc : cx.length = ce.length := by rw [hcx, hce, hxs, hr]
    obtain ⟨k1, k2⟩ := g3 z cx bx (by rw [hxs, hr]) hx
    have e1 : (c1 ++ (ce ++ c2)).take off = c1 := by rw [← g1]; exact List.take_left
    have e2 : (c1 ++ (ce ++ c2)).drop (off + cx.length) = c2 := by
      rw [show off + cx.length = c1.length + ce.length by omega, ← List.append_assoc, ← List.length_append]
      exact List.drop_left
    refine ⟨b1 ++ (bx ++ b2), by rw [e1, e2]; simpa only [wrA, rc] using k1, by simp only [wrA, AV.csh, k2], by simp only [List.length_append]; omega, ?_, fun b hb => ?_⟩
    · have hp1 : (b1 ++ (bx ++ b2)).Perm (b1 ++ b2 ++ bx) := by
        rw [List.append_assoc]
        exact List.Perm.append_left b1 List.perm_append_comm
      refine hp1.nodup_iff.2 (List.Nodup.sublist ?_ hn)
      exact List.Sublist.append (List.Sublist.append (List.Sublist.refl _) (List.sublist_append_right be b2)) (List.Sublist.refl _)
    · simp only [List.mem_append] at hb ⊢
      rcases hb with h | h | h
      · exact .inl (.inl h)
      · exact .inr h
      · exact .inl (.inr (.inr h))
theorem snd_load (hd : ∀ k, o.dst = some k → k < S.n) (T : Nat) (x : Operand) (ho : o.op = .load T x) (ti : TI) (ht : c.ty T = some ti) (ox : okO c 0 x) (lv k : Nat) (p : List Nat) (hx : evT c 0 S x = .pt lv k p) (cn : AV) (hc : hpg S.hp lv k = some cn)
    (hr : (rdA cn p).csh = some ti.sh) (hm : mvB mv o.dst = true → ∃ y, cn = .d y) : Snd c o S (nx c mv o S) := by
  intro w F Θ own a hR
  have hT := c.ok T ti ht
  have hv := ev_rv hR ox
  rw [hx] at hv
  simp only [rv] at hv
  obtain ⟨-, b, s, off, e1, e2, e3⟩ := hv
  obtain ⟨b', s', cur, t, z1, z2, z3, z4, z5, z6⟩ := hR.hs lv k cn hc
  rw [e1] at z1
  cases z1
  obtain ⟨c1, ce, c2, be, v, q1, q2, q3, q4, q5, q6⟩ := rd_focus z6 z4 e2 hT hr
  have hcells : Cells w b off ce := by
    intro j u hu
    have hj := (List.getElem?_eq_some_iff.1 hu).1
    rw [cell_of_row w b _ cur t (0, 0) z5]
    have : cur.toList[off + j]? = some u := by
      rw [q1, List.getElem?_append_right (by omega), show off + j - c1.length = j by omega, List.getElem?_append_left hj]; exact hu
    simpa using this
  have hrun : (execOp a.eval o).run c.P w = .ok (.value v) w := by
    unfold execOp
    simp [ho, e3, Go.Instr.loadAt, Go.Instr.sureAddr, q6 b hcells]
  have hnx : nx c mv o S = ⟨S.n, putF S.tm o.dst (ldX (mvB mv o.dst) S lv k p cn).1, (ldX (mvB mv o.dst) S lv k p cn).2⟩ := by
    unfold nx
    simp only [ho, hx, hc]
  rw [hnx]
  cases hmv : mvB mv o.dst with
  | false =>
    obtain ⟨own', h3, h4⟩ := hR.pure o.dst hd [] List.nodup_nil (rdA cn p).vw v (by simpa using rv.view _ _ _ q5)
    exact ⟨v, w, F, Θ, own', .inl hrun, h3, h4⟩
  | true =>
    obtain ⟨y, rfl⟩ := hm hmv
    simp only [rdA] at hr q5 ⊢
    simp only [rc] at z6
    simp only [AV.csh, Option.some.injEq] at z4 hr
    subst z4
    obtain ⟨d1, de, d2, b1, bb, b2, m1, m2, m3, m4, m5⟩ := rp.focus p y cur.toList (own (.h lv k)) z6 off e2
    obtain ⟨n1, n2⟩ := m5 (getP y p).vw de [] (DD.sh_vw _) (rp.view _ _ _ m4)
    have hde := rp.length _ _ _ m4
    rw [← m1] at n1
    have hq : de = ce := by
      have h1 : cur.toList.drop off = de ++ d2 := by rw [m1, ← m3]; exact List.drop_left
      have h2 : cur.toList.drop off = ce ++ c2 := by rw [q1, ← q2]; exact List.drop_left
      rw [h1] at h2
      exact (List.append_inj h2 (by rw [hde, q3, hr])).1
    subst hq
    have hnd : (b1 ++ (bb ++ b2)).Nodup := m2 ▸ hR.nd (.h lv k)
    have hks : Ks w F w F (fun x => x = b) := Ks.refl _ _ _
    have hv2 : v = (getP y p).mk de := by
      have h1 := q6 b hcells
      have h2 := loadVar_run hT hcells m4 hr
      rw [h1] at h2
      simpa using h2
    obtain ⟨own', h3, h4⟩ := hR.set o.dst hd lv k (.d y) (.d (setP y p (getP y p).vw)) hc [] b y.sh e1 cur.toList t (b1 ++ ([] ++ b2)) bb (by simp only [AV.csh, n2]) (by simpa only [rc] using n1) (by simpa using z5) hks rfl (.d (getP y p)) v
      (by simp only [rv]; exact ⟨de, m4, hv2⟩) (by
        have hp1 : (b1 ++ ([] ++ b2) ++ bb).Perm (b1 ++ (bb ++ b2)) := by
          simp only [List.nil_append, List.append_assoc]
          exact List.Perm.append_left b1 List.perm_append_comm
        exact hp1.nodup_iff.2 hnd) (fun z hz => .inl (by rw [m2]; simp only [List.nil_append, List.mem_append] at hz ⊢; rcases hz with (h | h) | h <;> simp [h]))
    refine ⟨v, w, F, Θ, own', .inl hrun, ?_, h4⟩
    simp only [clrs] at h3
    simpa only [ldX, cond_true, rdA, AV.vw, wrA] using h3
theorem snd_loadEl (hd : ∀ k, o.dst = some k → k < S.n) (T : Nat) (x : Operand) (ho : o.op = .load T x) (ti : TI) (ht : c.ty T = some ti) (ox : okO c 0 x) (y : DD) (hx : evT c 0 S x = .el y) (hr : y.sh = ti.sh) : Snd c o S (nx c mv o S) := by
  intro w F Θ own a hR
  have hT := c.ok T ti ht
  have hv := ev_rv hR ox
  rw [hx] at hv
  simp only [rv] at hv
  obtain ⟨-, b, off, cs, e1, e2, e3, e4⟩ := hv
  have hrun : (execOp a.eval o).run c.P w = .ok (.value (y.mk cs)) w := by
    unfold execOp
    simp [ho, e1, Go.Instr.loadAt, Go.Instr.sureAddr, loadVar_run hT e2 e3 hr]
  obtain ⟨own', h3, h4⟩ := hR.pure o.dst hd [] List.nodup_nil (.d y) (y.mk cs) (by simp only [List.flatMap_nil, rv]; exact ⟨cs, e3, rfl⟩)
  refine ⟨_, w, F, Θ, own', .inl hrun, ?_, h4⟩
  unfold nx
  simp only [ho, hx]
  exact h3
theorem snd_store (hd : ∀ k, o.dst = some k → k < S.n) (T : Nat) (x y : Operand) (ho : o.op = .store T x y) (ti : TI) (ht : c.ty T = some ti) (ox : okO c 0 x) (oy : okO c T y) (lv k : Nat) (p : List Nat) (hx : evT c 0 S x = .pt lv k p) (cn : AV) (hc : hpg S.hp lv k = some cn)
    (hr : (rdA cn p).csh = some ti.sh) (hy : (tkT c T S y).csh = some ti.sh) (hcase : (∃ u z, cn = .d u ∧ tkT c T S y = .d z) ∨ p = []) : Snd c o S (nx c mv o S) := by
  intro w F Θ own a hR
  have hT := c.ok T ti ht
  have hv := ev_rv hR ox
  rw [hx] at hv
  simp only [rv] at hv
  obtain ⟨-, b, s, off, e1, e2, e3⟩ := hv
  obtain ⟨b', s', cur, t, z1, z2, z3, z4, z5, z6⟩ := hR.hs lv k cn hc
  rw [e1] at z1
  cases z1
  have hyv := tk_rv hR oy
  obtain ⟨cx, g1, g2, g3, g4⟩ := rc_of_rv hyv hy
  have hlen : cur.toList.length = s.w := by
    have : ∀ {cn : AV} {cs : List Value} {bs : List Nat}, rc w F Θ cn cs bs → cn.csh = some s → cs.length = s.w := by
      intro cn cs bs h1 h2
      cases cn <;> simp only [rc] at h1 <;> simp only [AV.csh, Option.some.injEq] at h2 <;> first | exact h1.elim | (subst h2; exact rp.length _ _ _ h1) | (subst h2; obtain ⟨v, rfl, -⟩ := h1; rfl)
    exact this z6 z4
  have hbo : ∀ x, x ≠ .l lv k → b ∉ own x := fun x hx hb => hR.dj (.l lv k) x (Ne.symm hx) b (by rw [z2]; simp) hb
  let arr := (cur.toList.take off ++ cx ++ cur.toList.drop (off + cx.length))
  have hks : Ks w F (w.setRow b arr.toArray) F (fun x => x = b) := ks_local z5 z3
  have kph := hks.kp (hR.lt (.h lv k)) (fun q hq e => hbo _ (by simp) (e ▸ hq))
  have kpy : Kp w F (w.setRow b arr.toArray) F ((tmO y).flatMap fun t => own (.t t)) := hks.kp (fun q hq => by obtain ⟨t, _, h⟩ := List.mem_flatMap.1 hq; exact hR.lt _ q h) (fun q hq e => by obtain ⟨t, _, h⟩ := List.mem_flatMap.1 hq; exact hbo (.t t) (by simp) (e ▸ h))
  have hTt : ∀ lv q (x : Nat × Sh), Θ lv q = some x → Θ lv q = some x := fun _ _ _ q => q
  have hyn : ((tmO y).flatMap fun t => own (.t t)).Nodup := by
    refine List.pairwise_flatMap.2 ⟨fun t _ => hR.nd _, ?_⟩
    cases y <;> simp [tmO]
  have hnn : (own (.h lv k) ++ (tmO y).flatMap fun t => own (.t t)).Nodup := by
    refine List.nodup_append.2 ⟨hR.nd _, hyn, fun q hq r hr e => ?_⟩
    subst e
    obtain ⟨t, _, h⟩ := List.mem_flatMap.1 hr
    exact hR.dj (.h lv k) (.t t) (by simp) q hq h
  obtain ⟨bs', k1, k2, k3, k4, k5⟩ := wr_focus (rc.keep hTt _ _ _ z6 kph) (rc.keep hTt _ _ _ g1 kpy) z4 e2 hr hy g3 hlen hcase hnn
  have hrun : (execOp a.eval o).run c.P w = .ok .skip (w.setRow b arr.toArray) := by
    unfold execOp
    have := storeVar_run (c := c) hT (a.eval y) g2 g3 g4 z5 (off := off) (by simpa using k3)
    simp only [ho, e3, Go.Instr.storeAt, Go.Instr.sureAddr, Sem.run_bind, Sem.run_pure, Result.andThen_ok, this]
    rfl
  have harr : (cur.toList.take off ++ (cx ++ cur.toList.drop (off + cx.length))) = arr := by show _ = _ ++ _ ++ _; rw [List.append_assoc]
  rw [harr] at k1
  obtain ⟨own', h3, h4⟩ := hR.set o.dst hd lv k cn (wrA cn p (tkT c T S y)) hc (tmO y) b s e1 arr t bs' [] k2 k1 (setRow_heap w b cur _ t (0, 0) z5) hks (by simp) .un undef (by simp only [rv]) (by simpa using k4)
    (fun q hq => by
      rcases k5 q (by simpa using hq) with h | h
      · exact .inl h
      · obtain ⟨t, ht, h⟩ := List.mem_flatMap.1 h
        exact .inr ⟨t, ht, h⟩)
  refine ⟨undef, _, F, Θ, own', .inr ⟨rfl, hrun⟩, ?_, h4⟩
  unfold nx
  simp only [ho, hx, hc]
  exact h3
end
end Go.Proofs.YtkmiecgcibjkbaaGreat
