/- Den29: arrays; Den30: loads of callers' variables in regions that draw; Den31: what every value that lies in a world keeps to; sizes counted down; Den32: the rules again, in short forms (wip/gen/short.py turns the printed texts into them). No condition but sizes. -/
import Derived.Test.YtdooklofebdknaaGreatM19
namespace Go.Proofs.YtdooklofebdknaaGreat
open Go.RowKit
/-- an operation whose value needs no memory of its own -/
theorem WL.opVal {c : Cx} {ops : Array Oper} {o : Oper} {l : List Oper} {S : St} {K : St → Prop} (hg : o.guard = none) {k0 : Nat} (hd : o.dst = some k0) (hk : k0 < S.n) (r : AV)
  (h : ∀ (w : World) (F : Nat → Nat) (Θ : Ty) (own : Who → List Nat) (a : Act), Rel w F Θ own S a → ∃ v, (execOp a.eval o).run c.P w = .ok (.value v) w ∧ rv w F Θ r v [])
  {S1 : St} (e : (⟨S.n, upd S.tm k0 r, S.hp⟩ : St) = S1) (k : WL c ops l S1 K) : WL c ops (o :: l) S K := fun is hi => by
 subst e
 cases is with
 | nil => simp at hi
 | cons i is =>
  simp only [List.map_cons, List.cons.injEq] at hi
  intro w F Θ own a hR Q hQ
  simp only [wpOps, hi.1]
  obtain ⟨v, hrun, hv⟩ := h w F Θ own a hR
  have hw : Region.wanted o (yielded ops a.tmps) = true := wnt_spec (c := c) hR (by unfold wnt; rw [hg])
  rw [if_pos hw]
  obtain ⟨own', hR2, hS2⟩ := Rel.fin hR o.dst (fun q hq => by rw [hd] at hq; cases hq; exact hk) [] r v [] (Ks.refl _ _ _) hR.top hv List.nodup_nil (by simp) (by simp)
  have e3 : (⟨S.n, putF (clrs S.tm []) o.dst r, S.hp⟩ : St) = ⟨S.n, upd S.tm k0 r, S.hp⟩ := by rw [hd]; rfl
  rw [e3] at hR2
  refine .inl ?_
  unfold Oper.wp
  rw [hrun]
  exact k is hi.2 w F Θ own' _ hR2 Q fun S' a' w' F' Θ' own'' g1 g2 g3 => hQ S' a' w' F' Θ' own'' g1 g2 (hS2.trans g3)
/-- the address of an entry of an array -/
theorem WL.opArr {c : Cx} {ops : Array Oper} {o : Oper} {l : List Oper} {S : St} {K : St → Prop} (hg : o.guard = none) {k0 : Nat} (hd : o.dst = some k0) (hk : k0 < S.n) (T : Nat) (x i : Operand) (ho : o.op = .indexAddr T x i)
  {ti : TI} {n e : Nat} {s' : Sh} (ht : c.ty T = some ti) (hkd : ti.kd = .ar n e s') {lv k : Nat} {p : List Nat} (hx : evT c T S x = .pt lv k p) (ox : okO c T x) {ki : IntKind} (j : Nat) (hi : evT c 0 S i = .d (.lf (.int ki (j : Int)))) (oi : okO c 0 i) (hj : j < n)
  {cn : AV} (hc : hpg S.hp lv k = some cn) {s : Sh} (hs : cn.csh = some s) (hp : ∀ off, offP s p = some off → offP s (p ++ [j]) = some (off + j * s'.w)) {S1 : St} (e1 : (⟨S.n, upd S.tm k0 (.pt lv k (p ++ [j])), S.hp⟩ : St) = S1) (kk : WL c ops l S1 K) : WL c ops (o :: l) S K :=
 WL.opVal hg hd hk (.pt lv k (p ++ [j])) (fun w F Θ own a hR => by
  have hv := ev_rv (T := T) hR ox
  rw [hx] at hv
  simp only [rv] at hv
  obtain ⟨-, b, s2, off, q1, q2, q3⟩ := hv
  obtain ⟨q4, -⟩ := lf_of hR hi oi
  have hkk := (c.ok T ti ht).kd
  rw [hkd] at hkk
  obtain ⟨-, hn, -, hu, jn, hj1, hj2⟩ := hkk
  obtain ⟨b', s3, cur, t, r1, -, -, r2, -⟩ := hR.hs lv k cn hc
  rw [hs] at r2
  cases r2
  rw [q1] at r1
  cases r1
  refine ⟨.pointer (some ⟨b, off + j * s'.w, none⟩), ?_, ?_⟩
  ·unfold execOp
   have hlt : 0 ≤ (j : Int) ∧ (j : Int) < (n : Int) := ⟨by omega, by omega⟩
   simp [ho, q3, q4, Go.Instr.indexAt, asIntOf, run_underlying hu, hlt, Go.Instr.sureAddr, sizeOf, typeInfo, hj1, hj2, Addr.add_lit, hj]
  ·simp only [rv]
   exact ⟨trivial, b, s, off + j * s'.w, q1, hp off q2, rfl⟩) e1 kk
/-- an array of zeros -/
theorem WL.opArrZ {c : Cx} {ops : Array Oper} {o : Oper} {l : List Oper} {S : St} {K : St → Prop} (hg : o.guard = none) {k0 : Nat} (hd : o.dst = some k0) (hk : k0 < S.n) (T : Nat) (ho : o.op = .build T #[])
  {ti : TI} {n e : Nat} {s' : Sh} (ht : c.ty T = some ti) (hkd : ti.kd = .ar n e s') {fs : List DD} (hz : ti.z = .st fs) {S1 : St} (e1 : (⟨S.n, upd S.tm k0 (.d (.st fs)), S.hp⟩ : St) = S1) (kk : WL c ops l S1 K) : WL c ops (o :: l) S K :=
 WL.opVal hg hd hk (.d (.st fs)) (fun w F Θ own a hR => by
  have hT := c.ok T ti ht
  have hkk := hT.kd
  rw [hkd] at hkk
  obtain ⟨-, hn, -, hu, jn, hj1, hj2⟩ := hkk
  obtain ⟨i, hi1, hi2, hi3, hi4⟩ := hT.info
  have hzz := hT.z w F
  rw [hz] at hzz hi4
  refine ⟨.agg ti.zc.toArray, ?_, ?_⟩
  ·unfold execOp
   simp [ho, Go.Instr.build, zeroValue, typeInfo, hi1, hi4, run_underlying hu, sizeOf, hj1, Go.Instr.fill, DD.mk, Value.cells]
  ·simp only [rv]
   exact ⟨ti.zc, hzz, rfl⟩) e1 kk
/-- an entry of an array: one cell -/
theorem WL.opArrV {c : Cx} {ops : Array Oper} {o : Oper} {l : List Oper} {S : St} {K : St → Prop} (hg : o.guard = none) {k0 : Nat} (hd : o.dst = some k0) (hk : k0 < S.n) (T : Nat) (x i : Operand) (ho : o.op = .index T x i)
  {ti te : TI} {n e : Nat} (ht : c.ty T = some ti) (hkd : ti.kd = .ar n e .one) (hte : c.ty e = some te) (hes : te.sh = .one) {fs : List DD} (hx : evT c T S x = .d (.st fs)) (ox : okO c T x) {ki : IntKind} (j : Nat) (hi : evT c 0 S i = .d (.lf (.int ki (j : Int)))) (oi : okO c 0 i) (hj : j < n)
  (hf : DD.shs fs = List.replicate n .one) {d : DD} (hd2 : fs[j]? = some d) {S1 : St} (e1 : (⟨S.n, upd S.tm k0 (.d d), S.hp⟩ : St) = S1) (kk : WL c ops l S1 K) : WL c ops (o :: l) S K :=
 WL.opVal hg hd hk (.d d) (fun w F Θ own a hR => by
  have hv := ev_rv (T := T) hR ox
  rw [hx] at hv
  simp only [rv, rp] at hv
  obtain ⟨cs, h1, h2⟩ := hv
  obtain ⟨q4, -⟩ := lf_of hR hi oi
  have hkk := (c.ok T ti ht).kd
  rw [hkd] at hkk
  obtain ⟨-, hn, -, hu, jn, hj1, hj2⟩ := hkk
  have hag := agg_run (w := w) (c.ok e te hte)
  rw [hes] at hag
  obtain ⟨c1, ce, c2, k1, k2, k3⟩ := fld_cells h1 hd2
  have hw1 : Sh.ws ((DD.shs fs).take j) = j := by
   rw [hf, ws_take_rep .one n j (by omega)]; simp [Sh.w]
  have hsd : d.sh = .one := by
   have h5 : (DD.shs fs)[j]? = some d.sh := by rw [DD.shs_eq, List.getElem?_map, hd2]; rfl
   rw [hf, List.getElem?_replicate, if_pos hj] at h5
   simpa using h5.symm
  have hl := rp.length _ _ _ k3
  rw [hsd] at hl
  simp only [Sh.w] at hl
  obtain ⟨u, rfl⟩ : ∃ u, ce = [u] := List.length_eq_one_iff.1 hl
  refine ⟨u, ?_, ?_⟩
  ·unfold execOp
   have hlt : 0 ≤ (j : Int) ∧ (j : Int) < (n : Int) := ⟨by omega, by omega⟩
   have hc1 : c1.length = j := by rw [k2, hw1]
   have hj3 : jn.size = 1 := hj2
   have hget : cs[j]? = some u := by rw [k1, List.getElem?_append_right (by omega), hc1]; simp
   have hag2 : (isAgg e).run c.P w = .ok false w := hag
   simp [ho, h2, q4, Go.Instr.index, asIntOf, run_underlying hu, hlt, DD.mk, sizeOf, typeInfo, hj1, hj3, part, hag2, hget, hj]
  ·simp only [rv]
   refine ⟨[u], k3, ?_⟩
   cases d with
   | lf v => simp only [rp] at k3; obtain ⟨k3, -⟩ := k3; cases k3; rfl
   | sl o s es => rfl
   | st gs => simp [DD.sh] at hsd) e1 kk
theorem DL.opGs {c : Cx} (mv : List Nat) {ops : Array Oper} {acc : List Sk} {o : Oper} {l : List Oper} {S S1 : St} {K : St → Prop} {D : List (Option Nat)} (hD : ops.toList.map (·.dst) = D) (j k : Nat) (b : Bool) (hg : o.guard = some (j, b)) (hj : D[j]? = some (some k)) (hk : S.tm k = .d (.lf (.bool b))) (h : okP c mv o S) (e : nx c mv o S = S1) (sk : Sk) (hsk : (fsOf c mv o S).sk = sk) (kk : DL c ops (acc ++ [sk]) l S1 K) : DL c ops acc (o :: l) S K := by
 subst hsk
 exact DL.opG mv hD j k b hg hj hk h e kk
theorem DL.opS {c : Cx} (mv : List Nat) {ops : Array Oper} {acc : List Sk} {o : Oper} {l : List Oper} {S S1 : St} {K : St → Prop} (hg : o.guard = none) (h : okP c mv o S) (e : nx c mv o S = S1) (sk : Sk) (hsk : (fsOf c mv o S).sk = sk) (kk : DL c ops (acc ++ [sk]) l S1 K) : DL c ops acc (o :: l) S K := by
 subst hsk
 exact DL.op mv hg h e kk
theorem sk_ld {c : Cx} {mv : List Nat} {o : Oper} {S : St} {T : Nat} {x : Operand} (ho : o.op = .load T x) {lv k : Nat} {p : List Nat} (hx : evT c 0 S x = .pt lv k p) {cn : AV} (hc : hpg S.hp lv k = some cn) (hm : mvB mv o.dst = false) : (fsOf c mv o S).sk = ⟨[], .ld lv k⟩ := by
 unfold fsOf
 rw [ho]
 simp only [hx, hc, hm, cond_false]
 rfl
theorem sk_ldU {c : Cx} {mv : List Nat} {o : Oper} {S : St} {T : Nat} {x : Operand} {h : HP} {lv k : Nat} {cn : AV} (hc : hpg (upH h) lv k = some cn) (ho : o.op = .load T x) {f : Nat → Option AV} (hh : S.hp = f :: upH h) {p : List Nat} (hx : evT c 0 S x = .pt (lv + 1) k p) (hm : mvB mv o.dst = false) : (fsOf c mv o S).sk = ⟨[], .ld (lv + 1) k⟩ :=
 sk_ld ho hx (by rw [hh]; exact hc) hm
/-- a result is looked at only -/
theorem CS.vw {P : Program} {f : Nat} {args : List AV} {h h' : HP} {r : AV} (k : CS P f args h r h') : CS P f args h r.vw h' := fun w F Θ own vs hR => (k w F Θ own vs hR).mono fun e w' ⟨v, F', own', h1, h2, h3⟩ => by
 obtain ⟨own2, g1, g2⟩ := h2.fin none (by simp) [0] .un v [] (Ks.refl _ _ _) h2.top (by simp only [rv]) List.nodup_nil (by simp) (by simp)
 have e : (⟨(retS r h').n, putF (clrs (retS r h').tm [0]) none .un, (retS r h').hp⟩ : St) = retS r.vw h' := by
  unfold retS
  congr 1
  funext t
  by_cases ht : t = 0
  ·subst ht; simp [putF, clrs, upd]
  ·simp only [putF, clrs]; rw [upd_ne _ _ ht]; simp [ht]
 rw [e] at g1
 exact ⟨v, F', own2, h1, g1, h3.trans g2⟩
mutual
def DD.fit : DD → Prop
 | .lf v => okLeaf v
 | .st fs => DD.fits fs
 | .sl _ _ es => es.length ≤ maxLen ∧ DD.fits es
def DD.fits : List DD → Prop
 | [] => True
 | d :: ds => d.fit ∧ DD.fits ds
end
mutual
theorem rp.fit {w : World} {F : Nat → Nat} : ∀ (d : DD) (cs : List Value) (bs : List Nat), rp w F d cs bs → d.fit
 | .lf v, cs, bs, h => by
  simp only [rp] at h
  simp only [DD.fit]; exact h.2.1
 | .st fs, cs, bs, h => by
  simp only [rp] at h
  simp only [DD.fit]; exact rpS.fit fs cs bs h
 | .sl o s es, cs, bs, h => by
  simp only [rp] at h
  obtain ⟨-, -, a, cap, -, h2, h3, -, h5⟩ := h
  simp only [DD.fit]
  refine ⟨Nat.le_trans h2 h3, ?_⟩
  rcases h5 with ⟨-, rfl, -⟩ | ⟨b, off, r, -, he, -⟩
  ·simp only [DD.fits]
  ·exact rpE.fit es b off r he
theorem rpS.fit {w : World} {F : Nat → Nat} : ∀ (l : List DD) (cs : List Value) (bs : List Nat), rpS w F l cs bs → DD.fits l
 | [], cs, bs, h => by simp only [DD.fits]
 | d :: l, cs, bs, h => by
  simp only [rpS] at h
  obtain ⟨c1, c2, b1, b2, -, -, h3, h4⟩ := h
  simp only [DD.fits]; exact ⟨rp.fit d c1 b1 h3, rpS.fit l c2 b2 h4⟩
theorem rpE.fit {w : World} {F : Nat → Nat} : ∀ (l : List DD) (b off : Nat) (bs : List Nat), rpE w F l b off bs → DD.fits l
 | [], _, _, _, _ => by simp only [DD.fits]
 | d :: l, b, off, bs, h => by
  simp only [rpE] at h
  obtain ⟨cs, b1, b2, -, -, h3, h4⟩ := h
  simp only [DD.fits]; exact ⟨rp.fit d cs b1 h3, rpE.fit l b _ b2 h4⟩
end
theorem CS.fitD {P : Program} {f : Nat} {args : List AV} {h h' : HP} {r : AV} (i : Nat) (d : DD) (hi : args[i]? = some (.d d)) (k : d.fit → CS P f args h r h') : CS P f args h r h' := fun w F Θ own vs hR => by
 have hv := hR.tm i
 have e : (entS args h).tm i = .d d := by simp [entS, List.getD_eq_getElem?_getD, hi]
 rw [e] at hv
 simp only [rv] at hv
 obtain ⟨cs, h1, -⟩ := hv
 exact k (rp.fit d cs _ h1) w F Θ own vs hR
theorem fits_mem {α : Type} {f : α → DD} : ∀ {l : List α}, DD.fits (l.map f) → ∀ y ∈ l, (f y).fit
 | [], _, y, hy => by simp at hy
 | x :: l, h, y, hy => by
  simp only [List.map_cons, DD.fits] at h
  rcases List.mem_cons.1 hy with rfl | hy
  ·exact h.1
  ·exact fits_mem h.2 y hy
def lftI (n : Nat) (left : Int) : Int := if (n : Int) ≤ left then left - n else -1
theorem lft_ge {n : Nat} {x : Int} (h : 0 ≤ lftI n x) : lftI n x = x - n ∧ (n : Int) ≤ x := by
 unfold lftI at h ⊢
 split
 ·exact ⟨rfl, ‹_›⟩
 ·rename_i q; rw [if_neg q] at h; omega
theorem lft_lt {n : Nat} {x : Int} (h : lftI n x < 0) : x < n := by
 unfold lftI at h
 split at h <;> omega
theorem lft_eq {n : Nat} {x : Int} (h : (n : Int) ≤ x) : lftI n x = x - n := if_pos h
theorem lft_m1 {n : Nat} {x : Int} (h : x < n) : lftI n x = -1 := if_neg (by omega)
def szK {α : Type} (g : α → Nat) (l : List α) (k : Nat) : Nat := l.length + szL g (l.take k)
theorem szK_zero {α : Type} (g : α → Nat) (l : List α) : szK g l 0 = l.length := by simp [szK, szL]
theorem szK_full {α : Type} (g : α → Nat) (l : List α) : szK g l l.length = szs g l := by unfold szK szs; rw [List.take_length]
theorem szL_app0 {α : Type} (g : α → Nat) : ∀ a b : List α, szL g (a ++ b) = szL g a + szL g b
 | [], b => by simp [szL]
 | x :: a, b => by simp only [List.cons_append, szL, szL_app0 g a b]; omega
theorem szK_nx {α : Type} {g : α → Nat} {l : List α} {k : Nat} (h : k < l.length) : szK g l (k + 1) = szK g l k + g l[k] := by
 unfold szK; rw [List.take_succ_eq_append_getElem h, szL_app0]; simp [szL]; omega
theorem szK_le {α : Type} (g : α → Nat) (l : List α) (k : Nat) : szK g l k ≤ szs g l := by
 have := szL_take g l k
 unfold szK szs; omega
variable {c : Cx} {ops : Array Oper} {o : Oper} {l : List Oper} {S : St} {K : St → Prop} {acc : List Sk} {D : List (Option Nat)}
theorem fok {g : Nat} {fn : Func} (hget : c.P.funcs[g]? = some fn) (hb : fn.body.isSome = true) (hnm : (fn.name == "runtime.NumGoroutine") = false) : ∃ body, FnOk c.P g fn body := by
 cases h : fn.body with
 | none => rw [h] at hb; cases hb
 | some b => exact ⟨b, hget, h, hnm⟩
theorem Zo (k : WL c ops l (nx c [] o S) K) (h : okP c [] o S := by simp <;> omega) (hg : o.guard = none := by rfl) : WL c ops (o :: l) S K := WL.op [] hg h rfl k
theorem Zm (mv : List Nat) (k : WL c ops l (nx c mv o S) K) (h : okP c mv o S := by simp <;> omega) (hg : o.guard = none := by rfl) : WL c ops (o :: l) S K := WL.op mv hg h rfl k
theorem Yo (k : DL c ops (acc ++ [(fsOf c [] o S).sk]) l (nx c [] o S) K) (h : okP c [] o S := by simp <;> omega) (hg : o.guard = none := by rfl) : DL c ops acc (o :: l) S K := DL.op [] hg h rfl k
theorem Ym (mv : List Nat) (k : DL c ops (acc ++ [(fsOf c mv o S).sk]) l (nx c mv o S) K) (h : okP c mv o S := by simp <;> omega) (hg : o.guard = none := by rfl) : DL c ops acc (o :: l) S K := DL.op mv hg h rfl k
theorem Zl (ts : List Nat) {f : Operand} {args : Array Operand} {argTypes : Array TypeId} (ho : o.op = .call { callee := .value f, args, argTypes }) {g : Nat} {fn : Func} (hget : c.P.funcs[g]? = some fn) {as' : List AV} {r : AV} {h' : HP} (hc : CS c.P g as' S.hp r h') (k : WL c ops l ⟨S.n, putF (clrs S.tm (gvn ts args.toList)) o.dst r, h'⟩ K)
  (ha : (argTypes.toList.zip args.toList).map (fun x => argA c ts S x.1 x.2) ++ [] = as' := by simp) (hf : evT c 0 S f = .fn g [] := by simp) (of : okO c 0 f := by simp) (hg : o.guard = none := by rfl) (hd : ∀ k, o.dst = some k → k < S.n := by simp) (hTs : argTypes.toList.length = args.toList.length := by rfl) (hok : ∀ x ∈ argTypes.toList.zip args.toList, okO c x.1 x.2 := by simp) (hn : (gvn ts args.toList).Nodup := by simp) (hb : fn.body.isSome = true := by rfl) (hnm : (fn.name == "runtime.NumGoroutine") = false := by rfl) : WL c ops (o :: l) S K := by
 obtain ⟨body, hfn⟩ := fok (c := c) hget hb hnm
 exact WL.call ts f args argTypes ho hg hd hf of hfn hTs hok hn ha hc rfl k
theorem Yl (ts : List Nat) {f : Operand} {args : Array Operand} {argTypes : Array TypeId} (ho : o.op = .call { callee := .value f, args, argTypes }) {g : Nat} {fn : Func} (hget : c.P.funcs[g]? = some fn) {as' : List AV} {r : AV} (hc : ∀ h, CS c.P g as' h r h) (k : DL c ops (acc ++ [⟨gvn ts args.toList, .val⟩]) l ⟨S.n, putF (clrs S.tm (gvn ts args.toList)) o.dst r, S.hp⟩ K)
  (ha : (argTypes.toList.zip args.toList).map (fun x => argA c ts S x.1 x.2) ++ [] = as' := by simp) (hf : evT c 0 S f = .fn g [] := by simp) (of : okO c 0 f := by simp) (hg : o.guard = none := by rfl) (hd : ∀ k, o.dst = some k → k < S.n := by simp) (hTs : argTypes.toList.length = args.toList.length := by rfl) (hok : ∀ x ∈ argTypes.toList.zip args.toList, okO c x.1 x.2 := by simp) (hn : (gvn ts args.toList).Nodup := by simp) (hb : fn.body.isSome = true := by rfl) (hnm : (fn.name == "runtime.NumGoroutine") = false := by rfl) : DL c ops acc (o :: l) S K := by
 obtain ⟨body, hfn⟩ := fok (c := c) hget hb hnm
 exact DL.call ts f args argTypes ho hg hd hf of hfn hTs hok hn ha hc rfl k
theorem Zk (hD : ops.toList.map (·.dst) = D) {j kg : Nat} {bg : Bool} (hg : o.guard = some (j, bg)) (hj : D[j]? = some (some kg)) (ts : List Nat) {f : Operand} {args : Array Operand} {argTypes : Array TypeId} (ho : o.op = .call { callee := .value f, args, argTypes }) {g : Nat} {fn : Func} (hget : c.P.funcs[g]? = some fn) {as' : List AV} {r : AV} {h' : HP} (hc : CS c.P g as' S.hp r h') (k : WL c ops l ⟨S.n, putF (clrs S.tm (gvn ts args.toList)) o.dst r, h'⟩ K)
  (ha : (argTypes.toList.zip args.toList).map (fun x => argA c ts S x.1 x.2) ++ [] = as' := by simp) (hk : S.tm kg = .d (.lf (.bool bg)) := by simp) (hf : evT c 0 S f = .fn g [] := by simp) (of : okO c 0 f := by simp) (hd : ∀ k, o.dst = some k → k < S.n := by simp) (hTs : argTypes.toList.length = args.toList.length := by rfl) (hok : ∀ x ∈ argTypes.toList.zip args.toList, okO c x.1 x.2 := by simp) (hn : (gvn ts args.toList).Nodup := by simp) (hb : fn.body.isSome = true := by rfl) (hnm : (fn.name == "runtime.NumGoroutine") = false := by rfl) : WL c ops (o :: l) S K := by
 obtain ⟨body, hfn⟩ := fok (c := c) hget hb hnm
 exact WL.callG hD j kg bg hg hj hk ts f args argTypes ho hd hf of hfn hTs hok hn ha hc rfl k
theorem Yk (hD : ops.toList.map (·.dst) = D) {j kg : Nat} {bg : Bool} (hg : o.guard = some (j, bg)) (hj : D[j]? = some (some kg)) (ts : List Nat) {f : Operand} {args : Array Operand} {argTypes : Array TypeId} (ho : o.op = .call { callee := .value f, args, argTypes }) {g : Nat} {fn : Func} (hget : c.P.funcs[g]? = some fn) {as' : List AV} {r : AV} (hc : ∀ h, CS c.P g as' h r h) (k : DL c ops (acc ++ [⟨gvn ts args.toList, .val⟩]) l ⟨S.n, putF (clrs S.tm (gvn ts args.toList)) o.dst r, S.hp⟩ K)
  (ha : (argTypes.toList.zip args.toList).map (fun x => argA c ts S x.1 x.2) ++ [] = as' := by simp) (hk : S.tm kg = .d (.lf (.bool bg)) := by simp) (hf : evT c 0 S f = .fn g [] := by simp) (of : okO c 0 f := by simp) (hd : ∀ k, o.dst = some k → k < S.n := by simp) (hTs : argTypes.toList.length = args.toList.length := by rfl) (hok : ∀ x ∈ argTypes.toList.zip args.toList, okO c x.1 x.2 := by simp) (hn : (gvn ts args.toList).Nodup := by simp) (hb : fn.body.isSome = true := by rfl) (hnm : (fn.name == "runtime.NumGoroutine") = false := by rfl) : DL c ops acc (o :: l) S K := by
 obtain ⟨body, hfn⟩ := fok (c := c) hget hb hnm
 exact DL.callG hD j kg bg hg hj hk ts f args argTypes ho hd hf of hfn hTs hok hn ha hc rfl k
theorem Zn (hD : ops.toList.map (·.dst) = D) {j k : Nat} {b : Bool} (hg : o.guard = some (j, b)) (hj : D[j]? = some (some k)) (kk : WL c ops l ⟨S.n, putF S.tm o.dst (.tp []), S.hp⟩ K) (hk : S.tm k = .d (.lf (.bool (!b))) ∨ S.tm k = .tp [] := by simp) (hd : ∀ k, o.dst = some k → k < S.n := by simp) : WL c ops (o :: l) S K := WL.no2 hD j k b hg hj hk hd rfl kk
theorem Yn (hD : ops.toList.map (·.dst) = D) {j k : Nat} {b : Bool} (hg : o.guard = some (j, b)) (hj : D[j]? = some (some k)) (kk : DL c ops (acc ++ [⟨[], .val⟩]) l ⟨S.n, putF S.tm o.dst (.tp []), S.hp⟩ K) (hk : S.tm k = .d (.lf (.bool (!b))) ∨ S.tm k = .tp [] := by simp) (hd : ∀ k, o.dst = some k → k < S.n := by simp) : DL c ops acc (o :: l) S K := DL.no2 hD j k b hg hj hk hd rfl kk
theorem Zg (hD : ops.toList.map (·.dst) = D) {j k : Nat} {b : Bool} (hg : o.guard = some (j, b)) (hj : D[j]? = some (some k)) (kk : WL c ops l (nx c [] o S) K) (h : okP c [] o S := by simp <;> omega) (hk : S.tm k = .d (.lf (.bool b)) := by simp) : WL c ops (o :: l) S K := WL.opG [] hD j k b hg hj hk h rfl kk
theorem Yg (hD : ops.toList.map (·.dst) = D) {j k : Nat} {b : Bool} (hg : o.guard = some (j, b)) (hj : D[j]? = some (some k)) (kk : DL c ops (acc ++ [(fsOf c [] o S).sk]) l (nx c [] o S) K) (h : okP c [] o S := by simp <;> omega) (hk : S.tm k = .d (.lf (.bool b)) := by simp) : DL c ops acc (o :: l) S K := DL.opG [] hD j k b hg hj hk h rfl kk
theorem Zc {Q : Exit → St → Prop} {g : Operand} {x y : Code} {b : Bool} (hg : evT c 0 S g = .d (.lf (.bool b))) (h1 : b = true → W c x S Q) (h2 : b = false → W c y S Q) (og : okO c 0 g := by trivial) : W c (.cond g x y) S Q := W.condS b hg og h1 h2
theorem Zs {id : Nat} {S1 : St} {Q : Exit → St → Prop} (h : ∀ K : St → Prop, K S1 → ∀ ops' : Array Oper, WL c ops' ops.toList S K) (k : Q .normal S1) : W c (.region id ops false) S Q := W.regS (fun ops' K hK => h K hK ops') k
theorem Zr {id : Nat} {S1 : St} {y : Code} {Q : Exit → St → Prop} (h : ∀ K : St → Prop, K S1 → ∀ ops' : Array Oper, WL c ops' ops.toList S K) (k : W c y S1 Q) : W c (.seq (.region id ops false) y) S Q := W.seq (Zs h k)
theorem Yr {id : Nat} {S1 : St} {y : Code} {Q : Exit → St → Prop} (hm : c.P.follows .mixedOrders = true) (h : ∀ K : St → Prop, K S1 → DL c ops [] ops.toList S K) (k : W c y S1 Q) : W c (.seq (.region id ops true) y) S Q := W.seq (W.regSD hm h k)
theorem Zx {K : St → Prop} {S1 : St} (h : K S1 := by assumption) : WL c ops [] S1 K := WL.nil h
theorem Zv {Q : Exit → St → Prop} {g : Operand} {x y z : Code} {b : Bool} (hg : evT c 0 S g = .d (.lf (.bool b))) (h1 : b = true → W c x S (thenQ (fun S' => W c z S' Q) Q)) (h2 : b = false → W c y S (thenQ (fun S' => W c z S' Q) Q)) (og : okO c 0 g := by trivial) : W c (.seq (.cond g x y) z) S Q := W.seq (Zc hg h1 h2 og)
theorem Zb {Q : Exit → St → Prop} {i : Nat} {x z : Code} (h : W c x S (blkQ i (thenQ (fun S' => W c z S' Q) Q))) : W c (.seq (.block i x) z) S Q := W.seq (W.block h)
theorem gm {α : Type} {l : List α} {i : Nat} (h : i < l.length) : l[i] ∈ l := List.getElem_mem h
theorem Zq {fn : Func} {r : AV} {h' : HP} (k : Res c fn S r) (hh : ∃ f1, S.hp = f1 :: upH h' := by exact ⟨_, rfl⟩) : (Exit.ret = .normal ∨ Exit.ret = .ret) ∧ (∃ f1, S.hp = f1 :: upH h') ∧ Res c fn S r := ⟨.inr rfl, hh, k⟩
theorem Ze {f : Nat} {fn : Func} {body : Code} {args : List AV} {h h' : HP} {r : AV} (hget : c.P.funcs[f]? = some fn) (hbd : fn.body = some body) (n : Nat) (hW : W c body ⟨n, tl (mkl 0 args), al [] :: upH h⟩ (fun e S => (e = .normal ∨ e = .ret) ∧ (∃ f1, S.hp = f1 :: upH h') ∧ Res c fn S r)) (hn : fn.ntmps = n := by rfl) (hlen : args.length ≤ n := by simp) (hnm : (fn.name == "runtime.NumGoroutine") = false := by rfl) : CS c.P f args h r h' := CS.run ⟨hget, hbd, hnm⟩ args h h' r n hn hlen hW
end Go.Proofs.YtdooklofebdknaaGreat
