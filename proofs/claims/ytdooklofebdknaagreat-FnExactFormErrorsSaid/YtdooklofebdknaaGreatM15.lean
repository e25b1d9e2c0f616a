/- Den14: a function, from its body; Den15: regions that draw their order: operations that do not look at one another may be run in any order. No condition but sizes. -/
import Derived.Test.YtdooklofebdknaaGreatM14
namespace Go.Proofs.YtdooklofebdknaaGreat
open Go.RowKit
set_option linter.unusedVariables false
set_option linter.unusedSimpArgs false
def upH (h : HP) : HP := h.map fun f k => (f k).map AV.up
theorem hpg_upH : ∀ (h : HP) (lv k : Nat), hpg (upH h) lv k = (hpg h lv k).map AV.up
 | [], lv, k => rfl
 | f :: h, 0, k => rfl
 | f :: h, lv + 1, k => hpg_upH h lv k
mutual
theorem AV.nz_up : ∀ a : AV, a.up.nz
 | .un => trivial
 | .d _ => trivial
 | .pt _ _ _ => Nat.succ_pos _
 | .el _ => trivial
 | .rw _ _ _ => Nat.succ_pos _
 | .tp l => by simp only [AV.up, AV.nz]; exact AV.nzs_up l
 | .fn _ c => by simp only [AV.up, AV.nz]; exact AV.nzs_up c
 | .fr l => by simp only [AV.up, AV.nz]; exact AV.nzs_up l
 | .ep a => by simp only [AV.up, AV.nz]; exact AV.nz_up a
 | .ms _ _ => trivial
 | .mb _ _ _ => trivial
 | .mp _ _ _ _ => trivial
theorem AV.nzs_up : ∀ l : List AV, AV.nzs (AV.ups l)
 | [] => trivial
 | a :: l => by simp only [AV.ups, AV.nzs]; exact ⟨AV.nz_up a, AV.nzs_up l⟩
end
mutual
theorem AV.dn_up : ∀ a : AV, a.up.dn = a
 | .un => rfl
 | .d _ => rfl
 | .pt _ _ _ => rfl
 | .el _ => rfl
 | .rw _ _ _ => rfl
 | .tp l => by simp only [AV.up, AV.dn, AV.dns_up l]
 | .fn _ c => by simp only [AV.up, AV.dn, AV.dns_up c]
 | .fr l => by simp only [AV.up, AV.dn, AV.dns_up l]
 | .ep a => by simp only [AV.up, AV.dn, AV.dn_up a]
 | .ms _ _ => rfl
 | .mb _ _ _ => rfl
 | .mp _ _ _ _ => rfl
theorem AV.dns_up : ∀ l : List AV, AV.dns (AV.ups l) = l
 | [] => rfl
 | a :: l => by simp only [AV.ups, AV.dns, AV.dn_up a, AV.dns_up l]
end
theorem AV.csh_up (a : AV) : a.up.csh = a.csh := by cases a <;> rfl
theorem rc.push {w : World} {F : Nat → Nat} {Θ Θ' : Ty} (hT : ∀ lv k, Θ' (lv + 1) k = Θ lv k) (c : AV) (cs : List Value) (bs : List Nat) (h : rc w F Θ c cs bs) : rc w F Θ' c.up cs bs := by
 cases c <;> simp only [rc, AV.up] at h ⊢
 case d x => exact h
 all_goals
  obtain ⟨v, h1, h2, h3⟩ := h
  refine ⟨v, h1, h2, ?_⟩
  have := rv.push hT _ _ _ h3
  simpa only [AV.up] using this
theorem rc.pop {w : World} {F : Nat → Nat} {Θ Θ' : Ty} (hT : ∀ lv k, Θ' (lv + 1) k = Θ lv k) (c : AV) (cs : List Value) (bs : List Nat) (h : rc w F Θ' c.up cs bs) : rc w F Θ c cs bs := by
 have key : ∀ a : AV, ∀ v, rv w F Θ' a.up v bs → rv w F Θ a v bs := fun a v q => by
  have := rv.pop hT a.up v bs (AV.nz_up a) q
  rwa [AV.dn_up] at this
 cases c <;> simp only [rc, AV.up] at h ⊢
 case d x => exact h
 all_goals
  obtain ⟨v, h1, h2, h3⟩ := h
  refine ⟨v, h1, h2, key _ v ?_⟩
  simpa only [AV.up] using h3
theorem Rel.push {w : World} {F : Nat → Nat} {Θ : Ty} {own : Who → List Nat} {args : List AV} {h : HP} {vs : List Value} (hR : Rel w F Θ own (entS args h) ⟨vs.toArray, []⟩) (n : Nat) (hn : args.length ≤ n) :
  ∃ own', Rel w F Θ.push own' ⟨n, fun t => (args.getD t .un).up, (fun _ => none) :: upH h⟩ ⟨vs.toArray ++ Array.replicate (n - vs.toArray.size) undef, []⟩ ∧ ∀ x b, b ∈ own' x → ∃ y, b ∈ own y := by
 have hvl : vs.length = args.length := by have := hR.n; simpa [entS] using this
 have hT : ∀ lv k, Θ.push (lv + 1) k = Θ lv k := fun _ _ => rfl
 let own' : Who → List Nat := fun
  | .t t => own (.t t)
  | .h 0 _ => []
  | .h (lv + 1) k => own (.h lv k)
  | .l 0 _ => []
  | .l (lv + 1) k => own (.l lv k)
 have src : ∀ x b, b ∈ own' x → ∃ y, b ∈ own y ∧ (match x with | .t t => y = .t t | .h (lv + 1) k => y = .h lv k | .l (lv + 1) k => y = .l lv k | _ => False) := by
  intro x b hb
  match x with
  | .t t => exact ⟨_, hb, rfl⟩
  | .h 0 _ => simp [own'] at hb
  | .h (lv + 1) k => exact ⟨_, hb, rfl⟩
  | .l 0 _ => simp [own'] at hb
  | .l (lv + 1) k => exact ⟨_, hb, rfl⟩
 refine ⟨own', ⟨?_, rfl, fun t => ?_, fun lv k hq => ?_, fun lv k cn hq => ?_, fun x => ?_, fun x y hxy b hx hy => ?_, fun x b hb => ?_, hR.top, hR.gl⟩, fun x b hb => by obtain ⟨y, h1, -⟩ := src x b hb; exact ⟨y, h1⟩⟩
 ·simp; omega
 ·have h1 := rv.push hT _ _ _ (hR.tm t)
  have e : (vs.toArray ++ Array.replicate (n - vs.toArray.size) undef).getD t undef = vs.toArray.getD t undef := by
   simp only [Array.getD_eq_getD_getElem?, Array.getElem?_append]
   split
   ·rfl
   ·rename_i hlt
    have : vs.toArray[t]? = none := Array.getElem?_eq_none (by omega)
    rw [this, Array.getElem?_replicate]
    split <;> rfl
  rw [e]
  exact h1
 ·cases lv with
  | zero => exact ⟨rfl, rfl, rfl⟩
  | succ lv =>
   have : hpg h lv k = none := by
    have hq' : hpg (upH h) lv k = none := hq
    rw [hpg_upH] at hq'
    cases hh : hpg h lv k with
    | none => rfl
    | some v => rw [hh] at hq'; cases hq'
   exact hR.hn lv k this
 ·cases lv with
  | zero => cases hq
  | succ lv =>
   have hq' : hpg (upH h) lv k = some cn := hq
   rw [hpg_upH] at hq'
   cases hh : hpg h lv k with
   | none => rw [hh] at hq'; cases hq'
   | some c0 =>
    rw [hh] at hq'
    simp only [Option.map_some, Option.some.injEq] at hq'
    subst hq'
    obtain ⟨b, s, cur, t, h1, h2, h3, h4, h5, h6⟩ := hR.hs lv k c0 hh
    exact ⟨b, s, cur, t, h1, h2, h3, by rw [AV.csh_up]; exact h4, h5, rc.push hT _ _ _ h6⟩
 ·match x with
  | .t t => exact hR.nd _
  | .h 0 _ => exact List.nodup_nil
  | .h (lv + 1) k => exact hR.nd _
  | .l 0 _ => exact List.nodup_nil
  | .l (lv + 1) k => exact hR.nd _
 ·obtain ⟨x', h1, h2⟩ := src x b hx
  obtain ⟨y', g1, g2⟩ := src y b hy
  refine hR.dj x' y' (fun e => hxy ?_) b h1 g1
  subst e
  match x, y with
  | .t t, .t u => simp only at h2 g2; rw [h2] at g2; cases g2; rfl
  | .t t, .h (lv + 1) k => simp only at h2 g2; rw [h2] at g2; cases g2
  | .t t, .l (lv + 1) k => simp only at h2 g2; rw [h2] at g2; cases g2
  | .h (lv + 1) k, .t u => simp only at h2 g2; rw [h2] at g2; cases g2
  | .h (lv + 1) k, .h (lv' + 1) k' => simp only at h2 g2; rw [h2] at g2; cases g2; rfl
  | .h (lv + 1) k, .l (lv' + 1) k' => simp only at h2 g2; rw [h2] at g2; cases g2
  | .l (lv + 1) k, .t u => simp only at h2 g2; rw [h2] at g2; cases g2
  | .l (lv + 1) k, .h (lv' + 1) k' => simp only at h2 g2; rw [h2] at g2; cases g2
  | .l (lv + 1) k, .l (lv' + 1) k' => simp only at h2 g2; rw [h2] at g2; cases g2; rfl
 ·obtain ⟨y, h1, -⟩ := src x b hb
  exact hR.lt y b h1
/-- what a result variable holds at the end, and who owns it -/
def resV (S : St) : ResultVar → AV
 | .tmp t => S.tm t
 | .cell t _ => match S.tm t with
  | .pt 0 k [] => (hpg S.hp 0 k).getD .un
  | _ => .un
def resW (S : St) : ResultVar → Who
 | .tmp t => .t t
 | .cell t _ => match S.tm t with
  | .pt 0 k [] => .h 0 k
  | _ => .t t
def ResOk (c : Cx) (S : St) : ResultVar → Prop
 | .tmp _ => True
 | .cell t T => ∃ k y ti, S.tm t = .pt 0 k [] ∧ hpg S.hp 0 k = some (.d y) ∧ c.ty T = some ti ∧ y.sh = ti.sh
theorem res_run {c : Cx} {w : World} {F : Nat → Nat} {Θ : Ty} {own : Who → List Nat} {S : St} {a : Act} (h : Rel w F Θ own S a) (x : ResultVar) (hx : ResOk c S x) :
  ∃ v, (match x with | .tmp t => pure (a.tmps.getD t undef) | .cell t T => do loadVar T (← asAddr (a.tmps.getD t undef)) : Sem Value).run c.P w = .ok v w ∧ rv w F Θ (resV S x) v (own (resW S x)) := by
 cases x with
 | tmp t => exact ⟨_, rfl, h.tm t⟩
 | cell t T =>
  obtain ⟨k, y, ti, h1, h2, h3, h4⟩ := hx
  have hv := h.tm t
  rw [h1] at hv
  simp only [rv, offP_nil] at hv
  obtain ⟨-, b, s, off, e1, e2, e3⟩ := hv
  cases e2
  obtain ⟨b', s', cur, ty, z1, z2, z3, z4, z5, z6⟩ := h.hs 0 k _ h2
  rw [e1] at z1
  cases z1
  simp only [rc] at z6
  have hc : Cells w b 0 cur.toList := by
   intro j u hu
   rw [cell_of_row w b _ cur ty (0, 0) z5]
   simpa using hu
  refine ⟨y.mk cur.toList, ?_, ?_⟩
  ·have := loadVar_run (c := c) (c.ok T ti h3) hc z6 h4
   simp only [Sem.run_bind]
   rw [e3]
   simp [asAddr, this]
  ·simp only [resV, resW, h1, h2, Option.getD_some, rv]
   exact ⟨cur.toList, z6, rfl⟩
def Res (c : Cx) (fn : Func) (S : St) (r : AV) : Prop := (∀ x ∈ fn.results.toList, ResOk c S x ∧ (resV S x).nz) ∧ (fn.results.toList.map (resW S)).Nodup ∧ r = match fn.results.toList.map (fun x => (resV S x).dn) with
 | [x] => x
 | l => .tp l
theorem res_list {c : Cx} {w : World} {F : Nat → Nat} {Θ Θ1 : Ty} {own : Who → List Nat} {S : St} {a : Act} (h : Rel w F Θ1 own S a) (hT : ∀ lv k, Θ1 (lv + 1) k = Θ lv k) : ∀ (l : List ResultVar), (∀ x ∈ l, ResOk c S x ∧ (resV S x).nz) →
  ∃ vs, (l.mapM fun | .tmp t => pure (a.tmps.getD t undef) | .cell t T => do loadVar T (← asAddr (a.tmps.getD t undef)) : Sem (List Value)).run c.P w = .ok vs w ∧ rvS w F Θ (l.map fun x => (resV S x).dn) vs (l.flatMap fun x => own (resW S x)) ∧ vs.length = l.length
 | [], _ => ⟨[], by simp, by simp [rvS], rfl⟩
 | x :: l, hx => by
  obtain ⟨v, h1, h2⟩ := res_run h x (hx x (by simp)).1
  obtain ⟨vs, h3, h4, h5⟩ := res_list h hT l (fun y hy => hx y (by simp [hy]))
  refine ⟨v :: vs, ?_, ?_, by simp [h5]⟩
  ·rw [List.mapM_cons]
   simp only [Sem.run_bind, h1, Result.andThen_ok, h3, Sem.run_pure]
  ·simp only [List.map_cons, List.flatMap_cons, rvS]
   exact ⟨v, vs, _, _, rfl, rfl, rv.pop hT _ _ _ (hx x (by simp)).2 h2, h4⟩
theorem CS.of {c : Cx} {f : Nat} {fn : Func} {body : Code} (hf : FnOk c.P f fn body) (args : List AV) (h h' : HP) (r : AV) (hlen : args.length ≤ fn.ntmps)
  (hW : W c body ⟨fn.ntmps, fun t => (args.getD t .un).up, (fun _ => none) :: upH h⟩ (fun e S => (e = .normal ∨ e = .ret) ∧ (∃ f1, S.hp = f1 :: upH h') ∧ Res c fn S r)) : CS c.P f args h r h' := by
 intro w F Θ own vs hR
 obtain ⟨ownP, hP, hPs⟩ := hR.push fn.ntmps hlen
 refine calls_of_wp hf.get hf.bd (wp_mono (hW w F Θ.push ownP _ hP) fun e a1 w1 ⟨S1, F1, Θ1, own1, ⟨he, ⟨f1, hh⟩, hres⟩, hR1, hS1⟩ => ?_)
 have hT : ∀ lv k, Θ1 (lv + 1) k = Θ lv k := fun lv k => hS1.ty lv k
 obtain ⟨r1, r2, r3⟩ := hres
 obtain ⟨rs, k1, k2, k3⟩ := res_list (c := c) hR1 hT fn.results.toList r1
 have hsrc : ∀ b, b ∈ (fn.results.toList.flatMap fun x => own1 (resW S1 x)) → ∃ x ∈ fn.results.toList, b ∈ own1 (resW S1 x) := fun b hb => by
  obtain ⟨x, hx, q⟩ := List.mem_flatMap.1 hb; exact ⟨x, hx, q⟩
 have hnd : (fn.results.toList.flatMap fun x => own1 (resW S1 x)).Nodup := by
  refine List.pairwise_flatMap.2 ⟨fun x _ => hR1.nd _, ?_⟩
  have := List.pairwise_map.1 r2
  refine List.Pairwise.imp (fun {x y} hxy b hb q hq e => ?_) this
  subst e
  exact hR1.dj _ _ hxy b hb hq
 have hval : ∃ v, (results fn a1.tmps).run c.P w1 = .ok v w1 ∧ rv w1 F1 Θ r v (fn.results.toList.flatMap fun x => own1 (resW S1 x)) := by
  have hm : (fn.results.mapM fun | .tmp t => pure (a1.tmps.getD t undef) | .cell t T => do loadVar T (← asAddr (a1.tmps.getD t undef)) : Sem (Array Value)).run c.P w1 = .ok rs.toArray w1 := by
   rw [Array.mapM_eq_mapM_toList, map_eq_pure_bind, Sem.run_bind, k1]
   rfl
  have hres : results fn a1.tmps = (fn.results.mapM (fun | .tmp t => pure (a1.tmps.getD t undef) | .cell t T => do loadVar T (← asAddr (a1.tmps.getD t undef)) : ResultVar → Sem Value) >>= fun vs => pure (if h : vs.size = 1 then vs[0] else .tuple vs)) := rfl
  cases hl : fn.results.toList with
  | nil =>
   rw [hl] at k2 k3 r3
   simp only [List.map_nil] at r3
   subst r3
   refine ⟨.tuple rs.toArray, ?_, by simp only [rv]; exact ⟨rs, rfl, k2⟩⟩
   rw [hres, Sem.run_bind, hm]
   simp at k3
   simp [k3]
  | cons x l =>
   cases l with
   | nil =>
    rw [hl] at k2 k3 r3
    simp only [List.map_cons, List.map_nil] at r3 k2
    subst r3
    obtain ⟨v, rfl⟩ := List.length_eq_one_iff.1 k3
    simp only [rvS] at k2
    obtain ⟨v', r', b1, b2, e1, e2, g1, g2⟩ := k2
    simp only [List.cons.injEq] at e1
    obtain ⟨rfl, rfl⟩ := e1
    obtain ⟨-, rfl⟩ := g2
    refine ⟨v, ?_, by rw [e2]; simpa using g1⟩
    rw [hres, Sem.run_bind, hm]
    simp
   | cons y l =>
    rw [hl] at k2 k3 r3
    simp only [List.map_cons] at r3 k2
    subst r3
    refine ⟨.tuple rs.toArray, ?_, by simp only [rv]; exact ⟨rs, rfl, by simpa using k2⟩⟩
    rw [hres, Sem.run_bind, hm]
    simp only [List.length_cons] at k3
    have : ¬ rs.toArray.size = 1 := by simp; omega
    simp at this
    simp [this]
 obtain ⟨v, v1, v2⟩ := hval
 let own2 : Who → List Nat := fun
  | .t 0 => fn.results.toList.flatMap fun x => own1 (resW S1 x)
  | .t (_ + 1) => []
  | .h lv k => own1 (.h (lv + 1) k)
  | .l lv k => own1 (.l (lv + 1) k)
 have noW : ∀ x ∈ fn.results.toList, ∀ lv k, resW S1 x ≠ .h (lv + 1) k ∧ resW S1 x ≠ .l (lv + 1) k := by
  intro x hx lv k
  cases x with
  | tmp t => simp [resW]
  | cell t T =>
   obtain ⟨q, y, ti, h1, -⟩ := (r1 _ hx).1
   simp [resW, h1]
 have src2 : ∀ x b, b ∈ own2 x → (x = .t 0 ∧ ∃ z ∈ fn.results.toList, b ∈ own1 (resW S1 z)) ∨ (∃ lv k, x = .h lv k ∧ b ∈ own1 (.h (lv + 1) k)) ∨ (∃ lv k, x = .l lv k ∧ b ∈ own1 (.l (lv + 1) k)) := by
  intro x b hb
  match x with
  | .t 0 => exact .inl ⟨rfl, hsrc b hb⟩
  | .t (_ + 1) => simp [own2] at hb
  | .h lv k => exact .inr (.inl ⟨lv, k, rfl, hb⟩)
  | .l lv k => exact .inr (.inr ⟨lv, k, rfl, hb⟩)
 have hfin : ∃ F' own', Rel w1 F' Θ own' (retS r h') ⟨#[v], []⟩ ∧ Stp w F Θ own w1 F' Θ own' := by
  refine ⟨F1, own2, ⟨rfl, rfl, fun t => ?_, fun lv k hq => ?_, fun lv k cn hq => ?_, fun x => ?_, fun x y hxy b hx hy => ?_, fun x b hb => ?_, hR1.top, hR1.gl⟩, ⟨⟨hS1.ks.os, hS1.ks.tape, hS1.ks.output, hS1.ks.size, hS1.ks.cell, hS1.ks.mono, fun b hb hne => hS1.ks.out b hb (fun ⟨x, hx⟩ => hne (hPs x b hx))⟩, fun x b hb => ?_, fun _ _ => rfl⟩⟩
  ·cases t with
   | zero => simpa [retS] using v2
   | succ t => simp [retS, rv, own2]
  ·have h0 : hpg S1.hp (lv + 1) k = none := by
    rw [hh]
    show hpg (upH h') lv k = none
    have hq' : hpg h' lv k = none := hq
    rw [hpg_upH, hq']; rfl
   obtain ⟨g1, g2, g3⟩ := hR1.hn (lv + 1) k h0
   exact ⟨by rw [← hT]; exact g1, g2, g3⟩
  ·have h0 : hpg S1.hp (lv + 1) k = some cn.up := by
    rw [hh]
    show hpg (upH h') lv k = some cn.up
    have hq' : hpg h' lv k = some cn := hq
    rw [hpg_upH, hq']; rfl
   obtain ⟨b, s, cur, t, g1, g2, g3, g4, g5, g6⟩ := hR1.hs (lv + 1) k _ h0
   exact ⟨b, s, cur, t, by rw [← hT]; exact g1, g2, g3, by rw [← AV.csh_up]; exact g4, g5, rc.pop hT _ _ _ g6⟩
  ·match x with
   | .t 0 => exact hnd
   | .t (_ + 1) => exact List.nodup_nil
   | .h lv k => exact hR1.nd _
   | .l lv k => exact hR1.nd _
  ·rcases src2 x b hx with ⟨rfl, z, hz, hb⟩ | ⟨lv, k, rfl, hb⟩ | ⟨lv, k, rfl, hb⟩ <;> rcases src2 y b hy with ⟨rfl, z', hz', hb'⟩ | ⟨lv', k', rfl, hb'⟩ | ⟨lv', k', rfl, hb'⟩
   ·exact hxy rfl
   ·exact hR1.dj _ _ (noW z hz lv' k').1 b hb hb'
   ·exact hR1.dj _ _ (noW z hz lv' k').2 b hb hb'
   ·exact hR1.dj _ _ (noW z' hz' lv k).1 b hb' hb
   ·exact hR1.dj _ _ (by simpa using hxy) b hb hb'
   ·exact hR1.dj _ _ (by simp) b hb hb'
   ·exact hR1.dj _ _ (noW z' hz' lv k).2 b hb' hb
   ·exact hR1.dj _ _ (by simp) b hb hb'
   ·exact hR1.dj _ _ (by simpa using hxy) b hb hb'
  ·rcases src2 x b hb with ⟨rfl, z, hz, hb⟩ | ⟨lv, k, rfl, hb⟩ | ⟨lv, k, rfl, hb⟩
   ·exact hR1.lt _ b hb
   ·exact hR1.lt _ b hb
   ·exact hR1.lt _ b hb
  ·have : ∃ y, b ∈ own1 y := by
    rcases src2 x b hb with ⟨rfl, z, hz, hb⟩ | ⟨lv, k, rfl, hb⟩ | ⟨lv, k, rfl, hb⟩
    ·exact ⟨_, hb⟩
    ·exact ⟨_, hb⟩
    ·exact ⟨_, hb⟩
   obtain ⟨y, hy⟩ := this
   rcases hS1.fr y b hy with ⟨z, hz⟩ | hz
   ·exact .inl (hPs z b hz)
   ·exact .inr hz
 obtain ⟨F', own', q1, q2⟩ := hfin
 have hdf := hR1.df
 rcases he with rfl | rfl
 ·exact ⟨hdf, v, v1, v, F', own', rfl, q1, q2⟩
 ·exact ⟨hdf, v, v1, v, F', own', rfl, q1, q2⟩
inductive Ef where
  | val
  | ld (lv k : Nat)
  | al (k : Nat) (cn : AV)
  | st (lv k : Nat) (cn : AV)
  | hp (h : HP)
structure Fsk where
  o : Oper
  ts : List Nat
  r : AV
  ef : Ef
def Ef.ap : Ef → HP → HP
  | .val, h => h
  | .ld _ _, h => h
  | .al k cn, h => hps h 0 k (some cn)
  | .st lv k cn, h => hps h lv k (some cn)
  | .hp h', _ => h'
def Fsk.ap (f : Fsk) (S : St) : St := ⟨S.n, putF (clrs S.tm f.ts) f.o.dst f.r, f.ef.ap S.hp⟩
def Ef.agr : Ef → HP → HP → Prop
  | .val, _, _ => True
  | .ld lv k, h, h' => hpg h' lv k = hpg h lv k
  | .al k _, h, h' => hpg h' 0 k = hpg h 0 k ∧ h'.length = h.length
  | .st lv k _, h, h' => hpg h' lv k = hpg h lv k
  | .hp _, h, h' => h' = h
/-- the state S' looks like S to the operation -/
structure Fsk.agr (ops : Array Oper) (f : Fsk) (S S' : St) : Prop where
  n : S'.n = S.n
  rd : ∀ t ∈ f.o.looksAt ops, (S'.tm t).vw = (S.tm t).vw
  ts : ∀ t ∈ f.ts, S'.tm t = S.tm t
  hp : f.ef.agr S.hp S'.hp
def Fsk.valid (c : Cx) (ops : Array Oper) (f : Fsk) (S : St) : Prop := ∀ S', f.agr ops S S' → OS c ops f.o S' (f.ap S')
theorem Fsk.agr.refl {ops : Array Oper} {f : Fsk} {S : St} : f.agr ops S S := ⟨rfl, fun _ _ => rfl, fun _ _ => rfl, by cases f.ef <;> simp [Ef.agr]⟩
theorem Fsk.agr.trans {ops : Array Oper} {f : Fsk} {S1 S2 S3 : St} (h : f.agr ops S1 S2) (k : f.agr ops S2 S3) : f.agr ops S1 S3 := by
  refine ⟨k.n.trans h.n, fun t ht => (k.rd t ht).trans (h.rd t ht), fun t ht => (k.ts t ht).trans (h.ts t ht), ?_⟩
  have h1 := h.hp; have h2 := k.hp
  cases he : f.ef <;> rw [he] at h1 h2 <;> simp only [Ef.agr] at h1 h2 ⊢
  · exact h2.trans h1
  · exact ⟨h2.1.trans h1.1, h2.2.trans h1.2⟩
  · exact h2.trans h1
  · exact h2.trans h1
theorem Fsk.valid.agr {c : Cx} {ops : Array Oper} {f : Fsk} {S S' : St} (h : f.valid c ops S) (k : f.agr ops S S') : f.valid c ops S' := fun S2 q => h S2 (k.trans q)
/-- kinds that may change their places: x ahead of y in the text, y done first -/
def kindB : Ef → Ef → Bool
  | .val, .val => true
  | .val, .ld _ _ => true
  | .ld _ _, .val => true
  | .ld _ _, .ld _ _ => true
  | .val, .al _ _ => true
  | .al _ _, .val => true
  | .ld _ _, .al _ _ => true
  | .val, .hp _ => true
  | .hp _, .val => true
  | .val, .st _ _ _ => true
  | .st _ _ _, .val => true
  | .ld a b, .st p q _ => !(a == p && b == q)
  | .st a b _, .ld p q => !(a == p && b == q)
  | .st a b _, .al k _ => !(a == 0 && b == k)
  | _, _ => false
def indB (ops : Array Oper) (x y : Fsk) : Bool :=
  (match x.o.dst with
   | some d => !(y.o.looksAt ops).contains d && !y.ts.contains d && y.o.dst != some d
   | none => true) &&
  (match y.o.dst with
   | some d => !(x.o.looksAt ops).contains d && !x.ts.contains d
   | none => true) &&
  (x.ts.all fun t => !y.ts.contains t) && kindB x.ef y.ef
structure Ind (ops : Array Oper) (x y : Fsk) : Prop where
  xy : ∀ d, x.o.dst = some d → d ∉ y.o.looksAt ops ∧ d ∉ y.ts ∧ y.o.dst ≠ some d
  yx : ∀ d, y.o.dst = some d → d ∉ x.o.looksAt ops ∧ d ∉ x.ts
  ts : ∀ t ∈ x.ts, t ∉ y.ts
  kd : kindB x.ef y.ef = true
theorem ind_spec {ops : Array Oper} {x y : Fsk} (h : indB ops x y = true) : Ind ops x y := by
  simp only [indB, Bool.and_eq_true] at h
  obtain ⟨⟨⟨h1, h2⟩, h3⟩, h4⟩ := h
  refine ⟨fun d hd => ?_, fun d hd => ?_, fun t ht => ?_, h4⟩
  · rw [hd] at h1
    simp only [Bool.and_eq_true, Bool.not_eq_true', List.contains_eq_mem, decide_eq_false_iff_not, bne_iff_ne] at h1
    exact ⟨h1.1.1, h1.1.2, h1.2⟩
  · rw [hd] at h2
    simp only [Bool.and_eq_true, Bool.not_eq_true', List.contains_eq_mem, decide_eq_false_iff_not] at h2
    exact h2
  · simp only [List.all_eq_true, Bool.not_eq_true', List.contains_eq_mem, decide_eq_false_iff_not] at h3
    exact h3 t ht
theorem ap_tm (f : Fsk) (S : St) (t : Nat) (h : f.o.dst ≠ some t) : (f.ap S).tm t = if t ∈ f.ts then (S.tm t).vw else S.tm t := by
  show putF (clrs S.tm f.ts) f.o.dst f.r t = _
  have : putF (clrs S.tm f.ts) f.o.dst f.r t = clrs S.tm f.ts t := by
    cases hd : f.o.dst with
    | none => rfl
    | some d => exact upd_ne _ _ (fun e => h (by rw [hd, e]))
  rw [this, clrs_get]
theorem hps_comm : ∀ (h : HP) (a b k : Nat) (u v : Option AV), ¬ (a = 0 ∧ b = k) → hps (hps h 0 k v) a b u = hps (hps h a b u) 0 k v
  | [], _, _, _, _, _, _ => rfl
  | f :: h, 0, b, k, u, v, n => by
    show upd (upd f k v) b u :: h = upd (upd f b u) k v :: h
    congr 1
    funext q
    simp only [upd]
    cases hb : q == b <;> cases hk : q == k <;> simp
    simp only [beq_iff_eq] at hb hk
    exact absurd ⟨rfl, hb.symm.trans hk⟩ n
  | f :: h, a + 1, b, k, u, v, _ => rfl
theorem hps_len : ∀ (h : HP) (lv k : Nat) (v : Option AV), (hps h lv k v).length = h.length
  | [], _, _, _ => rfl
  | _ :: _, 0, _, _ => rfl
  | _ :: h, lv + 1, k, v => by simp only [hps, List.length_cons, hps_len h lv k v]
/-- what x does, y does not see: y looks the same ahead of x -/
theorem agr_y {ops : Array Oper} {x y : Fsk} (I : Ind ops x y) (S : St) : y.agr ops (x.ap S) S := by
  have hd : ∀ t, t ∈ y.o.looksAt ops ∨ t ∈ y.ts → x.o.dst ≠ some t := fun t ht e => by
    have := I.xy t e
    rcases ht with h | h
    · exact this.1 h
    · exact this.2.1 h
  refine ⟨rfl, fun t ht => ?_, fun t ht => ?_, ?_⟩
  · rw [ap_tm x S t (hd t (.inl ht))]
    split
    · rw [AV.vw_vw]
    · rfl
  · rw [ap_tm x S t (hd t (.inr ht)), if_neg (fun h => I.ts t h ht)]
  · have hk := I.kd
    show y.ef.agr (x.ef.ap S.hp) S.hp
    cases hx : x.ef <;> cases hy : y.ef <;> rw [hx, hy] at hk <;> simp only [kindB, Bool.false_eq_true] at hk <;> simp [Ef.agr, Ef.ap]
    · rw [hpg_hps, if_neg]
      rintro ⟨rfl, rfl, -⟩
      simp at hk
    · refine ⟨?_, (hps_len _ _ _ _).symm⟩
      rw [hpg_hps, if_neg]
      rintro ⟨e1, e2, -⟩
      simp [← e1, ← e2] at hk
/-- and x sees nothing of y, where y is done first (a new variable is another one than those that x reads) -/
theorem agr_x {ops : Array Oper} {x y : Fsk} (I : Ind ops x y) (S : St) (hy : ∀ k cn, y.ef = .al k cn → ∀ lv q, x.ef = .ld lv q → ¬ (lv = 0 ∧ q = k)) : x.agr ops S (y.ap S) := by
  have hd : ∀ t, t ∈ x.o.looksAt ops ∨ t ∈ x.ts → y.o.dst ≠ some t := fun t ht e => by
    have := I.yx t e
    rcases ht with h | h
    · exact this.1 h
    · exact this.2 h
  refine ⟨rfl, fun t ht => ?_, fun t ht => ?_, ?_⟩
  · rw [ap_tm y S t (hd t (.inl ht))]
    split
    · rw [AV.vw_vw]
    · rfl
  · rw [ap_tm y S t (hd t (.inr ht)), if_neg (fun h => I.ts t ht h)]
  · have hk := I.kd
    show x.ef.agr S.hp (y.ef.ap S.hp)
    cases hx : x.ef <;> cases hy2 : y.ef <;> rw [hx, hy2] at hk <;> simp only [kindB, Bool.false_eq_true] at hk <;> simp [Ef.agr, Ef.ap]
    · rename_i lv q k cn
      rw [hpg_hps, if_neg]
      rintro ⟨rfl, rfl, -⟩
      exact hy _ _ hy2 _ _ hx ⟨rfl, rfl⟩
    · rw [hpg_hps, if_neg]
      rintro ⟨rfl, rfl, -⟩
      simp at hk
    · rw [hpg_hps, if_neg]
      rintro ⟨e1, e2, -⟩
      simp [e1, e2] at hk
theorem ap_comm {ops : Array Oper} {x y : Fsk} (I : Ind ops x y) (S : St) : x.ap (y.ap S) = y.ap (x.ap S) := by
  have htm : (x.ap (y.ap S)).tm = (y.ap (x.ap S)).tm := by
    funext t
    by_cases hx : x.o.dst = some t
    · have hy : y.o.dst ≠ some t := (I.xy t hx).2.2
      have h1 : (x.ap (y.ap S)).tm t = x.r := by
        show putF _ x.o.dst x.r t = _
        rw [hx]; exact upd_self _ _ _
      rw [h1, ap_tm y _ t hy, if_neg (I.xy t hx).2.1]
      show x.r = putF _ x.o.dst x.r t
      rw [hx]; exact (upd_self _ _ _).symm
    · by_cases hy : y.o.dst = some t
      · have h1 : (y.ap (x.ap S)).tm t = y.r := by
          show putF _ y.o.dst y.r t = _
          rw [hy]; exact upd_self _ _ _
        rw [h1, ap_tm x _ t hx, if_neg (I.yx t hy).2]
        show putF _ y.o.dst y.r t = _
        rw [hy]; exact upd_self _ _ _
      · rw [ap_tm x _ t hx, ap_tm y _ t hy, ap_tm y _ t hy, ap_tm x _ t hx]
        by_cases h1 : t ∈ x.ts
        · by_cases h2 : t ∈ y.ts
          · exact absurd h2 (I.ts t h1)
          · simp only [if_pos h1, if_neg h2]
        · simp only [if_neg h1]
  have hhp : (x.ap (y.ap S)).hp = (y.ap (x.ap S)).hp := by
    have hk := I.kd
    show x.ef.ap (y.ef.ap S.hp) = y.ef.ap (x.ef.ap S.hp)
    cases hx : x.ef <;> cases hy : y.ef <;> rw [hx, hy] at hk <;> simp only [kindB, Bool.false_eq_true] at hk <;> first | rfl | exact hps_comm _ _ _ _ _ _ (fun q => by simp [q.1, q.2] at hk)
  show (⟨_, _, _⟩ : St) = ⟨_, _, _⟩
  congr 1
/-- a row of operations, each sound where it stands -/
def Pth (c : Cx) (ops : Array Oper) : List Fsk → St → St → Prop
  | [], S, S' => S = S'
  | f :: l, S, S' => (f.valid c ops S ∧ (∀ lv q, f.ef = .ld lv q → hpg S.hp lv q ≠ none) ∧ (∀ k cn, f.ef = .al k cn → hpg S.hp 0 k = none)) ∧ Pth c ops l (f.ap S) S'
theorem Pth.front {c : Cx} {ops : Array Oper} {y : Fsk} {l : List Fsk} : ∀ (xs : List Fsk) (S S' : St), Pth c ops (xs ++ y :: l) S S' → (∀ x ∈ xs, Ind ops x y) →
    (y.valid c ops S ∧ (∀ lv q, y.ef = .ld lv q → hpg S.hp lv q ≠ none) ∧ (∀ k cn, y.ef = .al k cn → hpg S.hp 0 k = none)) ∧ Pth c ops (xs ++ l) (y.ap S) S'
  | [], S, S', h, _ => h
  | x :: xs, S, S', h, hI => by
    obtain ⟨⟨h1, h2, h3⟩, h4⟩ := h
    obtain ⟨⟨k1, k2, k3⟩, k4⟩ := Pth.front xs (x.ap S) S' h4 (fun z hz => hI z (by simp [hz]))
    have I := hI x (by simp)
    have e1 := agr_y I S
    have hkd := I.kd
    have q2 : ∀ lv q, y.ef = .ld lv q → hpg S.hp lv q ≠ none := fun lv q hy => by
      have h0 := k2 lv q hy
      have h5 := e1.hp
      rw [hy] at h5
      simp only [Ef.agr] at h5
      rw [h5]; exact h0
    have q3 : ∀ k cn, y.ef = .al k cn → hpg S.hp 0 k = none := fun k cn hy => by
      have h0 := k3 k cn hy
      have h5 := e1.hp
      rw [hy] at h5
      simp only [Ef.agr] at h5
      rw [h5.1]; exact h0
    have hne : ∀ k cn, y.ef = .al k cn → ∀ lv q, x.ef = .ld lv q → ¬ (lv = 0 ∧ q = k) := fun k cn hy lv q hx ⟨e2, e3⟩ => by
      subst e2; subst e3
      exact h2 _ _ hx (q3 _ _ hy)
    have e2 := agr_x I S hne
    refine ⟨⟨k1.agr e1, q2, q3⟩, ⟨h1.agr e2, fun lv q hx => ?_, fun k cn hx => ?_⟩, ?_⟩
    · have h5 := e2.hp
      rw [hx] at h5
      simp only [Ef.agr] at h5
      rw [h5]; exact h2 lv q hx
    · have h5 := e2.hp
      rw [hx] at h5
      simp only [Ef.agr] at h5
      rw [h5.1]; exact h3 k cn hx
    · show Pth c ops (xs ++ l) (x.ap (y.ap S)) S'
      rw [ap_comm I]
      exact k4
/-- one operation waits for another one, by others or not -/
def depE (ops : Array Oper) : Nat → Nat → Nat → Bool
  | 0, _, _ => false
  | n + 1, a, i => match ops[a]? with
    | none => false
    | some o => o.after.toList.any fun e => Region.binds .any e && (e.on == i || depE ops n e.on i)
def drawB (ops : Array Oper) (fs : List Fsk) : Bool :=
  (fs.length == ops.size) && ((List.range ops.size).all fun i => match ops[i]? with
    | none => false
    | some o => o.after.toList.all fun e => !Region.binds .any e || decide (e.on < i)) &&
  ((List.range ops.size).all fun j => (List.range j).all fun i => depE ops ops.size j i || match fs[i]?, fs[j]? with
    | some x, some y => indB ops x y
    | _, _ => false)
end Go.Proofs.YtdooklofebdknaaGreat
