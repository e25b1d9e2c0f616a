/- Den14: a function, from its body. No condition. -/
import Derived.Test.YtkmiecgcibjkbaaGreatDen13
namespace Go.Proofs.YtkmiecgcibjkbaaGreat
open Go.RowKit
set_option linter.unusedVariables false
set_option linter.unusedSimpArgs false
def upH (h : HP) : HP := h.map fun f k => (f k).map AV.up
theorem hpg_upH : ∀ (h : HP) (lv k : Nat), hpg (upH h) lv k = (hpg h lv k).map AV.up
  | [], lv, k => rfl
  | f :: h, 0, k => rfl
  | f :: h, lv + 1, k => hpg_upH h lv k
mutual
theorem AV.nz_up : ∀ a : AV, a.up.nz
  | .un => trivial
  | .d _ => trivial
  | .pt _ _ _ => Nat.succ_pos _
  | .el _ => trivial
  | .rw _ _ _ => Nat.succ_pos _
  | .tp l => by simp only [AV.up, AV.nz]; exact AV.nzs_up l
  | .fn _ c => by simp only [AV.up, AV.nz]; exact AV.nzs_up c
theorem AV.nzs_up : ∀ l : List AV, AV.nzs (AV.ups l)
  | [] => trivial
  | a :: l => by simp only [AV.ups, AV.nzs]; exact ⟨AV.nz_up a, AV.nzs_up l⟩
end
mutual
theorem AV.dn_up : ∀ a : AV, a.up.dn = a
  | .un => rfl
  | .d _ => rfl
  | .pt _ _ _ => rfl
  | .el _ => rfl
  | .rw _ _ _ => rfl
  | .tp l => by simp only [AV.up, AV.dn, AV.dns_up l]
  | .fn _ c => by simp only [AV.up, AV.dn, AV.dns_up c]
theorem AV.dns_up : ∀ l : List AV, AV.dns (AV.ups l) = l
  | [] => rfl
  | a :: l => by simp only [AV.ups, AV.dns, AV.dn_up a, AV.dns_up l]
end
theorem AV.csh_up (a : AV) : a.up.csh = a.csh := by cases a <;> rfl
theorem rc.push {w : World} {F : Nat → Nat} {Θ Θ' : Ty} (hT : ∀ lv k, Θ' (lv + 1) k = Θ lv k) (c : AV) (cs : List Value) (bs : List Nat) (h : rc w F Θ c cs bs) : rc w F Θ' c.up cs bs := by
  cases c <;> simp only [rc, AV.up] at h ⊢
  case d x => exact h
  all_goals
    obtain ⟨v, h1, h2, h3⟩ := h
    refine ⟨v, h1, h2, ?_⟩
    have := rv.push hT _ _ _ h3
    simpa only [AV.up] using this
theorem rc.pop {w : World} {F : Nat → Nat} {Θ Θ' : Ty} (hT : ∀ lv k, Θ' (lv + 1) k = Θ lv k) (c : AV) (cs : List Value) (bs : List Nat) (h : rc w F Θ' c.up cs bs) : rc w F Θ c cs bs := by
  have key : ∀ a : AV, ∀ v, rv w F Θ' a.up v bs → rv w F Θ a v bs := fun a v q => by
    have := rv.pop hT a.up v bs (AV.nz_up a) q
    rwa [AV.dn_up] at this
  cases c <;> simp only [rc, AV.up] at h ⊢
  case d x => exact h
  all_goals
    obtain ⟨v, h1, h2, h3⟩ := h
    refine ⟨v, h1, h2, key _ v ?_⟩
    simpa only [AV.up] using h3
theorem Rel.push {w : World} {F : Nat → Nat} {Θ : Ty} {own : Who → List Nat} {args : List AV} {h : HP} {vs : List Value} (hR : Rel w F Θ own (entS args h) ⟨vs.toArray, []⟩) (n : Nat) (hn : args.length ≤ n) :
    ∃ own', Rel w F Θ.push own' ⟨n, fun t => (args.getD t .un).up, (fun _ => none) :: upH h⟩ ⟨vs.toArray ++ Array.replicate (n - vs.toArray.size) undef, []⟩ ∧ ∀ x b, b ∈ own' x → ∃ y, b ∈ own y := by
  have hvl : vs.length = args.length := by have := hR.n; simpa [entS] using this
  have hT : ∀ lv k, Θ.push (lv + 1) k = Θ lv k := fun _ _ => rfl
  let own' : Who → List Nat := fun
    | .t t => own (.t t)
    | .h 0 _ => []
    | .h (lv + 1) k => own (.h lv k)
    | .l 0 _ => []
    | .l (lv + 1) k => own (.l lv k)
  have src : ∀ x b, b ∈ own' x → ∃ y, b ∈ own y ∧ (match x with | .t t => y = .t t | .h (lv + 1) k => y = .h lv k | .l (lv + 1) k => y = .l lv k | _ => False) := by
    intro x b hb
    match x with
    | .t t => exact ⟨_, hb, rfl⟩
    | .h 0 _ => simp [own'] at hb
    | .h (lv + 1) k => exact ⟨_, hb, rfl⟩
    | .l 0 _ => simp [own'] at hb
    | .l (lv + 1) k => exact ⟨_, hb, rfl⟩
  refine ⟨own', ⟨?_, rfl, fun t => ?_, fun lv k hq => ?_, fun lv k cn hq => ?_, fun x => ?_, fun x y hxy b hx hy => ?_, fun x b hb => ?_, hR.top⟩, fun x b hb => by obtain ⟨y, h1, -⟩ := src x b hb; exact ⟨y, h1⟩⟩
  · simp; omega
  · have h1 := rv.push hT _ _ _ (hR.tm t)
    have e : (vs.toArray ++ Array.replicate (n - vs.toArray.size) undef).getD t undef = vs.toArray.getD t undef := by
      simp only [Array.getD_eq_getD_getElem?, Array.getElem?_append]
      split
      · rfl
      · rename_i hlt
        have : vs.toArray[t]? = none := Array.getElem?_eq_none (by omega)
        rw [this, Array.getElem?_replicate]
        split <;> rfl
    rw [e]
    exact h1
  · cases lv with
    | zero => exact ⟨rfl, rfl, rfl⟩
    | succ lv =>
      have : hpg h lv k = none := by
        have hq' : hpg (upH h) lv k = none := hq
        rw [hpg_upH] at hq'
        cases hh : hpg h lv k with
        | none => rfl
        | some v => rw [hh] at hq'; cases hq'
      exact hR.hn lv k this
  · cases lv with
    | zero => cases hq
    | succ lv =>
      have hq' : hpg (upH h) lv k = some cn := hq
      rw [hpg_upH] at hq'
      cases hh : hpg h lv k with
      | none => rw [hh] at hq'; cases hq'
      | some c0 =>
        rw [hh] at hq'
        simp only [Option.map_some, Option.some.injEq] at hq'
        subst hq'
        obtain ⟨b, s, cur, t, h1, h2, h3, h4, h5, h6⟩ := hR.hs lv k c0 hh
        exact ⟨b, s, cur, t, h1, h2, h3, by rw [AV.csh_up]; exact h4, h5, rc.push hT _ _ _ h6⟩
  · match x with
    | .t t => exact hR.nd _
    | .h 0 _ => exact List.nodup_nil
    | .h (lv + 1) k => exact hR.nd _
    | .l 0 _ => exact List.nodup_nil
    | .l (lv + 1) k => exact hR.nd _
  · obtain ⟨x', h1, h2⟩ := src x b hx
    obtain ⟨y', g1, g2⟩ := src y b hy
    refine hR.dj x' y' (fun e => hxy ?_) b h1 g1
    subst e
    match x, y with
    | .t t, .t u => simp only at h2 g2; rw [h2] at g2; cases g2; rfl
    | .t t, .h (lv + 1) k => simp only at h2 g2; rw [h2] at g2; cases g2
    | .t t, .l (lv + 1) k => simp only at h2 g2; rw [h2] at g2; cases g2
    | .h (lv + 1) k, .t u => simp only at h2 g2; rw [h2] at g2; cases g2
    | .h (lv + 1) k, .h (lv' + 1) k' => simp only at h2 g2; rw [h2] at g2; cases g2; rfl
    | .h (lv + 1) k, .l (lv' + 1) k' => simp only at h2 g2; rw [h2] at g2; cases g2
    | .l (lv + 1) k, .t u => simp only at h2 g2; rw [h2] at g2; cases g2
    | .l (lv + 1) k, .h (lv' + 1) k' => simp only at h2 g2; rw [h2] at g2; cases g2
    | .l (lv + 1) k, .l (lv' + 1) k' => simp only at h2 g2; rw [h2] at g2; cases g2; rfl
  · obtain ⟨y, h1, -⟩ := src x b hb
    exact hR.lt y b h1
/-- what a result variable holds at the end, and who owns it -/
def resV (S : St) : ResultVar → AV
  | .tmp t => S.tm t
  | .cell t _ => match S.tm t with
    | .pt 0 k [] => (hpg S.hp 0 k).getD .un
    | _ => .un
def resW (S : St) : ResultVar → Who
  | .tmp t => .t t
  | .cell t _ => match S.tm t with
    | .pt 0 k [] => .h 0 k
    | _ => .t t
def ResOk (c : Cx) (S : St) : ResultVar → Prop
  | .tmp _ => True
  | .cell t T => ∃ k y ti, S.tm t = .pt 0 k [] ∧ hpg S.hp 0 k = some (.d y) ∧ c.ty T = some ti ∧ y.sh = ti.sh
theorem res_run {c : Cx} {w : World} {F : Nat → Nat} {Θ : Ty} {own : Who → List Nat} {S : St} {a : Act} (h : Rel w F Θ own S a) (x : ResultVar) (hx : ResOk c S x) :
    ∃ v, (match x with | .tmp t => pure (a.tmps.getD t undef) | .cell t T => do loadVar T (← asAddr (a.tmps.getD t undef)) : Sem Value).run c.P w = .ok v w ∧ rv w F Θ (resV S x) v (own (resW S x)) := by
  cases x with
  | tmp t => exact ⟨_, rfl, h.tm t⟩
  | cell t T =>
    obtain ⟨k, y, ti, h1, h2, h3, h4⟩ := hx
    have hv := h.tm t
    rw [h1] at hv
    simp only [rv, offP_nil] at hv
    obtain ⟨-, b, s, off, e1, e2, e3⟩ := hv
    cases e2
    obtain ⟨b', s', cur, ty, z1, z2, z3, z4, z5, z6⟩ := h.hs 0 k _ h2
    rw [e1] at z1
    cases z1
    simp only [rc] at z6
    have hc : Cells w b 0 cur.toList := by
      intro j u hu
      rw [cell_of_row w b _ cur ty (0, 0) z5]
      simpa using hu
    refine ⟨y.mk cur.toList, ?_, ?_⟩
    · have := loadVar_run (c := c) (c.ok T ti h3) hc z6 h4
      simp only [Sem.run_bind]
      rw [e3]
      simp [asAddr, this]
    · simp only [resV, resW, h1, h2, Option.getD_some, rv]
      exact ⟨cur.toList, z6, rfl⟩
def Res (c : Cx) (fn : Func) (S : St) (r : AV) : Prop := (∀ x ∈ fn.results.toList, ResOk c S x ∧ (resV S x).nz) ∧ (fn.results.toList.map (resW S)).Nodup ∧ r = match fn.results.toList.map (fun x => (resV S x).dn) with
  | [x] => x
  | l => .tp l
theorem res_list {c : Cx} {w : World} {F : Nat → Nat} {Θ Θ1 : Ty} {own : Who → List Nat} {S : St} {a : Act} (h : Rel w F Θ1 own S a) (hT : ∀ lv k, Θ1 (lv + 1) k = Θ lv k) : ∀ (l : List ResultVar), (∀ x ∈ l, ResOk c S x ∧ (resV S x).nz) →
    ∃ vs, (l.mapM fun | .tmp t => pure (a.tmps.getD t undef) | .cell t T => do loadVar T (← asAddr (a.tmps.getD t undef)) : Sem (List Value)).run c.P w = .ok vs w ∧ rvS w F Θ (l.map fun x => (resV S x).dn) vs (l.flatMap fun x => own (resW S x)) ∧ vs.length = l.length
  | [], _ => ⟨[], by simp, by simp [rvS], rfl⟩
  | x :: l, hx => by
    obtain ⟨v, h1, h2⟩ := res_run h x (hx x (by simp)).1
    obtain ⟨vs, h3, h4, h5⟩ := res_list h hT l (fun y hy => hx y (by simp [hy]))
    refine ⟨v :: vs, ?_, ?_, by simp [h5]⟩
    · rw [List.mapM_cons]
      simp only [Sem.run_bind, h1, Result.andThen_ok, h3, Sem.run_pure]
    · simp only [List.map_cons, List.flatMap_cons, rvS]
      exact ⟨v, vs, _, _, rfl, rfl, rv.pop hT _ _ _ (hx x (by simp)).2 h2, h4⟩
theorem CS.of {c : Cx} {f : Nat} {fn : Func} {body : Code} (hf : FnOk c.P f fn body) (args : List AV) (h h' : HP) (r : AV) (hlen : args.length ≤ fn.ntmps)
    (hW : W c body ⟨fn.ntmps, fun t => (args.getD t .un).up, (fun _ => none) :: upH h⟩ (fun e S => (e = .normal ∨ e = .ret) ∧ (∃ f1, S.hp = f1 :: upH h') ∧ Res c fn S r)) : CS c.P f args h r h' := by
  intro w F Θ own vs hR
  obtain ⟨ownP, hP, hPs⟩ := hR.push fn.ntmps hlen
  refine calls_of_wp hf.get hf.bd (wp_mono (hW w F Θ.push ownP _ hP) fun e a1 w1 ⟨S1, F1, Θ1, own1, ⟨he, ⟨f1, hh⟩, hres⟩, hR1, hS1⟩ => ?_)
  have hT : ∀ lv k, Θ1 (lv + 1) k = Θ lv k := fun lv k => hS1.ty lv k
  obtain ⟨r1, r2, r3⟩ := hres
  obtain ⟨rs, k1, k2, k3⟩ := res_list (c := c) hR1 hT fn.results.toList r1
  have hsrc : ∀ b, b ∈ (fn.results.toList.flatMap fun x => own1 (resW S1 x)) → ∃ x ∈ fn.results.toList, b ∈ own1 (resW S1 x) := fun b hb => by
    obtain ⟨x, hx, q⟩ := List.mem_flatMap.1 hb; exact ⟨x, hx, q⟩
  have hnd : (fn.results.toList.flatMap fun x => own1 (resW S1 x)).Nodup := by
    refine List.pairwise_flatMap.2 ⟨fun x _ => hR1.nd _, ?_⟩
    have := List.pairwise_map.1 r2
    refine List.Pairwise.imp (fun {x y} hxy b hb q hq e => ?_) this
    subst e
    exact hR1.dj _ _ hxy b hb hq
  have hval : ∃ v, (results fn a1.tmps).run c.P w1 = .ok v w1 ∧ rv w1 F1 Θ r v (fn.results.toList.flatMap fun x => own1 (resW S1 x)) := by
    have hm : (fn.results.mapM fun | .tmp t => pure (a1.tmps.getD t undef) | .cell t T => do loadVar T (← asAddr (a1.tmps.getD t undef)) : Sem (Array Value)).run c.P w1 = .ok rs.toArray w1 := by
      rw [Array.mapM_eq_mapM_toList, map_eq_pure_bind, Sem.run_bind, k1]
      rfl
    have hres : results fn a1.tmps = (fn.results.mapM (fun | .tmp t => pure (a1.tmps.getD t undef) | .cell t T => do loadVar T (← asAddr (a1.tmps.getD t undef)) : ResultVar → Sem Value) >>= fun vs => pure (if h : vs.size = 1 then vs[0] else .tuple vs)) := rfl
    cases hl : fn.results.toList with
    | nil =>
      rw [hl] at k2 k3 r3
      simp only [List.map_nil] at r3
      subst r3
      refine ⟨.tuple rs.toArray, ?_, by simp only [rv]; exact ⟨rs, rfl, k2⟩⟩
      rw [hres, Sem.run_bind, hm]
      simp at k3
      simp [k3]
    | cons x l =>
      cases l with
      | nil =>
        rw [hl] at k2 k3 r3
        simp only [List.map_cons, List.map_nil] at r3 k2
        subst r3
        obtain ⟨v, rfl⟩ := List.length_eq_one_iff.1 k3
        simp only [rvS] at k2
        obtain ⟨v', r', b1, b2, e1, e2, g1, g2⟩ := k2
        simp only [List.cons.injEq] at e1
        obtain ⟨rfl, rfl⟩ := e1
        obtain ⟨-, rfl⟩ := g2
        refine ⟨v, ?_, by rw [e2]; simpa using g1⟩
        rw [hres, Sem.run_bind, hm]
        simp
      | cons y l =>
        rw [hl] at k2 k3 r3
        simp only [List.map_cons] at r3 k2
        subst r3
        refine ⟨.tuple rs.toArray, ?_, by simp only [rv]; exact ⟨rs, rfl, by simpa using k2⟩⟩
        rw [hres, Sem.run_bind, hm]
        simp only [List.length_cons] at k3
        have : ¬ rs.toArray.size = 1 := by simp; omega
        simp at this
        simp [this]
  obtain ⟨v, v1, v2⟩ := hval
  let own2 : Who → List Nat := fun
    | .t 0 => fn.results.toList.flatMap fun x => own1 (resW S1 x)
    | .t (_ + 1) => []
    | .h lv k => own1 (.h (lv + 1) k)
    | .l lv k => own1 (.l (lv + 1) k)
  have noW : ∀ x ∈ fn.results.toList, ∀ lv k, resW S1 x ≠ .h (lv + 1) k ∧ resW S1 x ≠ .l (lv + 1) k := by
    intro x hx lv k
    cases x with
    | tmp t => simp [resW]
    | cell t T =>
      obtain ⟨q, y, ti, h1, -⟩ := (r1 _ hx).1
      simp [resW, h1]
  have src2 : ∀ x b, b ∈ own2 x → (x = .t 0 ∧ ∃ z ∈ fn.results.toList, b ∈ own1 (resW S1 z)) ∨ (∃ lv k, x = .h lv k ∧ b ∈ own1 (.h (lv + 1) k)) ∨ (∃ lv k, x = .l lv k ∧ b ∈ own1 (.l (lv + 1) k)) := by
    intro x b hb
    match x with
    | .t 0 => exact .inl ⟨rfl, hsrc b hb⟩
    | .t (_ + 1) => simp [own2] at hb
    | .h lv k => exact .inr (.inl ⟨lv, k, rfl, hb⟩)
    | .l lv k => exact .inr (.inr ⟨lv, k, rfl, hb⟩)
  have hfin : ∃ F' own', Rel w1 F' Θ own' (retS r h') ⟨#[v], []⟩ ∧ Stp w F Θ own w1 F' Θ own' := by
    refine ⟨F1, own2, ⟨rfl, rfl, fun t => ?_, fun lv k hq => ?_, fun lv k cn hq => ?_, fun x => ?_, fun x y hxy b hx hy => ?_, fun x b hb => ?_, hR1.top⟩, ⟨⟨hS1.ks.os, hS1.ks.tape, hS1.ks.output, hS1.ks.size, hS1.ks.cell, hS1.ks.mono, fun b hb hne => hS1.ks.out b hb (fun ⟨x, hx⟩ => hne (hPs x b hx))⟩, fun x b hb => ?_, fun _ _ => rfl⟩⟩
    · cases t with
      | zero => simpa [retS] using v2
      | succ t => simp [retS, rv, own2]
    · have h0 : hpg S1.hp (lv + 1) k = none := by
        rw [hh]
        show hpg (upH h') lv k = none
        have hq' : hpg h' lv k = none := hq
        rw [hpg_upH, hq']; rfl
      obtain ⟨g1, g2, g3⟩ := hR1.hn (lv + 1) k h0
      exact ⟨by rw [← hT]; exact g1, g2, g3⟩
    · have h0 : hpg S1.hp (lv + 1) k = some cn.up := by
        rw [hh]
        show hpg (upH h') lv k = some cn.up
        have hq' : hpg h' lv k = some cn := hq
        rw [hpg_upH, hq']; rfl
      obtain ⟨b, s, cur, t, g1, g2, g3, g4, g5, g6⟩ := hR1.hs (lv + 1) k _ h0
      exact ⟨b, s, cur, t, by rw [← hT]; exact g1, g2, g3, by rw [← AV.csh_up]; exact g4, g5, rc.pop hT _ _ _ g6⟩
    · match x with
      | .t 0 => exact hnd
      | .t (_ + 1) => exact List.nodup_nil
      | .h lv k => exact hR1.nd _
      | .l lv k => exact hR1.nd _
    · rcases src2 x b hx with ⟨rfl, z, hz, hb⟩ | ⟨lv, k, rfl, hb⟩ | ⟨lv, k, rfl, hb⟩ <;> rcases src2 y b hy with ⟨rfl, z', hz', hb'⟩ | ⟨lv', k', rfl, hb'⟩ | ⟨lv', k', rfl, hb'⟩
      · exact hxy rfl
      · exact hR1.dj _ _ (noW z hz lv' k').1 b hb hb'
      · exact hR1.dj _ _ (noW z hz lv' k').2 b hb hb'
      · exact hR1.dj _ _ (noW z' hz' lv k).1 b hb' hb
      · exact hR1.dj _ _ (by simpa using hxy) b hb hb'
      · exact hR1.dj _ _ (by simp) b hb hb'
      · exact hR1.dj _ _ (noW z' hz' lv k).2 b hb' hb
      · exact hR1.dj _ _ (by simp) b hb hb'
      · exact hR1.dj _ _ (by simpa using hxy) b hb hb'
    · rcases src2 x b hb with ⟨rfl, z, hz, hb⟩ | ⟨lv, k, rfl, hb⟩ | ⟨lv, k, rfl, hb⟩
      · exact hR1.lt _ b hb
      · exact hR1.lt _ b hb
      · exact hR1.lt _ b hb
    · have : ∃ y, b ∈ own1 y := by
        rcases src2 x b hb with ⟨rfl, z, hz, hb⟩ | ⟨lv, k, rfl, hb⟩ | ⟨lv, k, rfl, hb⟩
        · exact ⟨_, hb⟩
        · exact ⟨_, hb⟩
        · exact ⟨_, hb⟩
      obtain ⟨y, hy⟩ := this
      rcases hS1.fr y b hy with ⟨z, hz⟩ | hz
      · exact .inl (hPs z b hz)
      · exact .inr hz
  obtain ⟨F', own', q1, q2⟩ := hfin
  have hdf := hR1.df
  rcases he with rfl | rfl
  · exact ⟨hdf, v, v1, v, F', own', rfl, q1, q2⟩
  · exact ⟨hdf, v, v1, v, F', own', rfl, q1, q2⟩
end Go.Proofs.YtkmiecgcibjkbaaGreat
