/- Den35: rules that find their own way: one rule for a step, contracts found by their class; What is well formed: the declarations by name, and the codes of types, expressions and items (plain definitions). No condition but sizes. -/
import Derived.Test.YtdooklofebdknaaGreatM28
namespace Go.Proofs.YtdooklofebdknaaGreat
open Go.RowKit
set_option linter.unusedVariables false
/-- a contract that a call finds by itself: under pre, the function g hands back r for the arguments as' -/
class Ct (c : Cx) (g : Nat) (as' : List AV) (pre : outParam Prop) (r : outParam AV) : Prop where
 ok : ∃ fn body, FnOk c.P g fn body
 cs : pre → ∀ h, CS c.P g as' h r h
theorem fk1 {c : Cx} {g : Nat} {fn : Func} (h : c.P.funcs[g]? = some fn) (hb : fn.body.isSome = true := by rfl) (hnm : (fn.name == "runtime.NumGoroutine") = false := by rfl) : ∃ fn body, FnOk c.P g fn body := by
 obtain ⟨b, h1⟩ := fok (c := c) h hb hnm
 exact ⟨fn, b, h1⟩
def isCall (o : Oper) : Bool := match o.op with
 | .call { callee := .value _, .. } => true
 | _ => false
structure Two (p q : Prop) : Prop where
 l : p
 r : q
/-- the operations of a region begin; a leaf -/
structure RG (p : Prop) : Prop where
 r : p
structure LF (p : Prop) : Prop where
 r : p
structure RF (p q : Prop) : Prop where
 r : p → q
/-- results -/
structure RL (c : Cx) (rs : List ResultVar) (S : St) (r : AV) : Prop where
 ok : ∀ x ∈ rs, ResOk c S x ∧ (resV S x).nz
 nd : (rs.map (resW S)).Nodup
 eq : (match rs.map (fun x => (resV S x).dn) with
  | [x] => x
  | l => .tp l) = r
structure RQ (c : Cx) (rs : List ResultVar) (h' : HP) (r : AV) (e : Exit) (S : St) : Prop where
 e : e = .normal ∨ e = .ret
 h : ∃ f1, S.hp = f1 :: upH h'
 r : RL c rs S r
theorem RL.res {c : Cx} {fn : Func} {rs : List ResultVar} {S : St} {r : AV} (hr : fn.results.toList = rs) (h : RL c rs S r) : Res c fn S r := by
 unfold Res
 rw [hr]
 exact ⟨h.ok, h.nd, h.eq.symm⟩
theorem Xe {c : Cx} {f : Nat} {fn : Func} {body : Code} {args : List AV} {h h' : HP} {r : AV} (hget : c.P.funcs[f]? = some fn) (hbd : fn.body = some body) (n : Nat) (rs : List ResultVar) (hW : W c body ⟨n, tl (mkl 0 args), al [] :: upH h⟩ (RQ c rs h' r)) (hrs : fn.results.toList = rs := by rfl) (hn : fn.ntmps = n := by rfl) (hlen : args.length ≤ n := by simp) (hnm : (fn.name == "runtime.NumGoroutine") = false := by rfl) : CS c.P f args h r h' :=
 Ze hget hbd n (hW.mono fun e S q => ⟨q.e, q.h, q.r.res hrs⟩) hn hlen hnm
/-- the same; the results are looked at only -/
def vwR : List ResultVar → St → St
 | [], S => S
 | .tmp t :: l, S => vwR l ⟨S.n, upd S.tm t (S.tm t).vw, S.hp⟩
 | .cell t _ :: l, S => match S.tm t with
  | .pt 0 k [] => match hpg S.hp 0 k with
   | some (.d x) => vwR l ⟨S.n, S.tm, hps S.hp 0 k (some (.d x.vw))⟩
   | _ => vwR l S
  | _ => vwR l S
theorem wz_clr (S : St) (ts : List Nat) : Wz S ⟨S.n, clrs S.tm ts, S.hp⟩ := fun w F Θ own a hR => by
 obtain ⟨own2, g1, g2⟩ := hR.fin none (by simp) ts .un undef [] (Ks.refl _ _ _) hR.top (by simp only [rv]) List.nodup_nil (by simp) (by simp)
 exact ⟨F, Θ, own2, g1, g2⟩
theorem wz_vwH {S : St} {k : Nat} {x : DD} (hk : hpg S.hp 0 k = some (.d x)) : Wz S ⟨S.n, S.tm, hps S.hp 0 k (some (.d x.vw))⟩ := fun w F Θ own a hR => by
 have hl := hpg_lt _ _ _ _ hk
 let own' : Who → List Nat := fun y => if y = .h 0 k then [] else own y
 have o1 : ∀ y b, b ∈ own' y → b ∈ own y := fun y b hb => by
  have hb' : b ∈ (if y = .h 0 k then [] else own y) := hb
  split at hb'
  ·simp at hb'
  ·exact hb'
 have o2 : ∀ y, y ≠ .h 0 k → own' y = own y := fun y hy => if_neg hy
 refine ⟨F, Θ, own', ⟨hR.n, hR.df, fun t => by rw [o2 _ (by simp)]; exact hR.tm t, fun lv q hq => ?_, fun lv q cn hq => ?_, fun y => ?_, fun y z hyz b hb hc => hR.dj y z hyz b (o1 y b hb) (o1 z b hc), fun y b hb => hR.lt y b (o1 y b hb), hR.top, hR.gl⟩, ⟨Ks.refl _ _ _, fun y b hb => .inl ⟨y, o1 y b hb⟩, fun _ _ => rfl⟩⟩
 ·rw [hpg_hps] at hq
  split at hq
  ·cases hq
  ·rename_i hne
   have hne2 : ¬ (Who.h lv q = .h 0 k) := fun e => by cases e; exact hne ⟨rfl, rfl, hl⟩
   obtain ⟨h1, h2, h3⟩ := hR.hn lv q hq
   exact ⟨h1, by rw [o2 _ hne2]; exact h2, by rw [o2 _ (by simp)]; exact h3⟩
 ·rw [hpg_hps] at hq
  split at hq
  ·rename_i he
   obtain ⟨rfl, rfl, -⟩ := he
   cases hq
   obtain ⟨b, s, cur, ty, g1, g2, g3, g4, g5, g6⟩ := hR.hs _ _ _ hk
   refine ⟨b, s, cur, ty, g1, by rw [o2 _ (by simp)]; exact g2, g3, by simpa [AV.csh, DD.sh_vw] using g4, g5, ?_⟩
   have : own' (.h 0 q) = [] := if_pos rfl
   rw [this]
   simp only [rc] at g6 ⊢
   exact rp.view _ _ _ g6
  ·rename_i hne
   have hne2 : ¬ (Who.h lv q = .h 0 k) := fun e => by cases e; exact hne ⟨rfl, rfl, hl⟩
   obtain ⟨b, s, cur, ty, g1, g2, g3, g4, g5, g6⟩ := hR.hs _ _ _ hq
   exact ⟨b, s, cur, ty, g1, by rw [o2 _ (by simp)]; exact g2, g3, g4, g5, by rw [o2 _ hne2]; exact g6⟩
 ·show (if _ then _ else _ : List Nat).Nodup
  split
  ·exact List.nodup_nil
  ·exact hR.nd _
theorem Wz.trans {S S1 S2 : St} (h : Wz S S1) (k : Wz S1 S2) : Wz S S2 := fun w F Θ own a hR => by
 obtain ⟨F1, T1, o1, h1, h2⟩ := h w F Θ own a hR
 obtain ⟨F2, T2, o2, k1, k2⟩ := k w F1 T1 o1 a h1
 exact ⟨F2, T2, o2, k1, h2.trans k2⟩
theorem wz_vwR : ∀ (rs : List ResultVar) (S : St), Wz S (vwR rs S)
 | [], S => Wz.refl S
 | .tmp t :: l, S => (wz_clr S [t]).trans (wz_vwR l _)
 | .cell t T :: l, S => by
  unfold vwR
  split
  ·split
   ·rename_i x hx; exact (wz_vwH hx).trans (wz_vwR l _)
   ·exact wz_vwR l S
  ·exact wz_vwR l S
theorem Xev {c : Cx} {f : Nat} {fn : Func} {body : Code} {args : List AV} {h h' : HP} {r : AV} (hget : c.P.funcs[f]? = some fn) (hbd : fn.body = some body) (n : Nat) (rs : List ResultVar) (hW : W c body ⟨n, tl (mkl 0 args), al [] :: upH h⟩ (fun e S => RQ c rs h' r e (vwR rs S))) (hrs : fn.results.toList = rs := by rfl) (hn : fn.ntmps = n := by rfl) (hlen : args.length ≤ n := by simp) (hnm : (fn.name == "runtime.NumGoroutine") = false := by rfl) : CS c.P f args h r h' :=
 Xe hget hbd n rs (W.after hW fun e S q => ⟨_, wz_vwR rs S, q⟩) hrs hn hlen hnm
section
variable {c : Cx} {ops : Array Oper} {o : Oper} {l : List Oper} {S S1 : St} {K : St → Prop} {acc : List Sk} {D : List (Option Nat)} {Q : Exit → St → Prop}
theorem Xo (M : List Nat) (k : WL c ops l S1 K) (hi : isCall o = false := by rfl) (hg : o.guard = none := by rfl) (h : okP c M o S := by (simp (disch := first | (simp; done) | omega) [M, H, i64w]) <;> first | done | omega | grind) (e : nx c M o S = S1 := by first | (simp (disch := first | (simp; done) | omega) [M, H, i64w]; rfl) | rfl) : WL c ops (o :: l) S K := WL.op M hg h e k
theorem WL.got {P : Prop} (h : ∀ (w : World) (F : Nat → Nat) (Θ : Ty) (own : Who → List Nat) (a : Act), Rel w F Θ own S a → P) (k : P → WL c ops l S K) : WL c ops l S K := fun is hi w F Θ own a hR Q hQ => k (h w F Θ own a hR) is hi w F Θ own a hR Q hQ
/-- numbers that are compared are within their bounds -/
theorem sz_get {α : Type} (f : α → Nat) {l : List α} {k : Nat} (h : k < l.length) : f l[k] ≤ szL f l := szL_le f (List.getElem_mem h)
theorem leaf_in {T : Nat} {x : Operand} {n : Int} {w : World} {F : Nat → Nat} {Θ : Ty} {own : Who → List Nat} {a : Act} (hR : Rel w F Θ own S a) (ox : okO c T x) (hx : evT c T S x = .d (.lf (.int .i64 n))) : -9223372036854775808 ≤ n ∧ n ≤ 9223372036854775807 := by
 have h := ev_rv hR ox
 rw [hx] at h
 simp only [rv, rp] at h
 obtain ⟨cs, ⟨-, h, -⟩, -⟩ := h
 exact h
theorem Xlt (M : List Nat) {T yT : Nat} {x y : Operand} {n m : Int} (k : RF ((-9223372036854775808 ≤ n ∧ n ≤ 9223372036854775807) ∧ (-9223372036854775808 ≤ m ∧ m ≤ 9223372036854775807)) (WL c ops l S1 K)) (ho : o.op = .binOp .lss T x y yT := by rfl) (hx : evT c 0 S x = .d (.lf (.int .i64 n)) := by rfl) (hy : evT c 0 S y = .d (.lf (.int .i64 m)) := by rfl) (hg : o.guard = none := by rfl)
  (h : okP c M o S := by (simp (disch := first | (simp; done) | omega) [M, H, i64w]) <;> first | done | omega | grind) (e : nx c M o S = S1 := by first | (simp (disch := first | (simp; done) | omega) [M, H, i64w]; rfl) | rfl) : WL c ops (o :: l) S K := by
 have h' := h
 unfold okP at h'
 rw [ho] at h'
 exact WL.got (fun w F Θ own a hR => ⟨leaf_in hR h'.2.2.1 hx, leaf_in hR h'.2.2.2.1 hy⟩) fun f => WL.op M hg h e (k.r f)
theorem Xl (ts : List Nat) {f : Operand} {args : Array Operand} {argTypes : Array TypeId} {g : Nat} {cs as' : List AV} {pre : Prop} {r : AV} (k : WL c ops l S1 K)
  (ho : o.op = .call { callee := .value f, args, argTypes } := by rfl) (hg : o.guard = none := by rfl) (hf : evT c 0 S f = .fn g cs := by rfl) (of : okO c 0 f := by simp) (hd : ∀ k, o.dst = some k → k < S.n := by simp) (hTs : argTypes.toList.length = args.toList.length := by rfl) (hok : ∀ x ∈ argTypes.toList.zip args.toList, okO c x.1 x.2 := by simp) (hn : (gvn ts args.toList).Nodup := by simp [G])
  (ha : (argTypes.toList.zip args.toList).map (fun x => argA c ts S x.1 x.2) ++ cs = as' := by first | (simp (disch := first | (simp; done) | omega) [M, G, H, i64w]; rfl) | rfl) (hct : Ct c g as' pre r := by exact inferInstance) (hp : pre := by first | trivial | omega | (simp only [H]; first | trivial | omega | grind) | grind)
  (e : (⟨S.n, putF (clrs S.tm (gvn ts args.toList)) o.dst r, S.hp⟩ : St) = S1 := by first | (simp (disch := first | (simp; done) | omega) [M, G, H, i64w]; rfl) | rfl) : WL c ops (o :: l) S K := by
 obtain ⟨fn, body, hfn⟩ := hct.ok
 exact WL.call ts f args argTypes ho hg hd hf of hfn hTs hok hn ha (hct.cs hp _) e k
theorem Xn (hD : ops.toList.map (·.dst) = D) {j k : Nat} {b : Bool} (hg : o.guard = some (j, b)) (hj : D[j]? = some (some k)) (kk : WL c ops l S1 K) (hk : S.tm k = .d (.lf (.bool (!b))) ∨ S.tm k = .tp [] := by first | exact .inl rfl | exact .inr rfl) (hd : ∀ k, o.dst = some k → k < S.n := by simp) (e : (⟨S.n, putF S.tm o.dst (.tp []), S.hp⟩ : St) = S1 := by first | (simp [H]; rfl) | rfl) : WL c ops (o :: l) S K := WL.no2 hD j k b hg hj hk hd e kk
theorem Xg (M : List Nat) (hD : ops.toList.map (·.dst) = D) {j k : Nat} {b : Bool} (hg : o.guard = some (j, b)) (hj : D[j]? = some (some k)) (kk : WL c ops l S1 K) (hi : isCall o = false := by rfl) (hk : S.tm k = .d (.lf (.bool b)) := by rfl) (h : okP c M o S := by (simp (disch := first | (simp; done) | omega) [M, H, i64w]) <;> first | done | omega | grind) (e : nx c M o S = S1 := by first | (simp (disch := first | (simp; done) | omega) [M, H, i64w]; rfl) | rfl) : WL c ops (o :: l) S K := WL.opG M hD j k b hg hj hk h e kk
theorem Xs (hD : ops.toList.map (·.dst) = D) {j k : Nat} {b q : Bool} {S2 : St} (hg : o.guard = some (j, b)) (hj : D[j]? = some (some k)) (hq : S.tm k = .d (.lf (.bool q))) (hk : Two (q = true → WL c ops (o :: l) S1 K) (q = false → WL c ops (o :: l) S2 K)) (e1 : (⟨S.n, upd S.tm k (.d (.lf (.bool true))), S.hp⟩ : St) = S1 := by first | (simp [H]; rfl) | rfl) (e2 : (⟨S.n, upd S.tm k (.d (.lf (.bool false))), S.hp⟩ : St) = S2 := by first | (simp [H]; rfl) | rfl) : WL c ops (o :: l) S K := by
 subst e1 e2
 exact WL.split k q hq hk.l hk.r
theorem Xc {g : Operand} {x y : Code} {b : Bool} (hg : evT c 0 S g = .d (.lf (.bool b))) (h : Two (b = true → W c x S Q) (b = false → W c y S Q)) (og : okO c 0 g := by trivial) : W c (.cond g x y) S Q := W.condS b hg og h.l h.r
theorem Xb {i : Nat} {x : Code} (h : W c x S (blkQ i Q)) : W c (.block i x) S Q := W.block h
theorem blk_eq {i : Nat} {Q' : Exit → St → Prop} {S' : St} : blkQ i Q' (.exit i) S' = Q' .normal S' := if_pos rfl
theorem blk_ne {i j : Nat} {Q' : Exit → St → Prop} {S' : St} (h : (j == i) = false) : blkQ i Q' (.exit j) S' = Q' (.exit j) S' := if_neg (by simpa using h)
theorem then_ex {i : Nat} {K' : St → Prop} {Q' : Exit → St → Prop} {S' : St} : thenQ K' Q' (.exit i) S' = Q' (.exit i) S' := rfl
theorem then_no {K' : St → Prop} {Q' : Exit → St → Prop} {S' : St} : thenQ K' Q' .normal S' = K' S' := rfl
theorem Xx {i : Nat} {P : Prop} (h : P) (e : Q (.exit i) S = P := by
 repeat (first | refine blk_eq.trans ?_ | refine (blk_ne rfl).trans ?_ | refine then_ex.trans ?_)
 first | exact then_no | rfl) : W c (.exit i) S Q := W.exit (by rw [e]; exact h)
theorem Xr {rs : List ResultVar} {h' : HP} {r : AV} (k : RL c rs S r) (e : Q .ret S = RQ c rs h' r .ret S := by rfl) (hh : ∃ f1, S.hp = f1 :: upH h' := by exact ⟨_, rfl⟩) : W c .ret S Q := W.ret (by rw [e]; exact ⟨.inr rfl, hh, k⟩)
theorem Xrn {rs : List ResultVar} {h' : HP} {r : AV} (k : RL c rs S r) (hh : ∃ f1, S.hp = f1 :: upH h' := by exact ⟨_, rfl⟩) : RQ c rs h' r .normal S := ⟨.inl rfl, hh, k⟩
theorem Xd {D : List (Option Nat)} {id : Nat} (hD : ops.toList.map (·.dst) = D) (h : RG (∀ (ops' : Array Oper) (K : St → Prop), ops'.toList.map (·.dst) = D → (∀ S', Q .normal S' → K S') → WL c ops' ops.toList S K)) : W c (.region id ops false) S Q := W.regJ0 hD h.r
theorem XDd {D : List (Option Nat)} {id : Nat} (hm : c.P.follows .mixedOrders = true) (hD : ops.toList.map (·.dst) = D) (h : RG (∀ K : St → Prop, ops.toList.map (·.dst) = D → (∀ S', Q .normal S' → K S') → DL c ops [] ops.toList S K)) : W c (.region id ops true) S Q := W.regDJ0 hm hD h.r
theorem Xf {rs : List ResultVar} {r v : AV} (k : LF (v = r)) (ok : ∀ x ∈ rs, ResOk c S x ∧ (resV S x).nz := by simp [M]) (nd : (rs.map (resW S)).Nodup := by simp) (e : (match rs.map (fun x => (resV S x).dn) with | [x] => x | l => .tp l) = v := by first | (simp (disch := first | (simp; done) | omega) [M, H, i64w]; rfl) | rfl) : RL c rs S r := ⟨ok, nd, e.trans k.r⟩
/-- the same for results that are looked at only -/
theorem Xrv {rs : List ResultVar} {h' : HP} {r : AV} {S1 : St} (k : RL c rs S1 r) (e0 : Q .ret S = RQ c rs h' r .ret (vwR rs S) := by rfl) (e : vwR rs S = S1 := by first | (simp (disch := first | (simp; done) | omega) [vwR, M, H]; rfl) | rfl) (hh : ∃ f1, S1.hp = f1 :: upH h' := by exact ⟨_, rfl⟩) : W c .ret S Q := W.ret (by rw [e0]; subst e; exact ⟨.inr rfl, hh, k⟩)
/-- the same where a region draws its order -/
theorem XDo (M : List Nat) {sk : Sk} (k : DL c ops (acc ++ [sk]) l S1 K) (hi : isCall o = false := by rfl) (hg : o.guard = none := by rfl) (h : okP c M o S := by (simp (disch := first | (simp; done) | omega) [M, H, i64w]) <;> first | done | omega | grind) (e : nx c M o S = S1 := by first | (simp (disch := first | (simp; done) | omega) [M, H, i64w]; rfl) | rfl) (hsk : (fsOf c M o S).sk = sk := by first | (simp [fsOf, Fsk.sk, Ef.kd, M]; done) | (simp [fsOf, Fsk.sk, Ef.kd, M]; rfl) | rfl) : DL c ops acc (o :: l) S K := DL.opS M hg h e sk hsk k
theorem XDl (ts : List Nat) {f : Operand} {args : Array Operand} {argTypes : Array TypeId} {g : Nat} {cs as' : List AV} {pre : Prop} {r : AV} (k : DL c ops (acc ++ [⟨gvn ts args.toList, .val⟩]) l S1 K)
  (ho : o.op = .call { callee := .value f, args, argTypes } := by rfl) (hg : o.guard = none := by rfl) (hf : evT c 0 S f = .fn g cs := by rfl) (of : okO c 0 f := by simp) (hd : ∀ k, o.dst = some k → k < S.n := by simp) (hTs : argTypes.toList.length = args.toList.length := by rfl) (hok : ∀ x ∈ argTypes.toList.zip args.toList, okO c x.1 x.2 := by simp) (hn : (gvn ts args.toList).Nodup := by simp [G])
  (ha : (argTypes.toList.zip args.toList).map (fun x => argA c ts S x.1 x.2) ++ cs = as' := by first | (simp (disch := first | (simp; done) | omega) [M, G, H, i64w]; rfl) | rfl) (hct : Ct c g as' pre r := by exact inferInstance) (hp : pre := by first | trivial | omega | (simp only [H]; first | trivial | omega | grind) | grind)
  (e : (⟨S.n, putF (clrs S.tm (gvn ts args.toList)) o.dst r, S.hp⟩ : St) = S1 := by first | (simp (disch := first | (simp; done) | omega) [M, G, H, i64w]; rfl) | rfl) : DL c ops acc (o :: l) S K := by
 obtain ⟨fn, body, hfn⟩ := hct.ok
 exact DL.call ts f args argTypes ho hg hd hf of hfn hTs hok hn ha (fun h => hct.cs hp h) e k
theorem XDn (hD : ops.toList.map (·.dst) = D) {j k : Nat} {b : Bool} (hg : o.guard = some (j, b)) (hj : D[j]? = some (some k)) (kk : DL c ops (acc ++ [⟨[], .val⟩]) l S1 K) (hk : S.tm k = .d (.lf (.bool (!b))) ∨ S.tm k = .tp [] := by first | exact .inl rfl | exact .inr rfl) (hd : ∀ k, o.dst = some k → k < S.n := by simp) (e : (⟨S.n, putF S.tm o.dst (.tp []), S.hp⟩ : St) = S1 := by first | (simp [H]; rfl) | rfl) : DL c ops acc (o :: l) S K := DL.no2 hD j k b hg hj hk hd e kk
theorem XDg (M : List Nat) (hD : ops.toList.map (·.dst) = D) {j k : Nat} {b : Bool} (hg : o.guard = some (j, b)) (hj : D[j]? = some (some k)) {sk : Sk} (kk : DL c ops (acc ++ [sk]) l S1 K) (hi : isCall o = false := by rfl) (hk : S.tm k = .d (.lf (.bool b)) := by rfl) (h : okP c M o S := by (simp (disch := first | (simp; done) | omega) [M, H, i64w]) <;> first | done | omega | grind) (e : nx c M o S = S1 := by first | (simp (disch := first | (simp; done) | omega) [M, H, i64w]; rfl) | rfl) (hsk : (fsOf c M o S).sk = sk := by first | (simp [fsOf, Fsk.sk, Ef.kd, M]; done) | (simp [fsOf, Fsk.sk, Ef.kd, M]; rfl) | rfl) : DL c ops acc (o :: l) S K := DL.opGs M hD j k b hg hj hk h e sk hsk kk
theorem XDs (hD : ops.toList.map (·.dst) = D) {j k : Nat} {b q : Bool} {S2 : St} (hg : o.guard = some (j, b)) (hj : D[j]? = some (some k)) (hq : S.tm k = .d (.lf (.bool q))) (hk : Two (q = true → DL c ops acc (o :: l) S1 K) (q = false → DL c ops acc (o :: l) S2 K)) (e1 : (⟨S.n, upd S.tm k (.d (.lf (.bool true))), S.hp⟩ : St) = S1 := by first | (simp [H]; rfl) | rfl) (e2 : (⟨S.n, upd S.tm k (.d (.lf (.bool false))), S.hp⟩ : St) = S2 := by first | (simp [H]; rfl) | rfl) : DL c ops acc (o :: l) S K := by
 subst e1 e2
 exact DL.split k q hq hk.l hk.r
end
/-- the end of a round -/
structure RE {σ : Type} (S0 : St) (ts ks : List Nat) (V H : Nat → σ → List (Nat × AV)) (n : Nat) (I : Nat → σ → Prop) (rd : St → σ) (k : Nat) (S : St) : Prop where
 lt : k < n
 i : I (k + 1) (rd S)
 z : Wz S (stk S0 ts ks (V (k + 1) (rd S)) (H (k + 1) (rd S)))
theorem W.loopR {c : Cx} {x : Code} {Q : Exit → St → Prop} {S : St} {h : HP} {σ : Type} (ts ks : List Nat) (V H : Nat → σ → List (Nat × AV)) (n : Nat) (I : Nat → σ → Prop) (rd : St → σ) (hh : S.hp.tail = upH h) (h0 : toOk S (V 0 (rd S) ++ tls S ts) (H 0 (rd S) ++ hls (hd S) ks)) (i0 : I 0 (rd S))
  (hb : ∀ k, k ≤ n → ∀ s, I k s → ∀ T, stk S ts ks (V k s) (H k s) = T → W c x T (thenQ (RE S ts ks V H n I rd k) Q)) : W c (.loop x) S Q := by
 have key : ∀ m k s, k + m = n → I k s → WR c x Q (m + 1) (stk S ts ks (V k s) (H k s)) := by
  intro m
  induction m with
  | zero =>
   intro k s hk hi
   refine (hb k (by omega) s hi _ rfl).mono fun e S' hq => ?_
   cases e with
   | normal => have := hq.lt; omega
   | _ => exact hq
  | succ m ih =>
   intro k s hk hi
   refine W.after (hb k (by omega) s hi _ rfl) fun e S1 hq => ?_
   cases e with
   | normal => exact ⟨_, hq.z, ih (k + 1) _ (by omega) hq.i⟩
   | exit id => exact ⟨S1, Wz.refl S1, hq⟩
   | goto l => exact ⟨S1, Wz.refl S1, hq⟩
   | ret => exact ⟨S1, Wz.refl S1, hq⟩
   | panic ch => exact ⟨S1, Wz.refl S1, hq⟩
   | outgrown => exact ⟨S1, Wz.refl S1, hq⟩
 exact W.ahead (Wz.to hh hh rfl h0) (W.rounds _ (key n 0 (rd S) (by omega) i0))
/-- what a temporary holds, read back -/
def avI : AV → Int
 | .d (.lf (.int _ n)) => n
 | _ => 0
def avB : AV → Bool
 | .d (.lf (.bool b)) => b
 | _ => false
def avS : AV → ByteArray
 | .d (.lf (.string s)) => s
 | _ => ⟨#[]⟩
def avE : AV → List DD
 | .d (.sl _ _ es) => es
 | _ => []
theorem Xle {σ : Type} {S0 S : St} {h : HP} {ts ks : List Nat} {V H : Nat → σ → List (Nat × AV)} {n : Nat} {I : Nat → σ → Prop} {rd : St → σ} {k : Nat} {s : σ} (i : LF (I (k + 1) s)) (e : rd S = s := by first | rfl | (simp (disch := first | (simp; done) | omega) [M, H, i64w]; rfl)) (lt : k < n := by omega) (hh : S.hp.tail = upH h := by rfl) (h0 : S0.hp.tail = upH h := by rfl) (hn : S.n = S0.n := by rfl)
  (z : toOk S (V (k + 1) s ++ tls S0 ts) (H (k + 1) s ++ hls (hd S0) ks) := by first | (simp [M, H]; done) | (simp [M, H, *]; done)) : RE S0 ts ks V H n I rd k S := by
 subst e
 exact ⟨lt, i.r, Wz.to hh h0 hn z⟩
/-- one step, whichever it is -/
theorem GO {P A : Prop} (k : A) (h : A → P := by
 first
  | exact fun k => WL.nil (hK _ k)
  | exact fun k => Xl G k
  | exact fun k => Xlt M k
  | exact fun k => Xo M k
  | exact fun k => Xn hD rfl rfl k
  | exact fun k => Xg M hD rfl rfl k
  | exact fun k => Xk G hD rfl rfl k
  | exact fun k => Xs hD rfl rfl rfl k
  | exact fun k => W.seq k
  | exact fun k => Xd rfl k
  | exact fun k => Xc rfl k
  | exact fun k => Xb k
  | exact fun k => Xx k
  | exact fun k => W.skip k
  | exact fun k => Xle k
  | exact fun k => Xr k
  | exact fun k => Xrv k
  | exact fun k => Xf k
  | exact fun k => Xrvn k
  | exact fun k => Xrn k
  | exact fun k => DL.nil (by decide +kernel) (hK _ k)
  | exact fun k => XDl G k
  | exact fun k => XDo M k
  | exact fun k => XDn hD rfl rfl k
  | exact fun k => XDg M hD rfl rfl k
  | exact fun k => XDk G hD rfl rfl k
  | exact fun k => XDs hD rfl rfl rfl k
  | exact fun k => XDd rfl rfl k) : P := h k
/-- what a test has shown, for the steps that follow (no equations between values) -/
theorem HN {P R : Prop} {Q : Prop} (hb : P) (H : Q) (h : P → Q → R := by
 first
  | exact fun (a : (_ : Nat) < _) b => And.intro a b
  | exact fun (a : (_ : Int) < _) b => And.intro a b
  | exact fun (a : (_ : Bool) = _) b => And.intro a b
  | exact fun (a : ¬ _) b => And.intro a b
  | exact fun _ b => b) : R := h hb H
/-- the first element for which a function has an answer -/
def fs {α β : Type} (f : Nat → α → Option β) : Nat → List α → Option β
 | _, [] => none
 | i, x :: l => match f i x with
  | some b => some b
  | none => fs f (i + 1) l
theorem fs_at {α β : Type} {f : Nat → α → Option β} {l : List α} {k : Nat} (h : k < l.length) : fs f k (l.drop k) = match f k l[k] with
  | some b => some b
  | none => fs f (k + 1) (l.drop (k + 1)) := by
 rw [List.drop_eq_getElem_cons h]; rfl
theorem fs_end {α β : Type} (f : Nat → α → Option β) (k : Nat) {l : List α} {j : Nat} (h : l.length ≤ j) : fs f k (l.drop j) = none := by
 rw [List.drop_eq_nil_of_le h]; rfl
theorem fs_none {α β : Type} {f : Nat → α → Option β} : ∀ {l : List α} {i : Nat}, (∀ k (h : k < l.length), f (i + k) l[k] = none) → fs f i l = none
 | [], _, _ => rfl
 | x :: l, i, h => by
  have h0 := h 0 (by simp)
  simp only [Nat.add_zero, List.getElem_cons_zero] at h0
  rw [fs, h0]
  refine fs_none fun k hk => ?_
  have := h (k + 1) (by simpa using hk)
  rw [show i + 1 + k = i + (k + 1) by omega]; simpa using this
theorem fs_some {α β : Type} {f : Nat → α → Option β} {b : β} : ∀ {l : List α} {i : Nat}, fs f i l = some b → ∃ k, ∃ h : k < l.length, f (i + k) l[k] = some b ∧ ∀ j (hj : j < k), f (i + j) (l[j]'(Nat.lt_trans hj h)) = none
 | [], _, h => by simp [fs] at h
 | x :: l, i, h => by
  rw [fs] at h
  cases hx : f i x with
  | some y =>
   rw [hx] at h
   exact ⟨0, by simp, by simpa [hx] using h, fun j hj => by omega⟩
  | none =>
   rw [hx] at h
   obtain ⟨k, h1, h2, h3⟩ := fs_some h
   refine ⟨k + 1, by simpa using h1, by rw [show i + (k + 1) = i + 1 + k by omega]; simpa using h2, fun j hj => ?_⟩
   cases j with
   | zero => simpa using hx
   | succ j => have := h3 j (by omega); rw [show i + (j + 1) = i + 1 + j by omega]; simpa using this
attribute [simp] avI avB avS avE
theorem etas : (∀ x : TType, (⟨x.fKind, x.fName, x.fArgs⟩ : TType) = x) ∧ (∀ x : TBound, (⟨x.fTrait, x.fType⟩ : TBound) = x) ∧ ∀ x : TExpr, (⟨x.fKind, x.fTrait, x.fName, x.fN, x.fType, x.fArgs, x.fArms⟩ : TExpr) = x := ⟨fun x => by cases x; rfl, fun x => by cases x; rfl, fun x => by cases x; rfl⟩
def zTr : TTrait := ⟨⟨#[]⟩, [], false, false, []⟩
def zDa : TDataType := ⟨⟨#[]⟩, [], []⟩
def zFn : TFunction := ⟨⟨#[]⟩, [], [], [], zT, zX⟩
def zSi : TSignature := ⟨⟨#[]⟩, [], zT, false, [], zX⟩
def zMe : TMethod := ⟨⟨#[]⟩, [], zX⟩
def byF {α : Type} (g : α → ByteArray) (s : ByteArray) (i : Nat) (x : α) : Option (α × Nat) := if g x = s then some (x, i) else none
def byN {α : Type} (g : α → ByteArray) (s : ByteArray) (l : List α) : Option (α × Nat) := fs (byF g s) 0 l
def nmF {α : Type} (g : α → ByteArray) (s : ByteArray) (i _ : Nat) (x : α) : Option (α × Nat) := if g x = s then some (x, i) else none
def inF {α : Type} (r : TPackage → List α) (g : α → ByteArray) (s : ByteArray) (i : Nat) (p : TPackage) : Option (α × Nat) := fs (nmF g s i) 0 (r p)
def inP {α : Type} (r : TPackage → List α) (g : α → ByteArray) (w : TProgram) (s : ByteArray) : Option (α × Nat) := fs (inF r g s) 0 w.fPackages
def getR {α : Type} (z : α) : Option (α × Nat) → α × Nat × Bool
  | some (x, i) => (x, i, true)
  | none => (z, 0, false)
def trR (w : TProgram) (s : ByteArray) : TTrait × Nat × Bool := getR zTr (inP TPackage.fTraits TTrait.fName w s)
def daR (w : TProgram) (s : ByteArray) : TDataType × Nat × Bool := getR zDa (inP TPackage.fDataTypes TDataType.fName w s)
def fnR (w : TProgram) (s : ByteArray) : TFunction × Nat × Bool := getR zFn (inP TPackage.fFunctions TFunction.fName w s)
def ctF (s : ByteArray) (d : TDataType) (j : Nat) (c : TConstructor) : Option (TDataType × Nat) := if c.fName = s then some (d, j) else none
def ctG (s : ByteArray) (_ : Nat) (d : TDataType) : Option (TDataType × Nat) := fs (ctF s d) 0 d.fConstructors
def ctH (s : ByteArray) (_ : Nat) (p : TPackage) : Option (TDataType × Nat) := fs (ctG s) 0 p.fDataTypes
def ctR (w : TProgram) (s : ByteArray) : TDataType × Nat × Bool := getR zDa (fs (ctH s) 0 w.fPackages)
def siR (t : TTrait) (s : ByteArray) : TSignature × Nat × Bool := getR zSi (byN TSignature.fName s t.fSignatures)
def meR (x : TInstance) (s : ByteArray) : TMethod × Nat × Bool := getR zMe (byN TMethod.fName s x.fMethods)
/-- what is seen from the packages V -/
def trV (w : TProgram) (V : List Nat) (s : ByteArray) : Bool := (trR w s).2.2 && hasK V (trR w s).2.1
def daV (w : TProgram) (V : List Nat) (s : ByteArray) : Bool := (daR w s).2.2 && hasK V (daR w s).2.1
def fnV (w : TProgram) (V : List Nat) (s : ByteArray) : Bool := (fnR w s).2.2 && hasK V (fnR w s).2.1
def ctV (w : TProgram) (V : List Nat) (s : ByteArray) : Bool := (ctR w s).2.2 && hasK V (daR w (ctR w s).1.fName).2.1
def selfS : ByteArray := ⟨#[115, 101, 108, 102]⟩
def dynS (t : TTrait) : Bool := !t.fAssoc && !(t.fSignatures.any fun g => decide (0 < occ selfS g.fResult) || g.fParams.any fun p => decide (0 < occ selfS p))
def ckD (w : TProgram) (V : List Nat) (s : ByteArray) : Int := if trV w V s then (if dynS (trR w s).1 then 0 else 5) else 3
def ckH (w : TProgram) (V : List Nat) (k : Int) (s : ByteArray) (n : Nat) : Int :=
  if k = 1 then 0
  else if k = 2 then (if base s then 0 else if daV w V s then (if (daR w s).1.fVars.length = n then 0 else 2) else 1)
  else if k = 3 then (if trV w V s then (if (trR w s).1.fAssoc then 0 else 4) else 3)
  else if k = 4 then ckD w V s
  else 1
mutual
def ckT (w : TProgram) (V : List Nat) : TType → Int
  | ⟨k, s, l⟩ => if ckH w V k s l.length = 0 then ckTs w V l else ckH w V k s l.length
def ckTs (w : TProgram) (V : List Nat) : List TType → Int
  | [] => 0
  | x :: l => if ckT w V x = 0 then ckTs w V l else ckT w V x
end
/-- the first code that is not 0 -/
def fc {α : Type} (f : α → Int) : List α → Int
  | [] => 0
  | x :: l => if f x = 0 then fc f l else f x
theorem ckTs_fc (w : TProgram) (V : List Nat) : ∀ l, ckTs w V l = fc (ckT w V) l
  | [] => rfl
  | x :: l => by simp only [ckTs, fc, ckTs_fc w V l]
theorem ckT_eq (w : TProgram) (V : List Nat) (x : TType) : ckT w V x = if ckH w V x.fKind x.fName x.fArgs.length = 0 then fc (ckT w V) x.fArgs else ckH w V x.fKind x.fName x.fArgs.length := by
  cases x; simp only [ckT, ckTs_fc]
def ckB (w : TProgram) (V : List Nat) (b : TBound) : Int := if trV w V b.fTrait then ckT w V b.fType else 3
def c1 (a : List TArm) (c : TConstructor) : Bool := match byN TArm.fConstructor c.fName a with
  | some (x, _) => decide (x.fVars.length = c.fFields.length)
  | none => false
def fitA (d : TDataType) (a : List TArm) : Bool := d.fConstructors.all (c1 a) && dst (d.fConstructors.map TConstructor.fName) && decide (a.length = d.fConstructors.length)
def xHere (w : TProgram) (V : List Nat) (e : TExpr) : Int :=
  if e.fKind = 4 then (if fnV w V e.fName && decide ((fnR w e.fName).1.fParams.length = e.fArgs.length) then 0 else 9)
  else if e.fKind = 5 then (if trV w V e.fTrait then (if (siR (trR w e.fTrait).1 e.fName).2.2 && decide ((siR (trR w e.fTrait).1 e.fName).1.fParams.length + 1 = e.fArgs.length) then 0 else 6) else 3)
  else if e.fKind = 6 then (if ctV w V e.fName then (if (((ctR w e.fName).1.fConstructors[(ctR w e.fName).2.1]?).map fun c => c.fFields.length) = some e.fArgs.length then 0 else 2) else 1)
  else if e.fKind = 7 then (match e.fArms with
    | [] => 1
    | a :: _ => if ctV w V a.fConstructor then (if fitA (ctR w a.fConstructor).1 e.fArms then 0 else 2) else 1)
  else if e.fKind = 11 then ckD w V e.fTrait
  else if e.fKind = 12 then ckT w V e.fType
  else 0
mutual
def ckE (w : TProgram) (V : List Nat) : TExpr → Int
  | ⟨k, t, s, n, ty, l, a⟩ => if xHere w V ⟨k, t, s, n, ty, l, a⟩ = 0 then (if ckEs w V l = 0 then ckAs w V a else ckEs w V l) else xHere w V ⟨k, t, s, n, ty, l, a⟩
def ckEs (w : TProgram) (V : List Nat) : List TExpr → Int
  | [] => 0
  | x :: l => if ckE w V x = 0 then ckEs w V l else ckE w V x
def ckAs (w : TProgram) (V : List Nat) : List TArm → Int
  | [] => 0
  | ⟨_, _, x⟩ :: l => if ckE w V x = 0 then ckAs w V l else ckE w V x
end
theorem ckEs_fc (w : TProgram) (V : List Nat) : ∀ l, ckEs w V l = fc (ckE w V) l
  | [] => rfl
  | x :: l => by simp only [ckEs, fc, ckEs_fc w V l]
theorem ckAs_fc (w : TProgram) (V : List Nat) : ∀ l, ckAs w V l = fc (fun a : TArm => ckE w V a.fBody) l
  | [] => rfl
  | ⟨_, _, x⟩ :: l => by simp only [ckAs, fc, ckAs_fc w V l]
theorem ckE_eq (w : TProgram) (V : List Nat) (e : TExpr) : ckE w V e = if xHere w V e = 0 then (if fc (ckE w V) e.fArgs = 0 then fc (fun a : TArm => ckE w V a.fBody) e.fArms else fc (ckE w V) e.fArgs) else xHere w V e := by
  cases e; simp only [ckE, ckEs_fc, ckAs_fc]
def or0 (a b : Int) : Int := if a = 0 then b else a
def ckTrait (w : TProgram) (V : List Nat) (t : TTrait) : Int :=
  or0 (fc (fun s => if trV w V s then (if (trR w s).1.fAuto then 7 else 0) else 3) t.fSupertraits)
    (fc (fun g : TSignature => or0 (fc (ckT w V) g.fParams) (or0 (ckT w V g.fResult) (if g.fHasDefault then ckE w V g.fBody else 0))) t.fSignatures)
def ckData (w : TProgram) (V : List Nat) (d : TDataType) : Int := fc (fun c : TConstructor => fc (ckT w V) c.fFields) d.fConstructors
def methsOk (t : TTrait) (x : TInstance) : Bool := (x.fMethods.all fun m => (siR t m.fName).2.2 && decide ((siR t m.fName).1.fParams.length + 1 = m.fVars.length)) && t.fSignatures.all fun g => g.fHasDefault || (meR x g.fName).2.2
def ckInst (w : TProgram) (V : List Nat) (x : TInstance) : Int :=
  if trV w V x.fTrait then (if (trR w x.fTrait).1.fAuto then 7 else
    or0 (ckT w V x.fHead) (or0 (fc (ckB w V) x.fWhere) (or0 (if x.fHasAssoc = (trR w x.fTrait).1.fAssoc then (if x.fHasAssoc then ckT w V x.fAssoc else 0) else 4) (or0 (if methsOk (trR w x.fTrait).1 x then 0 else 6) (fc (fun m : TMethod => ckE w V m.fBody) x.fMethods))))) else 3
def ckFn (w : TProgram) (V : List Nat) (f : TFunction) : Int := or0 (fc (ckB w V) f.fWhere) (or0 (fc (fun p : TParam => ckT w V p.fType) f.fParams) (or0 (ckT w V f.fResult) (ckE w V f.fBody)))
theorem visO_lt {x : TProgram} {A : List (List Nat)} {p k n : Nat} (h : n ∈ visO x A p k) : n < k := by
  unfold visO at h
  have := (List.mem_filter.1 h).1
  simpa using this
theorem vis_lt {x : TProgram} {i : Int} : ∀ n ∈ vis x i, n < x.fPackages.length := fun n hn => by
  unfold vis at hn
  split at hn
  · rename_i h
    have hq : i.toNat < i.toNat + 1 := by omega
    rw [List.getD_eq_getElem?_getD, visA_at x hq] at hn
    simp only [Option.getD_some, List.mem_append, List.mem_singleton] at hn
    rcases hn with q | q
    · have := visO_lt q; omega
    · omega
  · simp at hn
theorem vis_len {x : TProgram} {i : Int} : (vis x i).length ≤ x.fPackages.length := by
  unfold vis
  split
  · rename_i h
    have hq : i.toNat < i.toNat + 1 := by omega
    rw [List.getD_eq_getElem?_getD, visA_at x hq]
    have := visO_len x (visA x i.toNat) i.toNat i.toNat
    simp; omega
  · simp
theorem fs_mem {α β : Type} {f : Nat → α → Option β} {b : β} : ∀ {l : List α} {i : Nat}, fs f i l = some b → ∃ x ∈ l, ∃ j, f j x = some b
 | [], _, h => by simp [fs] at h
 | x :: l, i, h => by
  rw [fs] at h
  cases hx : f i x with
  | some y => rw [hx] at h; exact ⟨x, by simp, i, by rw [hx]; exact h⟩
  | none =>
    rw [hx] at h
    obtain ⟨y, h1, h2⟩ := fs_mem h
    exact ⟨y, by simp [h1], h2⟩
theorem inP_mem {α : Type} {r : TPackage → List α} {g : α → ByteArray} {w : TProgram} {s : ByteArray} {x : α} {i : Nat} (h : inP r g w s = some (x, i)) : (∃ p ∈ w.fPackages, x ∈ r p) ∧ g x = s := by
  obtain ⟨p, hp, j, h1⟩ := fs_mem h
  obtain ⟨y, hy, k, h2⟩ := fs_mem h1
  unfold nmF at h2
  split at h2
  · rename_i e; cases h2; exact ⟨⟨p, hp, hy⟩, e⟩
  · cases h2
theorem szP {α : Type} {r : TPackage → List α} {f : α → Nat} {w : TProgram} (hr : ∀ p : TPackage, szL f (r p) ≤ p.sz) {p : TPackage} (hp : p ∈ w.fPackages) {x : α} (hx : x ∈ r p) : f x ≤ w.sz := by
  have h1 := szL_le f hx
  have h2 := hr p
  have h3 := szL_le TPackage.sz hp
  have h4 := w.sz_eq
  unfold szs at h4
  omega
theorem getR_sz {α : Type} {r : TPackage → List α} {g : α → ByteArray} {f : α → Nat} {z : α} (hz : f z = 0) (hr : ∀ p : TPackage, szL f (r p) ≤ p.sz) (w : TProgram) (s : ByteArray) : f (getR z (inP r g w s)).1 ≤ w.sz := by
  cases h : inP r g w s with
  | none => simp [getR, hz]
  | some x =>
    obtain ⟨x, i⟩ := x
    obtain ⟨⟨p, hp, hx⟩, -⟩ := inP_mem h
    exact szP hr hp hx
theorem trR_sz (w : TProgram) (s : ByteArray) : (trR w s).1.sz ≤ w.sz := getR_sz (f := TTrait.sz) rfl (fun p => by have := p.sz_eq; unfold szs at this; omega) w s
theorem daR_sz (w : TProgram) (s : ByteArray) : (daR w s).1.sz ≤ w.sz := getR_sz (f := TDataType.sz) rfl (fun p => by have := p.sz_eq; unfold szs at this; omega) w s
theorem ctR_sz (w : TProgram) (s : ByteArray) : (ctR w s).1.sz ≤ w.sz := by
  unfold ctR
  cases h : fs (ctH s) 0 w.fPackages with
  | none => exact Nat.zero_le _
  | some x =>
    obtain ⟨p, hp, j, h1⟩ := fs_mem h
    obtain ⟨d, hd, k, h2⟩ := fs_mem h1
    obtain ⟨c, hc, q, h3⟩ := fs_mem h2
    unfold ctF at h3
    split at h3
    · cases h3
      exact szP (f := TDataType.sz) (r := TPackage.fDataTypes) (fun p => by have := p.sz_eq; unfold szs at this; omega) hp hd
    · cases h3
end Go.Proofs.YtdooklofebdknaaGreat
