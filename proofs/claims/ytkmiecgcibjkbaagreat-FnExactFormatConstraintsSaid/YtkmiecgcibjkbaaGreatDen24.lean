/- Den24: operations that stand under a guard; regions whose ways join again. No condition. -/
import Derived.Test.YtkmiecgcibjkbaaGreatDen23
namespace Go.Proofs.YtkmiecgcibjkbaaGreat
open Go.RowKit
/-- a test is true or false -/
theorem WL.split {c : Cx} {ops : Array Oper} {l : List Oper} {S : St} {K : St → Prop} (k : Nat) (q : Bool) (hq : S.tm k = .d (.lf (.bool q))) (h1 : q = true → WL c ops l ⟨S.n, upd S.tm k (.d (.lf (.bool true))), S.hp⟩ K) (h2 : q = false → WL c ops l ⟨S.n, upd S.tm k (.d (.lf (.bool false))), S.hp⟩ K) : WL c ops l S K := by
  have e : ∀ b, S.tm k = .d (.lf (.bool b)) → (⟨S.n, upd S.tm k (.d (.lf (.bool b))), S.hp⟩ : St) = S := fun b hb => by
    have : upd S.tm k (.d (.lf (.bool b))) = S.tm := by
      funext t
      by_cases ht : t = k
      · subst ht; rw [upd_self, hb]
      · rw [upd_ne _ _ ht]
    rw [this]
  cases q with
  | true => have := h1 rfl; rwa [e _ hq] at this
  | false => have := h2 rfl; rwa [e _ hq] at this
theorem wnt_of {ops : Array Oper} {o : Oper} {S : St} {D : List (Option Nat)} (hD : ops.toList.map (·.dst) = D) (j k : Nat) (b q : Bool) (hg : o.guard = some (j, b)) (hj : D[j]? = some (some k)) (hk : S.tm k = .d (.lf (.bool q))) : wnt ops o S = some (q == b) := by
  subst hD
  have e : (ops[j]?).bind (·.dst) = some k := by
    rw [List.getElem?_map] at hj
    cases ho : ops[j]? with
    | none => simp [ho] at hj
    | some o => simp [ho] at hj; simpa using hj
  unfold wnt
  rw [hg]
  simp only [e, hk]
theorem WL.opG {c : Cx} (mv : List Nat) {ops : Array Oper} {o : Oper} {l : List Oper} {S S1 : St} {K : St → Prop} {D : List (Option Nat)} (hD : ops.toList.map (·.dst) = D) (j k : Nat) (b : Bool) (hg : o.guard = some (j, b)) (hj : D[j]? = some (some k)) (hk : S.tm k = .d (.lf (.bool b))) (h : okP c mv o S) (e : nx c mv o S = S1) (kk : WL c ops l S1 K) : WL c ops (o :: l) S K :=
  WL.cons (OS.op (by rw [wnt_of hD j k b b hg hj hk]; simp) (ok_snd h)) (by rw [e]; exact kk)
theorem WL.no {c : Cx} {ops : Array Oper} {o : Oper} {l : List Oper} {S S1 : St} {K : St → Prop} {D : List (Option Nat)} (hD : ops.toList.map (·.dst) = D) (j k : Nat) (b : Bool) (hg : o.guard = some (j, b)) (hj : D[j]? = some (some k)) (hk : S.tm k = .d (.lf (.bool (!b)))) (hd : ∀ k, o.dst = some k → k < S.n) (e : (⟨S.n, putF S.tm o.dst .un, S.hp⟩ : St) = S1) (kk : WL c ops l S1 K) : WL c ops (o :: l) S K :=
  WL.cons (OS.no hd (by rw [wnt_of hD j k b (!b) hg hj hk]; cases b <;> rfl)) (by rw [e]; exact kk)
/-- an operation that is not wanted leaves nothing behind -/
theorem OS.no2 {c : Cx} {ops : Array Oper} {o : Oper} {S : St} (hd : ∀ k, o.dst = some k → k < S.n) (hw : ∀ {w : World} {F : Nat → Nat} {Θ : Ty} {own : Who → List Nat} {a : Act}, Rel w F Θ own S a → Region.wanted o (yielded ops a.tmps) = false) : OS c ops o S ⟨S.n, putF S.tm o.dst (.tp []), S.hp⟩ := by
  intro w F Θ own a hR K Q hK
  rw [if_neg (by rw [hw hR]; simp)]
  obtain ⟨own', h1, h2⟩ := hR.pure o.dst hd [] List.nodup_nil (.tp []) undef (by simp only [List.flatMap_nil, rv, rvS]; refine ⟨[], rfl, ?_⟩; simp)
  exact hK _ _ _ _ _ h1 h2
theorem wanted_no {c : Cx} {ops : Array Oper} {o : Oper} {S : St} {D : List (Option Nat)} (hD : ops.toList.map (·.dst) = D) (j k : Nat) (b : Bool) (hg : o.guard = some (j, b)) (hj : D[j]? = some (some k)) (hk : S.tm k = .d (.lf (.bool (!b))) ∨ S.tm k = .tp []) {w : World} {F : Nat → Nat} {Θ : Ty} {own : Who → List Nat} {a : Act} (hR : Rel w F Θ own S a) : Region.wanted o (yielded ops a.tmps) = false := by
  rcases hk with hk | hk
  · have := wnt_spec (c := c) hR (wnt_of hD j k b (!b) hg hj hk)
    rw [this]; cases b <;> rfl
  · subst hD
    have e : (ops[j]?).bind (·.dst) = some k := by
      rw [List.getElem?_map] at hj
      cases ho : ops[j]? with
      | none => simp [ho] at hj
      | some o => simp [ho] at hj; simpa using hj
    have hv := hR.tm k
    rw [hk] at hv
    simp only [rv, rvS] at hv
    obtain ⟨vs, h1, rfl, -⟩ := hv
    have hy : yielded ops a.tmps j = none := by
      unfold yielded
      rw [e]
      simp only [Option.bind_some]
      rw [Array.getD_eq_getD_getElem?] at h1
      cases ha : a.tmps[k]? with
      | none => rfl
      | some v =>
        rw [ha] at h1
        simp only [Option.getD_some] at h1
        subst h1; rfl
    unfold Region.wanted
    rw [hg]
    simp only [hy]
    first | rfl | (cases b <;> rfl)
theorem WL.no2 {c : Cx} {ops : Array Oper} {o : Oper} {l : List Oper} {S S1 : St} {K : St → Prop} {D : List (Option Nat)} (hD : ops.toList.map (·.dst) = D) (j k : Nat) (b : Bool) (hg : o.guard = some (j, b)) (hj : D[j]? = some (some k)) (hk : S.tm k = .d (.lf (.bool (!b))) ∨ S.tm k = .tp []) (hd : ∀ k, o.dst = some k → k < S.n) (e : (⟨S.n, putF S.tm o.dst (.tp []), S.hp⟩ : St) = S1) (kk : WL c ops l S1 K) : WL c ops (o :: l) S K :=
  WL.cons (OS.no2 hd (wanted_no (c := c) hD j k b hg hj hk)) (by rw [e]; exact kk)
theorem WL.callG {c : Cx} {ops : Array Oper} {o : Oper} {l : List Oper} {S : St} {K : St → Prop} {D : List (Option Nat)} (hD : ops.toList.map (·.dst) = D) (j kg : Nat) (bg : Bool) (hg : o.guard = some (j, bg)) (hj : D[j]? = some (some kg)) (hk : S.tm kg = .d (.lf (.bool bg))) (ts : List Nat) (f : Operand) (args : Array Operand) (argTypes : Array TypeId) (ho : o.op = .call { callee := .value f, args, argTypes }) (hd : ∀ k, o.dst = some k → k < S.n)
    {g : Nat} {caps : List AV} (hf : evT c 0 S f = .fn g caps) (of : okO c 0 f) {fn : Func} {body : Code} (hfn : FnOk c.P g fn body) (hTs : argTypes.toList.length = args.toList.length) (hok : ∀ x ∈ argTypes.toList.zip args.toList, okO c x.1 x.2) (hn : (gvn ts args.toList).Nodup)
    {as' : List AV} (ha : (argTypes.toList.zip args.toList).map (fun x => argA c ts S x.1 x.2) ++ caps = as') {r : AV} {h' : HP} (hc : CS c.P g as' S.hp r h') {S1 : St} (e : (⟨S.n, putF (clrs S.tm (gvn ts args.toList)) o.dst r, h'⟩ : St) = S1) (k : WL c ops l S1 K) : WL c ops (o :: l) S K := by
  subst ha
  exact WL.cons (OS.call hd (by rw [wnt_of hD j kg bg bg hg hj hk]; simp) f args argTypes ho ts g caps hf of fn body hfn argTypes.toList hTs hok hn r h' hc) (by rw [e]; exact k)
theorem WL.ahead {c : Cx} {ops : Array Oper} {l : List Oper} {S S1 : St} {K : St → Prop} (z : Wz S S1) (h : WL c ops l S1 K) : WL c ops l S K := fun is hi w F Θ own a hR Q hQ => by
  obtain ⟨F1, Θ1, own1, h1, h2⟩ := z w F Θ own a hR
  exact h is hi w F1 Θ1 own1 a h1 Q fun S' a' w' F' Θ' own' k1 k2 k3 => hQ S' a' w' F' Θ' own' k1 k2 (h2.trans k3)
/-- within a region, ways that join behind n operations -/
theorem WL.mid {c : Cx} {ops : Array Oper} {l : List Oper} {S : St} {K : St → Prop} (n : Nat) (ts ks : List Nat) (V H : List (Nat × AV)) (h1 : (∀ S', Wz S' (stk S ts ks V H) → WL c ops (l.drop n) S' K) → WL c ops l S K) (h2 : ∀ T, stk S ts ks V H = T → WL c ops (l.drop n) T K) : WL c ops l S K :=
  h1 fun _ hz => WL.ahead hz (h2 _ rfl)
/-- a region whose ways join -/
theorem W.regJ {c : Cx} {id : Nat} {ops : Array Oper} {S : St} {Q : Exit → St → Prop} {D : List (Option Nat)} (ts ks : List Nat) (V H : List (Nat × AV)) (hD : ops.toList.map (·.dst) = D)
    (hb : ∀ (ops' : Array Oper) (K : St → Prop), ops'.toList.map (·.dst) = D → (∀ S', Wz S' (stk S ts ks V H) → K S') → WL c ops' ops.toList S K) (k : ∀ T, stk S ts ks V H = T → Q .normal T) : W c (.region id ops false) S Q := by
  refine W.after (Q' := fun e S1 => e = .normal ∧ Wz S1 (stk S ts ks V H)) (W.regL fun ops' e => ?_) fun e S1 ⟨h1, h2⟩ => ⟨_, h2, by subst h1; exact k _ rfl⟩
  exact hb ops' _ (by subst e; exact hD) fun S' h => ⟨rfl, h⟩
/-- the same without guards or ways -/
theorem W.regJ0 {c : Cx} {id : Nat} {ops : Array Oper} {S : St} {Q : Exit → St → Prop} {D : List (Option Nat)} (hD : ops.toList.map (·.dst) = D)
    (hb : ∀ (ops' : Array Oper) (K : St → Prop), ops'.toList.map (·.dst) = D → (∀ S', Q .normal S' → K S') → WL c ops' ops.toList S K) : W c (.region id ops false) S Q :=
  W.regL fun ops' e => hb ops' _ (by subst e; exact hD) fun _ h => h
theorem W.condT {c : Cx} {S : St} {Q : Exit → St → Prop} {g : Operand} {x y : Code} (hg : evT c 0 S g = .d (.lf (.bool true))) (og : okO c 0 g) (h : W c x S Q) : W c (.cond g x y) S Q := W.cond true hg og (by simpa using h)
theorem W.condF {c : Cx} {S : St} {Q : Exit → St → Prop} {g : Operand} {x y : Code} (hg : evT c 0 S g = .d (.lf (.bool false))) (og : okO c 0 g) (h : W c y S Q) : W c (.cond g x y) S Q := W.cond false hg og (by simpa using h)
/-- a text whose ways join at its end -/
theorem W.join {c : Cx} {code : Code} {S : St} {Q : Exit → St → Prop} (ts ks : List Nat) (V H : List (Nat × AV)) (h1 : W c code S (thenQ (fun S1 => Wz S1 (stk S ts ks V H)) Q)) (h2 : ∀ T, stk S ts ks V H = T → Q .normal T) : W c code S Q :=
  W.after h1 fun e S1 q => by
    cases e with
    | normal => exact ⟨_, q, h2 _ rfl⟩
    | exit id => exact ⟨S1, Wz.refl S1, q⟩
    | goto l => exact ⟨S1, Wz.refl S1, q⟩
    | ret => exact ⟨S1, Wz.refl S1, q⟩
    | panic ch => exact ⟨S1, Wz.refl S1, q⟩
    | outgrown => exact ⟨S1, Wz.refl S1, q⟩
/-- a loop with a fact for each round -/
theorem W.loopI {c : Cx} {x : Code} {Q : Exit → St → Prop} {S : St} {h : HP} (ts ks : List Nat) (V H : Nat → List (Nat × AV)) (n : Nat) (I : Nat → Prop) (hh : S.hp.tail = upH h) (h0 : toOk S (V 0 ++ tls S ts) (H 0 ++ hls (hd S) ks)) (i0 : I 0)
    (hb : ∀ k, k ≤ n → I k → ∀ T, stk S ts ks (V k) (H k) = T → W c x T (thenQ (fun S' => k < n ∧ I (k + 1) ∧ Wz S' (stk S ts ks (V (k + 1)) (H (k + 1)))) Q)) : W c (.loop x) S Q := by
  have key : ∀ m k, k + m = n → I k → WR c x Q (m + 1) (stk S ts ks (V k) (H k)) := by
    intro m
    induction m with
    | zero =>
      intro k hk hi
      refine (hb k (by omega) hi _ rfl).mono fun e S' hq => ?_
      cases e with
      | normal => obtain ⟨h1, -⟩ := hq; omega
      | _ => exact hq
    | succ m ih =>
      intro k hk hi
      refine W.after (hb k (by omega) hi _ rfl) fun e S1 hq => ?_
      cases e with
      | normal =>
        obtain ⟨-, h2, h3⟩ := hq
        exact ⟨_, h3, ih (k + 1) (by omega) h2⟩
      | exit id => exact ⟨S1, Wz.refl S1, hq⟩
      | goto l => exact ⟨S1, Wz.refl S1, hq⟩
      | ret => exact ⟨S1, Wz.refl S1, hq⟩
      | panic ch => exact ⟨S1, Wz.refl S1, hq⟩
      | outgrown => exact ⟨S1, Wz.refl S1, hq⟩
  exact W.ahead (Wz.to hh hh rfl h0) (W.rounds _ (key n 0 (by omega) i0))
/-- all numbers below n -/
def allB (n : Nat) (p : Nat → Bool) : Bool := (List.range n).all p
theorem allB_true {n : Nat} {p : Nat → Bool} (h : ∀ k, k < n → p k = true) : allB n p = true := by
  unfold allB
  simpa using h
theorem allB_false {n k : Nat} {p : Nat → Bool} (hk : k < n) (h : p k = false) : allB n p = false := by
  unfold allB
  rw [Bool.eq_false_iff]
  intro q
  have := (List.all_eq_true.1 q) k (by simpa using hk)
  rw [h] at this; cases this
theorem step_all {p : Nat → Bool} {k : Nat} (h : ∀ j, j < k → p j = true) (hk : p k = true) : ∀ j, j < k + 1 → p j = true := fun j hj => by
  rcases Nat.lt_or_ge j k with q | q
  · exact h j q
  · have : j = k := by omega
    subst this; exact hk
/-- what hands back a value and keeps all that was there -/
theorem CS.ofVal {c : Cx} {f : Nat} {args : List DD} {v : Value} {y : DD} (hv : ∀ w F, rp w F y [v] [] ∧ y.mk [v] = v) (hc : ∀ (w : World) (vs : List Value), (∃ F : Nat → Nat, (∀ b, w.heap.size ≤ b → F b = 0) ∧ vs.length = args.length ∧ ∀ (i : Nat) (d : DD), args[i]? = some d → ∃ cs, rp w F d.vw cs [] ∧ vs[i]? = some (d.mk cs)) → Calls c.P f vs.toArray w fun e w' => e = .returned v ∧ Below w.heap.size w w') (h : HP) :
    CS c.P f (args.map .d) h (.d y) h := by
  intro w F Θ own vs hR
  have hlen : vs.length = args.length := by have := hR.n; simpa [entS] using this
  refine (hc w vs ⟨F, hR.top, hlen, fun i d hd => ?_⟩).mono fun e w' ⟨h1, h2⟩ => ?_
  · have h1 := hR.tm i
    have hi : i < args.length := (List.getElem?_eq_some_iff.1 hd).1
    have e1 : (entS (args.map AV.d) h).tm i = .d d := by
      simp only [entS, List.getD_eq_getElem?_getD, List.getElem?_map, hd, Option.map_some, Option.getD_some]
    rw [e1] at h1
    have h3 := rv.view _ _ _ h1
    simp only [AV.vw, rv] at h3
    obtain ⟨cs, h4, h5⟩ := h3
    refine ⟨cs, h4, ?_⟩
    rw [DD.mk_vw] at h5
    have hi2 : i < vs.length := by omega
    simp only [Array.getD_eq_getD_getElem?, List.getElem?_toArray, List.getElem?_eq_getElem hi2, Option.getD_some] at h5
    rw [List.getElem?_eq_getElem hi2, h5]
  · obtain ⟨k1, k2⟩ := hv w' F
    have hF : ∀ b, w.heap.size ≤ b → F b = 0 := hR.top
    have kp : ∀ bs : List Nat, (∀ b ∈ bs, b < w.heap.size) → Kp w F w' F bs := fun bs hbs => by
      refine ⟨fun b o ho => ?_, fun _ => Nat.le_refl _, fun b hb => ⟨h2.block b (hbs b hb), rfl⟩⟩
      have hb : b < w.heap.size := by
        rcases Nat.lt_or_ge b w.heap.size with q | q
        · exact q
        · have := hF b q; omega
      exact World.cell?_of_block (a := ⟨b, o, none⟩) (h2.block b hb)
    let own' : Who → List Nat := fun
      | .t _ => []
      | .h lv k => own (.h lv k)
      | .l lv k => own (.l lv k)
    have hsub : ∀ x b, b ∈ own' x → b ∈ own x := fun x b hb => by
      cases x with
      | t t => simp [own'] at hb
      | h lv k => exact hb
      | l lv k => exact hb
    refine ⟨v, F, own', h1, ⟨rfl, rfl, fun t => ?_, fun lv k q => ?_, fun lv k cn q => ?_, fun x => ?_, fun x z hxz b hb hz => hR.dj x z hxz b (hsub x b hb) (hsub z b hz), fun x b hb => Nat.lt_of_lt_of_le (hR.lt x b (hsub x b hb)) h2.size, fun b hb => hF b (Nat.le_trans h2.size hb)⟩, ⟨⟨h2.os, h2.tape, h2.output, h2.size, fun b o ho => (kp [] (by simp)).cell b o ho, fun _ => Nat.le_refl _, fun b hb _ => ⟨h2.block b hb, rfl⟩⟩, fun x b hb => .inl ⟨x, hsub x b hb⟩, fun _ _ => rfl⟩⟩
    · by_cases ht : t = 0
      · subst ht
        show rv w' F Θ (if (0 : Nat) = 0 then AV.d y else .un) _ _
        rw [if_pos rfl]
        simp only [rv]
        exact ⟨[v], k1, by simp [k2]⟩
      · show rv w' F Θ (if t = 0 then AV.d y else .un) _ _
        rw [if_neg ht]
        simp only [rv]; rfl
    · exact hR.hn lv k q
    · obtain ⟨b, s, cur, ty, g1, g2, g3, g4, g5, g6⟩ := hR.hs lv k cn q
      have hb : b < w.heap.size := hR.lt _ b (by rw [g2]; simp)
      exact ⟨b, s, cur, ty, g1, g2, g3, g4, (h2.block b hb).trans g5, rc.keep (fun _ _ _ e => e) _ _ _ g6 (kp _ fun x hx => hR.lt _ x hx)⟩
    · cases x with
      | t t => exact List.nodup_nil
      | h lv k => exact hR.nd _
      | l lv k => exact hR.nd _
/-- a piece of a text -/
theorem ok_sliceStr {c : Cx} {mv : List Nat} {o : Oper} {S : St} {T : Nat} {x : Operand} {lo hi : Option Operand} (ho : o.op = .slice T x lo hi none) (hd : ∀ k, o.dst = some k → k < S.n) (hn : (cls mv o).Nodup) (h1 : okO c T x) (h2 : okX c lo) (h3 : okX c hi) {ti : TI} (ht : c.ty T = some ti) (hk : ti.kd = .str) {s : ByteArray} (he : evT c T S x = .d (.lf (.string s)))
    (l h : Nat) (kl : IntKind) (hl : loV c S lo = .d (.lf (.int kl (l : Int)))) (hh : hi.map (evT c 0 S) = none ∧ h = s.size ∨ ∃ kh, hi.map (evT c 0 S) = some (.d (.lf (.int kh (h : Int))))) (h4 : l ≤ h) (h5 : h ≤ s.size) : okP c mv o S := by
  obtain ⟨sh, z, zc, b, kd⟩ := ti
  simp only at hk
  subst hk
  unfold okP
  refine ⟨hd, hn, ?_⟩
  rw [ho]
  simp only [ht, he]
  exact ⟨h1, h2, h3, l, h, kl, hl, hh, h4, h5⟩
theorem beqS (a b : ByteArray) : (a.toList == b.toList) = decide (a = b) := by
  by_cases h : a = b
  · subst h; simp
  · have : a.toList ≠ b.toList := fun e => h (ba_ext e)
    rw [decide_eq_false h]
    simpa using this
/-- a byte of a text -/
def bt (s : ByteArray) (i : Nat) : Nat := (s.data.getD i 0).toNat
theorem bt_eq (s : ByteArray) (i : Nat) : (s.data.getD i 0).toNat = bt s i := rfl
theorem bt_eq2 (s : ByteArray) (i : Nat) : ((s.data[i]?).getD 0).toNat = bt s i := by
  unfold bt
  rw [Array.getD_eq_getD_getElem?]
theorem bt_eq3 (s : ByteArray) (i : Nat) (h : i < s.data.size) : (s.data[i]'h).toNat = bt s i := by
  unfold bt
  rw [Array.getD_eq_getD_getElem?, Array.getElem?_eq_getElem h]; rfl
theorem bt_lt (s : ByteArray) (i : Nat) : bt s i < 256 := UInt8.toNat_lt _
theorem beqI (a b : Int) : (a == b) = decide (a = b) := Bool.eq_iff_iff.2 (by simp)
theorem baSize (a : Array UInt8) : (⟨a⟩ : ByteArray).size = a.size := rfl
def hasS (l : List ByteArray) (s : ByteArray) : Bool := l.any fun x => decide (x = s)
theorem hasS_true {l : List ByteArray} {s : ByteArray} (h : s ∈ l) : hasS l s = true := List.any_eq_true.2 ⟨s, h, by simp⟩
theorem hasS_false {l : List ByteArray} {s : ByteArray} (h : s ∉ l) : hasS l s = false := by
  unfold hasS
  rw [Bool.eq_false_iff]
  intro q
  obtain ⟨x, hx, e⟩ := List.any_eq_true.1 q
  have : x = s := by simpa using e
  exact h (this ▸ hx)
attribute [simp] beqI AV.bl baSize beqS bt_eq bt_eq2 bt_eq3
end Go.Proofs.YtkmiecgcibjkbaaGreat
