/- Den21: regions that draw their order, one operation after the other; branches; Den22: loops over families of states, branches, regions apart from what follows; Den23: from a call by the rules to a call in terms of trees (Rep, Own). No condition but sizes. -/
import Derived.Test.YtdooklofebdknaaGreatM17
namespace Go.Proofs.YtdooklofebdknaaGreat
open Go.RowKit
inductive Kd where
  | val
  | ld (a b : Nat)
  | al (k : Nat)
  | st (a b : Nat)
  | hp
def Ef.kd : Ef → Kd
  | .val => .val
  | .ld a b => .ld a b
  | .al k _ => .al k
  | .st a b _ => .st a b
  | .hp _ => .hp
def kcB : Kd → Kd → Bool
  | .val, .val => true
  | .val, .ld _ _ => true
  | .ld _ _, .val => true
  | .ld _ _, .ld _ _ => true
  | .val, .al _ => true
  | .al _, .val => true
  | .ld _ _, .al _ => true
  | .val, .hp => true
  | .hp, .val => true
  | .val, .st _ _ => true
  | .st _ _, .val => true
  | .ld a b, .st p q => !(a == p && b == q)
  | .st a b, .ld p q => !(a == p && b == q)
  | .st a b, .al k => !(a == 0 && b == k)
  | _, _ => false
structure Sk where
  ts : List Nat
  kd : Kd
def Fsk.sk (f : Fsk) : Sk := ⟨f.ts, f.ef.kd⟩
theorem kcB_eq (x y : Ef) : kcB x.kd y.kd = kindB x y := by cases x <;> cases y <;> rfl
def skB (ops : Array Oper) (o : Oper) (x : Sk) (p : Oper) (y : Sk) : Bool :=
  (match o.dst with
   | some d => !(p.looksAt ops).contains d && !y.ts.contains d && p.dst != some d
   | none => true) &&
  (match p.dst with
   | some d => !(o.looksAt ops).contains d && !x.ts.contains d
   | none => true) &&
  (x.ts.all fun t => !y.ts.contains t) && kcB x.kd y.kd
theorem skB_eq (ops : Array Oper) (x y : Fsk) : skB ops x.o x.sk y.o y.sk = indB ops x y := by
  unfold skB indB
  rw [← kcB_eq]; rfl
def drawK (ops : Array Oper) (l : List Sk) : Bool :=
  (l.length == ops.size) && ((List.range ops.size).all fun i => match ops[i]? with
    | none => false
    | some o => o.after.toList.all fun e => !Region.binds .any e || decide (e.on < i)) &&
  ((List.range ops.size).all fun j => (List.range j).all fun i => depE ops ops.size j i || match ops[i]?, ops[j]?, l[i]?, l[j]? with
    | some o, some p, some x, some y => skB ops o x p y
    | _, _, _, _ => false)
theorem drawK_eq {ops : Array Oper} {fs : List Fsk} (ho : fs.map Fsk.o = ops.toList) (h : drawK ops (fs.map Fsk.sk) = true) : drawB ops fs = true := by
  have key : ∀ i : Nat, ops[i]? = (fs[i]?).map Fsk.o := fun i => by
    rw [← List.getElem?_map, ho]; simp
  unfold drawK at h
  unfold drawB
  simp only [Bool.and_eq_true, List.length_map] at h ⊢
  refine ⟨h.1, ?_⟩
  have h2 := h.2
  simp only [List.all_eq_true, Bool.or_eq_true, List.mem_range] at h2 ⊢
  intro j hj i hi
  rcases h2 j hj i hi with q | q
  · exact .inl q
  · refine .inr ?_
    rw [key i, key j, List.getElem?_map, List.getElem?_map] at q
    cases hx : fs[i]? with
    | none => rw [hx] at q; simp at q
    | some x =>
      cases hy : fs[j]? with
      | none => rw [hx, hy] at q; simp at q
      | some y =>
        rw [hx, hy] at q
        simp only [Option.map_some] at q
        simp only
        rw [← skB_eq]; exact q
theorem pth_ok {c : Cx} {mv : List Nat} {o : Oper} {S : St} (h : okP c mv o S) : (∀ lv q, (fsOf c mv o S).ef = .ld lv q → hpg S.hp lv q ≠ none) ∧ (∀ k cn, (fsOf c mv o S).ef = .al k cn → hpg S.hp 0 k = none) := by
  obtain ⟨-, -, h⟩ := h
  unfold fsOf
  split
  all_goals try (rename_i ho; rw [ho] at h; simp only at h)
  case h_1 =>
    obtain ⟨⟨ti, h1⟩, h2, k, h3, h4⟩ := h
    rw [h3, h1]
    exact ⟨fun _ _ e => (by cases e), fun _ _ e => (by cases e; exact h4)⟩
  case h_2 =>
    obtain ⟨-, -, -, k, h3, h4⟩ := h
    rw [h3]
    exact ⟨fun _ _ e => (by cases e), fun _ _ e => (by cases e; exact h4)⟩
  case h_3 =>
    split
    · split
      · cases mvB mv o.dst with
        | true => exact ⟨fun _ _ e => (by cases e), fun _ _ e => (by cases e)⟩
        | false => exact ⟨fun _ _ e => (by cases e; rename_i hq; rw [hq]; simp), fun _ _ e => (by cases e)⟩
      · exact ⟨fun _ _ e => (by cases e), fun _ _ e => (by cases e)⟩
    · exact ⟨fun _ _ e => (by cases e), fun _ _ e => (by cases e)⟩
    · exact ⟨fun _ _ e => (by cases e), fun _ _ e => (by cases e)⟩
  case h_7 =>
    obtain ⟨-, -, -, ⟨k, h3, h4⟩, -⟩ := h
    rw [h3]
    split
    · split
      · rename_i h5 _ _ _ _ _; cases h5; exact ⟨fun _ _ e => (by cases e), fun _ _ e => (by cases e; exact h4)⟩
      · exact ⟨fun _ _ e => (by cases e), fun _ _ e => (by cases e)⟩
    · exact ⟨fun _ _ e => (by cases e), fun _ _ e => (by cases e)⟩
  case h_8 =>
    split
    · rename_i hx
      refine ⟨fun _ _ e => ?_, fun _ _ e => (by cases e)⟩
      cases e
      obtain ⟨-, h⟩ := h
      rw [hx] at h
      split at h
      · obtain ⟨-, h⟩ := h
        split at h
        · rename_i h5; cases h5
        · rename_i h5
          cases h5
          split at h
          · rename_i h6; rw [h6]; simp
          · exact h.elim
        · rename_i h5; exact (h5 _ _ _ rfl).elim
      · exact h.elim
    · exact ⟨fun _ _ e => (by cases e), fun _ _ e => (by cases e)⟩
  case h_9 =>
    split
    · rename_i hx
      refine ⟨fun _ _ e => ?_, fun _ _ e => (by cases e)⟩
      cases e
      obtain ⟨-, -, h⟩ := h
      rw [hx] at h
      split at h
      · split at h
        · rename_i h5 _; cases h5
        · rename_i h5 _
          cases h5
          obtain ⟨-, cn, h6, -⟩ := h
          rw [h6]; simp
        · exact h.elim
      · exact h.elim
    · exact ⟨fun _ _ e => (by cases e), fun _ _ e => (by cases e)⟩
  all_goals first
    | exact ⟨fun _ _ e => (by cases e), fun _ _ e => (by cases e)⟩
    | (split <;> first
        | exact ⟨fun _ _ e => (by cases e), fun _ _ e => (by cases e)⟩
        | (split <;> exact ⟨fun _ _ e => (by cases e), fun _ _ e => (by cases e)⟩))
/-- the operations that are left of a region that draws -/
def DL (c : Cx) (ops : Array Oper) (acc : List Sk) (l : List Oper) (S : St) (K : St → Prop) : Prop := ∃ fs Sf, Pth c ops fs S Sf ∧ fs.map Fsk.o = l ∧ drawK ops (acc ++ fs.map Fsk.sk) = true ∧ K Sf
theorem DL.nil {c : Cx} {ops : Array Oper} {acc : List Sk} {S : St} {K : St → Prop} (hc : drawK ops acc = true) (h : K S) : DL c ops acc [] S K := ⟨[], S, rfl, rfl, by simpa using hc, h⟩
theorem DL.cons {c : Cx} {ops : Array Oper} {acc : List Sk} {o : Oper} {l : List Oper} {S S1 : St} {K : St → Prop} (f : Fsk) (ho : f.o = o) (hv : f.valid c ops S) (h1 : ∀ lv q, f.ef = .ld lv q → hpg S.hp lv q ≠ none) (h2 : ∀ k cn, f.ef = .al k cn → hpg S.hp 0 k = none) (e : f.ap S = S1) (k : DL c ops (acc ++ [f.sk]) l S1 K) : DL c ops acc (o :: l) S K := by
  subst e
  obtain ⟨fs, Sf, k1, k2, k3, k4⟩ := k
  exact ⟨f :: fs, Sf, ⟨⟨hv, h1, h2⟩, k1⟩, by rw [List.map_cons, ho, k2], by simpa using k3, k4⟩
theorem DL.op {c : Cx} (mv : List Nat) {ops : Array Oper} {acc : List Sk} {o : Oper} {l : List Oper} {S S1 : St} {K : St → Prop} (hg : o.guard = none) (h : okP c mv o S) (e : nx c mv o S = S1) (k : DL c ops (acc ++ [(fsOf c mv o S).sk]) l S1 K) : DL c ops acc (o :: l) S K :=
  DL.cons (fsOf c mv o S) (fs_o c mv o S) (valid_op (by unfold wnt; rw [hg]) h) (pth_ok h).1 (pth_ok h).2 (by rw [← nx_fs h]; exact e) k
theorem DL.call {c : Cx} {ops : Array Oper} {acc : List Sk} {o : Oper} {l : List Oper} {S : St} {K : St → Prop} (ts : List Nat) (f : Operand) (args : Array Operand) (argTypes : Array TypeId) (ho : o.op = .call { callee := .value f, args, argTypes }) (hg : o.guard = none) (hd : ∀ k, o.dst = some k → k < S.n)
    {g : Nat} {caps : List AV} (hf : evT c 0 S f = .fn g caps) (of : okO c 0 f) {fn : Func} {body : Code} (hfn : FnOk c.P g fn body) (hTs : argTypes.toList.length = args.toList.length) (hok : ∀ x ∈ argTypes.toList.zip args.toList, okO c x.1 x.2) (hn : (gvn ts args.toList).Nodup)
    {as' : List AV} (ha : (argTypes.toList.zip args.toList).map (fun x => argA c ts S x.1 x.2) ++ caps = as') {r : AV} (hc : ∀ h, CS c.P g as' h r h) {S1 : St} (e : (⟨S.n, putF (clrs S.tm (gvn ts args.toList)) o.dst r, S.hp⟩ : St) = S1) (k : DL c ops (acc ++ [⟨gvn ts args.toList, .val⟩]) l S1 K) : DL c ops acc (o :: l) S K := by
  subst ha
  exact DL.cons ⟨o, gvn ts args.toList, r, .val⟩ rfl (valid_call hd (by unfold wnt; rw [hg]) f args argTypes ho ts g caps hf of fn body hfn argTypes.toList hTs hok hn r hc) (fun _ _ h => by cases h) (fun _ _ h => by cases h) e k
theorem W.regD {c : Cx} {id : Nat} {ops : Array Oper} {S : St} {Q : Exit → St → Prop} (hm : c.P.follows .mixedOrders = true) (h : ∀ ops', ops' = ops → DL c ops' [] ops.toList S (Q .normal)) : W c (.region id ops true) S Q := by
  obtain ⟨fs, Sf, h1, h2, h3, h4⟩ := h ops rfl
  exact W.draw fs h1 hm h2 (drawK_eq h2 (by simpa using h3)) h4
def toOk (S : St) (L L2 : List (Nat × AV)) : Prop := S.hp ≠ [] ∧ (∀ p ∈ L, S.tm p.1 = p.2 ∧ p.2.cl L2) ∧ ∀ p ∈ L2, hd S p.1 = some p.2 ∧ p.2.cl L2
theorem hd_eq {S : St} (h : S.hp ≠ []) : S.hp = hd S :: S.hp.tail := by
 unfold hd
 cases hs : S.hp with
 | nil => exact absurd hs h
 | cons f r => rfl
theorem wk_to {S : St} {h : HP} (L L2 : List (Nat × AV)) (hh : S.hp.tail = upH h) (k : toOk S L L2) : Wk S ⟨S.n, tl L, al L2 :: upH h⟩ :=
 wk_prune L L2 (by rw [← hh]; exact hd_eq k.1) k.2.1 k.2.2
/-- what a loop starts from: some things as in S, others given -/
def stk (S : St) (ts ks : List Nat) (V H : List (Nat × AV)) : St := ⟨S.n, tl (V ++ tls S ts), al (H ++ hls (hd S) ks) :: S.hp.tail⟩
theorem Wz.to {S S0 : St} {h : HP} {ts ks : List Nat} {V H : List (Nat × AV)} (hh : S.hp.tail = upH h) (h0 : S0.hp.tail = upH h) (hn : S.n = S0.n) (k : toOk S (V ++ tls S0 ts) (H ++ hls (hd S0) ks)) : Wz S (stk S0 ts ks V H) := by
 have := wk_to _ _ hh k
 unfold stk
 rw [h0, ← hn]
 exact Wz.of this
theorem W.loopk {c : Cx} {x : Code} {Q : Exit → St → Prop} {S : St} {h : HP} (ts ks : List Nat) (V H : Nat → List (Nat × AV)) (n : Nat) (hh : S.hp.tail = upH h) (h0 : toOk S (V 0 ++ tls S ts) (H 0 ++ hls (hd S) ks))
  (hb : ∀ k, k ≤ n → ∀ T, stk S ts ks (V k) (H k) = T → W c x T (thenQ (fun S' => k < n ∧ Wz S' (stk S ts ks (V (k + 1)) (H (k + 1)))) Q)) : W c (.loop x) S Q :=
 W.loopz (fun k => stk S ts ks (V k) (H k)) n (Wz.to hh hh rfl h0) fun k hk => hb k hk _ rfl
theorem W.regS {c : Cx} {id : Nat} {ops : Array Oper} {S S1 : St} {Q : Exit → St → Prop} (h : ∀ (ops' : Array Oper) (K : St → Prop), K S1 → WL c ops' ops.toList S K) (k : Q .normal S1) : W c (.region id ops false) S Q := W.regL fun ops' _ => h ops' _ k
theorem W.regSD {c : Cx} {id : Nat} {ops : Array Oper} {S S1 : St} {Q : Exit → St → Prop} (hm : c.P.follows .mixedOrders = true) (h : ∀ K : St → Prop, K S1 → DL c ops [] ops.toList S K) (k : Q .normal S1) : W c (.region id ops true) S Q := W.regD hm fun _ e => by subst e; exact h _ k
theorem W.condS {c : Cx} {S : St} {Q : Exit → St → Prop} {g : Operand} {x y : Code} (b : Bool) (hg : evT c 0 S g = .d (.lf (.bool b))) (og : okO c 0 g) (h1 : b = true → W c x S Q) (h2 : b = false → W c y S Q) : W c (.cond g x y) S Q :=
 W.cond b hg og (by cases b <;> simp [h1, h2])
/-- a row that is full is a slice -/
theorem W.frz {c : Cx} {code : Code} {S : St} {Q : Exit → St → Prop} {h : HP} (t k n : Nat) (es : List DD) (s : Sh) (ts ks : List Nat) (hh : S.hp.tail = upH h) (h0 : S.hp ≠ []) (ht : S.tm t = .rw 0 k n) (hk : hd S k = some (.d (.st es))) (hsp : 0 < s.w) (hes : DD.shs es = List.replicate n s)
  (h1 : ∀ p ∈ tls S ts, p.1 ≠ t ∧ p.2.cl (hls (hd S) ks)) (h2 : ∀ p ∈ hls (hd S) ks, p.1 ≠ k ∧ p.2.cl (hls (hd S) ks)) {T : St} (e : (⟨S.n, tl ((t, .d (.sl true s es)) :: tls S ts), al (hls (hd S) ks) :: S.hp.tail⟩ : St) = T) (w : W c code T Q) : W c code S Q := by
 subst e
 have e1 : S.hp = hd S :: upH h := by rw [← hh]; exact hd_eq h0
 rw [hh] at w
 refine W.ahead (wz_freeze t k n es s (tls S ts) (hls (hd S) ks) e1 ht hk hsp hes (fun p hp => ⟨(h1 p hp).1, ?_, (h1 p hp).2⟩) (fun p hp => ⟨(h2 p hp).1, hls_get _ _ p hp, (h2 p hp).2⟩)) w
 obtain ⟨t, -, rfl⟩ := List.mem_map.1 hp
 rfl
theorem i64mn : IntKind.i64.min = -9223372036854775808 := rfl
theorem i64mx : IntKind.i64.max = 9223372036854775807 := rfl
theorem u8mn : IntKind.u8.min = 0 := rfl
theorem u8mx : IntKind.u8.max = 255 := rfl
theorem i64w {n : Int} (h1 : -9223372036854775808 ≤ n) (h2 : n ≤ 9223372036854775807) : IntKind.i64.wrap n = n := IntWalk.i64_in n ⟨h1, h2⟩
theorem ixNext {k : Nat} {n : Nat} (h : k < n) (hn : n ≤ 4611686018427387904) : IntKind.i64.wrap ((k : Int) + 1) = (k : Int) + 1 := i64w (by omega) (by omega)
/-- a row that is being filled -/
def rowL {α : Type} (f : α → DD) (l : List α) (k : Nat) (z : DD) : List DD := (l.take k).map f ++ List.replicate (l.length - k) z
theorem rowL_zero {α : Type} (f : α → DD) (l : List α) (z : DD) : rowL f l 0 z = List.replicate l.length z := by simp [rowL]
theorem rowL_full {α : Type} (f : α → DD) (l : List α) (z : DD) : rowL f l l.length z = l.map f := by simp [rowL]
theorem rowL_at {α : Type} {f : α → DD} {l : List α} {k : Nat} {z : DD} (h : k < l.length) : (rowL f l k z)[k]? = some z := by
 unfold rowL
 rw [List.getElem?_append_right (by simp; omega)]
 simp only [List.length_map, List.length_take, List.getElem?_replicate]
 rw [if_pos (by omega)]
theorem rowL_set {α : Type} {f : α → DD} {l : List α} {k : Nat} {z : DD} (h : k < l.length) : (rowL f l k z).set k (f l[k]) = rowL f l (k + 1) z := by
 unfold rowL
 have e : l.length - k = (l.length - (k + 1)) + 1 := by omega
 rw [List.set_append_right _ _ (by simp; omega), e, List.replicate_succ]
 have e2 : k - ((l.take k).map f).length = 0 := by simp; omega
 rw [e2, List.set_cons_zero, List.take_succ_eq_append_getElem h, List.map_append]
 simp
theorem shs_rowL {α : Type} {f : α → DD} {s : Sh} (hf : ∀ x, (f x).sh = s) {z : DD} (hz : z.sh = s) {l : List α} {k : Nat} (hk : k ≤ l.length) : DD.shs (rowL f l k z) = List.replicate l.length s := by
 unfold rowL
 rw [DD.shs_eq, List.map_append, ← DD.shs_eq, shs_map hf, List.length_take, List.map_replicate, hz, List.replicate_append_replicate]
 congr 1; omega
/-- what a loop has gathered -/
def tk {α : Type} (f : α → DD) (l : List α) (k : Nat) : List DD := (l.take k).map f
theorem tk_zero {α : Type} (f : α → DD) (l : List α) : tk f l 0 = [] := rfl
def fk {α : Type} (f : α → List DD) (l : List α) (k : Nat) : List DD := (l.take k).flatMap f
theorem fk_zero {α : Type} (f : α → List DD) (l : List α) : fk f l 0 = [] := rfl
theorem szL_take {α : Type} (g : α → Nat) : ∀ (l : List α) (k : Nat), szL g (l.take k) ≤ szL g l
 | [], k => by simp
 | x :: l, 0 => by simp [szL]
 | x :: l, k + 1 => by simp only [List.take_succ_cons, szL]; have := szL_take g l k; omega
theorem mxl : maxLen = 9223372036854775807 := rfl
theorem ex2 {α β : Type} {a : α} {b : β} {P : α → β → Prop} : (∃ x y, (a = x ∧ b = y) ∧ P x y) ↔ P a b := ⟨fun ⟨_, _, ⟨e1, e2⟩, h⟩ => e1 ▸ e2 ▸ h, fun h => ⟨a, b, ⟨rfl, rfl⟩, h⟩⟩
attribute [simp] AV.ups AV.vws fk_zero ex2 fillD Cx.ft tk_zero rowL_zero mxl okB i64mn i64mx u8mn u8mx cst Cx.el toOk stk Res ResOk resV resW AV.nz AV.nzs AV.dn AV.dns
mutual
/-- the value d is the tree e; all its slices bear the mark o -/
def DD.is (o : Bool) : DD → D → Prop
 | .lf v, .lf u => v = u
 | .st fs, .st gs => DD.iss o fs gs
 | .sl m s es, .sl gs => m = o ∧ 0 < s.w ∧ (∀ e ∈ es, e.sh = s) ∧ DD.iss o es gs
 | _, _ => False
def DD.iss (o : Bool) : List DD → List D → Prop
 | [], [] => True
 | d :: ds, e :: es => d.is o e ∧ DD.iss o ds es
 | _, _ => False
end
theorem is_st {o : Bool} {fs : List DD} {gs : List D} (h : DD.iss o fs gs) : (DD.st fs).is o (.st gs) := by simp only [DD.is]; exact h
theorem is_nil {o : Bool} : DD.iss o [] [] := by simp only [DD.iss]
theorem is_cons {o : Bool} {d : DD} {e : D} {ds : List DD} {es : List D} (h : d.is o e) (k : DD.iss o ds es) : DD.iss o (d :: ds) (e :: es) := by simp only [DD.iss]; exact ⟨h, k⟩
theorem is_lf {o : Bool} (v : Value) : (DD.lf v).is o (.lf v) := by simp only [DD.is]
theorem iss_map {α : Type} {o : Bool} {f : α → DD} {g : α → D} : ∀ {l : List α}, (∀ x ∈ l, (f x).is o (g x)) → DD.iss o (l.map f) (l.map g)
 | [], _ => is_nil
 | x :: l, h => is_cons (h x (by simp)) (iss_map fun y hy => h y (by simp [hy]))
theorem is_sl {α : Type} {o : Bool} {s : Sh} {f : α → DD} {g : α → D} {l : List α} (hs : ∀ x, (f x).sh = s) (hp : 0 < s.w) (h : ∀ x ∈ l, (f x).is o (g x)) : (DD.sl o s (l.map f)).is o (.sl (l.map g)) := by
 simp only [DD.is]
 refine ⟨trivial, hp, fun e he => ?_, iss_map h⟩
 obtain ⟨x, -, rfl⟩ := List.mem_map.1 he
 exact hs x
mutual
theorem is_w {o : Bool} : ∀ (d : DD) (e : D), d.is o e → d.sh.w = e.width
 | .lf v, .lf u, _ => by simp [DD.sh, Sh.w, D.width]
 | .st fs, .st gs, h => by
  simp only [DD.is] at h
  simp only [DD.sh, Sh.w, D.width]
  exact (iss_w fs gs h).1
 | .sl m s es, .sl gs, _ => by simp [DD.sh, Sh.w, D.width]
 | .lf _, .st _, h => by simp [DD.is] at h
 | .lf _, .sl _, h => by simp [DD.is] at h
 | .st _, .lf _, h => by simp [DD.is] at h
 | .st _, .sl _, h => by simp [DD.is] at h
 | .sl _ _ _, .lf _, h => by simp [DD.is] at h
 | .sl _ _ _, .st _, h => by simp [DD.is] at h
theorem iss_w {o : Bool} : ∀ (ds : List DD) (es : List D), DD.iss o ds es → Sh.ws (DD.shs ds) = D.widths es ∧ ds.length = es.length
 | [], [], _ => by simp [DD.shs, Sh.ws, D.widths]
 | d :: ds, e :: es, h => by
  simp only [DD.iss] at h
  obtain ⟨h1, h2⟩ := iss_w ds es h.2
  simp only [DD.shs, Sh.ws, D.widths, is_w d e h.1, h1, List.length_cons, h2, and_self]
 | [], _ :: _, h => by simp [DD.iss] at h
 | _ :: _, [], h => by simp [DD.iss] at h
end
/-- all that is there is frozen -/
def Fz (w : World) (b : Nat) : Nat := match w.heap[b]? with
 | some (.cells cur _ _) => cur.size + 1
 | _ => 0
theorem Fz.lt {w : World} {b o : Nat} {u : Value} (h : w.cell? ⟨b, o, none⟩ = some u) : o < Fz w b := by
 unfold World.cell? at h
 unfold Fz
 split at h
 ·rename_i c _ _ hc
  simp only at hc
  rw [hc]
  simp only at h ⊢
  split at h
  ·cases h
  ·exact Nat.lt_succ_of_lt (Array.getElem?_eq_some_iff.1 h).1
 ·cases h
theorem iss_fz {w : World} {K : Nat → Prop} {s : Sh} {b : Nat} : ∀ (ds : List DD) (es : List D) (off : Nat), DD.iss false ds es → (∀ e ∈ ds, e.sh = s) → 0 < s.w → RepE w K es b off → ds ≠ [] → off + ds.length * s.w ≤ Fz w b
 | [], _, _, _, _, _, _, h => absurd rfl h
 | d :: ds, [], _, h, _, _, _, _ => by simp [DD.iss] at h
 | d :: ds, e :: es, off, h, hs, hp, hr, _ => by
  simp only [DD.iss] at h
  simp only [RepE] at hr
  obtain ⟨⟨cs, hc, hd⟩, hr⟩ := hr
  have hw : e.width = s.w := by rw [← is_w d e h.1, hs d (by simp)]
  have hl := Rep.length e cs hd
  cases hds : ds with
  | nil =>
   have hlt : s.w - 1 < cs.length := by omega
   have := Fz.lt (hc (s.w - 1) _ (List.getElem?_eq_getElem hlt))
   simp; omega
  | cons d2 ds2 =>
   have := iss_fz ds es (off + e.width) h.2 (fun x hx => hs x (by simp [hx])) hp hr (by rw [hds]; simp)
   rw [hds, List.length_cons, Nat.add_mul] at this
   simp only [List.length_cons, Nat.add_mul]
   omega
mutual
theorem rep_rp {w : World} {K : Nat → Prop} : ∀ (d : DD) (e : D) (cs : List Value), d.is false e → Rep w K e cs → rp w (Fz w) d cs []
 | .lf v, .lf u, cs, h, k => by
  simp only [DD.is] at h; subst h
  simp only [Rep] at k
  simp only [rp]; exact ⟨k.1, k.2, trivial⟩
 | .st fs, .st gs, cs, h, k => by
  simp only [DD.is] at h
  simp only [Rep] at k
  simp only [rp]; exact reps_rp fs gs cs h k
 | .sl m s es, .sl gs, cs, h, k => by
  simp only [DD.is] at h
  obtain ⟨rfl, h1, h2, h3⟩ := h
  simp only [Rep] at k
  obtain ⟨a, cap, rfl, k1, k2, k3, k4⟩ := k
  have hl := (iss_w es gs h3).2
  simp only [rp]
  refine ⟨h2, h1, a, cap, by rw [hl], by rw [hl]; exact k1, k2, k3, ?_⟩
  by_cases he : es = []
  ·exact .inl ⟨trivial, he, fun q => by cases q⟩
  ·rcases k4 with rfl | ⟨b, off, ha, hK, hr⟩
   ·exact absurd (List.eq_nil_of_length_eq_zero (by rw [hl]; rfl)) he
   ·exact .inr ⟨b, off, [], ha, repe_rp es gs b off h3 hr, iss_fz es gs off h3 h2 h1 hr he, .inl ⟨trivial, trivial, rfl⟩⟩
 | .lf _, .st _, _, h, _ => by simp [DD.is] at h
 | .lf _, .sl _, _, h, _ => by simp [DD.is] at h
 | .st _, .lf _, _, h, _ => by simp [DD.is] at h
 | .st _, .sl _, _, h, _ => by simp [DD.is] at h
 | .sl _ _ _, .lf _, _, h, _ => by simp [DD.is] at h
 | .sl _ _ _, .st _, _, h, _ => by simp [DD.is] at h
theorem reps_rp {w : World} {K : Nat → Prop} : ∀ (ds : List DD) (es : List D) (cs : List Value), DD.iss false ds es → RepS w K es cs → rpS w (Fz w) ds cs []
 | [], [], cs, _, k => by simp only [RepS] at k; simp only [rpS]; exact ⟨k, trivial⟩
 | d :: ds, e :: es, cs, h, k => by
  simp only [DD.iss] at h
  simp only [RepS] at k
  obtain ⟨c1, c2, rfl, k1, k2⟩ := k
  simp only [rpS]
  exact ⟨c1, c2, [], [], rfl, rfl, rep_rp d e c1 h.1 k1, reps_rp ds es c2 h.2 k2⟩
 | [], _ :: _, _, h, _ => by simp [DD.iss] at h
 | _ :: _, [], _, h, _ => by simp [DD.iss] at h
theorem repe_rp {w : World} {K : Nat → Prop} : ∀ (ds : List DD) (es : List D) (b off : Nat), DD.iss false ds es → RepE w K es b off → rpE w (Fz w) ds b off []
 | [], [], _, _, _, _ => by simp only [rpE]
 | d :: ds, e :: es, b, off, h, k => by
  simp only [DD.iss] at h
  simp only [RepE] at k
  obtain ⟨⟨cs, k1, k2⟩, k3⟩ := k
  simp only [rpE]
  exact ⟨cs, [], [], rfl, k1, rep_rp d e cs h.1 k2, by rw [is_w d e h.1]; exact repe_rp ds es b _ h.2 k3⟩
 | [], _ :: _, _, _, h, _ => by simp [DD.iss] at h
 | _ :: _, [], _, _, h, _ => by simp [DD.iss] at h
end
mutual
theorem rp_own {w : World} {F : Nat → Nat} : ∀ (d : DD) (e : D) (cs : List Value) (bs : List Nat), d.is true e → rp w F d cs bs → Own w e cs bs
 | .lf v, .lf u, cs, bs, h, k => by
  simp only [DD.is] at h; subst h
  simp only [rp] at k
  simp only [Own]; exact k
 | .st fs, .st gs, cs, bs, h, k => by
  simp only [DD.is] at h
  simp only [rp] at k
  simp only [Own]; exact rps_own fs gs cs bs h k
 | .sl m s es, .sl gs, cs, bs, h, k => by
  simp only [DD.is] at h
  obtain ⟨rfl, h1, h2, h3⟩ := h
  simp only [rp] at k
  obtain ⟨-, -, a, cap, rfl, k1, k2, k3, k4⟩ := k
  have hl := (iss_w es gs h3).2
  simp only [Own]
  refine ⟨a, cap, by rw [hl], by rw [← hl]; exact k1, k2, k3, ?_⟩
  rcases k4 with ⟨rfl, rfl, -⟩ | ⟨b, off, r, ha, hr, -, h6⟩
  ·exact .inl ⟨List.eq_nil_of_length_eq_zero (by rw [← hl]; rfl), rfl⟩
  ·rcases h6 with ⟨q, -, -⟩ | ⟨-, rfl, rfl, -, cur, t, hh, -⟩
   ·cases q
   ·exact .inr ⟨b, 0, r, ha, rfl, ⟨cur, t, hh⟩, rpe_own es gs b 0 r h3 hr⟩
 | .lf _, .st _, _, _, h, _ => by simp [DD.is] at h
 | .lf _, .sl _, _, _, h, _ => by simp [DD.is] at h
 | .st _, .lf _, _, _, h, _ => by simp [DD.is] at h
 | .st _, .sl _, _, _, h, _ => by simp [DD.is] at h
 | .sl _ _ _, .lf _, _, _, h, _ => by simp [DD.is] at h
 | .sl _ _ _, .st _, _, _, h, _ => by simp [DD.is] at h
theorem rps_own {w : World} {F : Nat → Nat} : ∀ (ds : List DD) (es : List D) (cs : List Value) (bs : List Nat), DD.iss true ds es → rpS w F ds cs bs → OwnS w es cs bs
 | [], [], cs, bs, _, k => by simp only [rpS] at k; simp only [OwnS]; exact k
 | d :: ds, e :: es, cs, bs, h, k => by
  simp only [DD.iss] at h
  simp only [rpS] at k
  obtain ⟨c1, c2, b1, b2, rfl, rfl, k1, k2⟩ := k
  simp only [OwnS]
  exact ⟨c1, c2, b1, b2, rfl, rfl, rp_own d e c1 b1 h.1 k1, rps_own ds es c2 b2 h.2 k2⟩
 | [], _ :: _, _, _, h, _ => by simp [DD.iss] at h
 | _ :: _, [], _, _, h, _ => by simp [DD.iss] at h
theorem rpe_own {w : World} {F : Nat → Nat} : ∀ (ds : List DD) (es : List D) (b off : Nat) (bs : List Nat), DD.iss true ds es → rpE w F ds b off bs → OwnE w es b off bs
 | [], [], _, _, _, _, k => by simp only [rpE] at k; simp only [OwnE]; exact k
 | d :: ds, e :: es, b, off, bs, h, k => by
  simp only [DD.iss] at h
  simp only [rpE] at k
  obtain ⟨cs, b1, b2, rfl, k1, k2, k3⟩ := k
  simp only [OwnE]
  exact ⟨cs, b1, b2, rfl, k1, rp_own d e cs b1 h.1 k2, by rw [← is_w d e h.1]; exact rpe_own ds es b _ b2 h.2 k3⟩
 | [], _ :: _, _, _, _, h, _ => by simp [DD.iss] at h
 | _ :: _, [], _, _, _, h, _ => by simp [DD.iss] at h
end
/-- arguments and their values -/
def argOk (w : World) : List DD → List Value → Prop
 | [], [] => True
 | d :: ds, v :: vs => (∃ cs, rp w (Fz w) d cs [] ∧ v = d.mk cs) ∧ argOk w ds vs
 | _, _ => False
theorem argOk.get {w : World} : ∀ (ds : List DD) (vs : List Value), argOk w ds vs → ds.length = vs.length ∧ ∀ i, rv w (Fz w) (fun _ _ => none) ((ds.map AV.d).getD i .un) (vs.getD i undef) []
 | [], [], _ => ⟨rfl, fun i => by simp [rv]⟩
 | d :: ds, v :: vs, h => by
  simp only [argOk] at h
  obtain ⟨k1, k2⟩ := argOk.get ds vs h.2
  refine ⟨by simp [k1], fun i => ?_⟩
  cases i with
  | zero =>
   obtain ⟨cs, h1, h2⟩ := h.1
   simp only [List.map_cons, List.getD_cons_zero, rv]
   exact ⟨cs, h1, h2⟩
  | succ i => simpa using k2 i
 | [], _ :: _, h => by simp [argOk] at h
 | _ :: _, [], h => by simp [argOk] at h
theorem CS.out {c : Cx} {f : Nat} {args : List DD} {y : DD} (h : CS c.P f (args.map .d) [] (.d y) []) (w : World) (vs : List Value) (hv : argOk w args vs) (hgl : Gl w (Fz w) := by simp [Gl, glb]) :
  Calls c.P f vs.toArray w fun e w' => ∃ cs bs F', e = .returned (y.mk cs) ∧ rp w' F' y cs bs ∧ bs.Nodup ∧ (∀ b ∈ bs, w.heap.size ≤ b ∧ b < w'.heap.size) ∧ Below w.heap.size w w' := by
 obtain ⟨hl, hg⟩ := argOk.get args vs hv
 have hR : Rel w (Fz w) (fun _ _ => none) (fun _ => []) (entS (args.map .d) []) ⟨vs.toArray, []⟩ := by
  refine ⟨by simp [entS, hl], rfl, fun t => ?_, fun lv k _ => ⟨rfl, rfl, rfl⟩, fun lv k cn hq => ?_, fun _ => List.nodup_nil, fun _ _ _ b hb => by simp at hb, fun _ b hb => by simp at hb, fun b hb => ?_, hgl⟩
  ·have := hg t
   simpa [entS, Array.getD_eq_getD_getElem?, List.getD_eq_getElem?_getD] using this
  ·cases lv <;> simp [entS, hpg] at hq
  ·unfold Fz
   rw [Array.getElem?_eq_none hb]
 refine (h w _ _ _ vs hR).mono fun e w' ⟨v, F', own', h1, h2, h3⟩ => ?_
 have h4 := h2.tm 0
 simp only [retS, if_true] at h4
 simp only [rv] at h4
 obtain ⟨cs, h5, h6⟩ := h4
 have h6' : v = y.mk cs := by simpa using h6
 subst h6'
 refine ⟨cs, own' (.t 0), F', h1, h5, h2.nd _, fun b hb => ⟨?_, h2.lt _ b hb⟩, ⟨h3.ks.os, h3.ks.tape, h3.ks.output, h3.ks.size, fun b hb => (h3.ks.out b hb (by simp)).1⟩⟩
 rcases h3.fr _ b hb with ⟨x, q⟩ | q
 ·simp at q
 ·exact q
/-- a slice is handed back -/
theorem CS.outS {c : Cx} {f : Nat} {args : List DD} {α : Type} {l : List α} {dd : α → DD} {en : α → D} {s : Sh} (hs : ∀ x, (dd x).sh = s) (hp : 0 < s.w) (hi : ∀ x, (dd x).is true (en x)) (h : CS c.P f (args.map .d) [] (.d (.sl true s (l.map dd))) []) (w : World) (vs : List Value) (hv : argOk w args vs) (hgl : Gl w (Fz w) := by simp [Gl, glb]) :
  Calls c.P f vs.toArray w fun e w' => ∃ a p bs, e = .returned (.slice a l.length p) ∧ Own w' (.sl (l.map en)) [.slice a l.length p] bs ∧ bs.Nodup ∧ (∀ b ∈ bs, w.heap.size ≤ b ∧ b < w'.heap.size) ∧ Below w.heap.size w w' :=
 (h.out w vs hv hgl).mono fun e w' ⟨cs, bs, F', h1, h2, h3, h4, h5⟩ => by
  have ho := rp_own _ _ _ _ (is_sl (l := l) hs hp fun y _ => hi y) h2
  simp only [rp] at h2
  obtain ⟨-, -, a, cap, rfl, -⟩ := h2
  rw [List.length_map] at h1 ho
  exact ⟨a, cap, bs, h1, ho, h3, h4, h5⟩
/-- a struct is handed back -/
theorem CS.outT {c : Cx} {f : Nat} {args : List DD} {fs : List DD} {e0 : D} (hi : (DD.st fs).is true e0) (h : CS c.P f (args.map .d) [] (.d (.st fs)) []) (w : World) (vs : List Value) (hv : argOk w args vs) (hgl : Gl w (Fz w) := by simp [Gl, glb]) :
  Calls c.P f vs.toArray w fun e w' => ∃ cs bs, e = .returned (.agg cs.toArray) ∧ Own w' e0 cs bs ∧ bs.Nodup ∧ (∀ b ∈ bs, w.heap.size ≤ b ∧ b < w'.heap.size) ∧ Below w.heap.size w w' :=
 (h.out w vs hv hgl).mono fun _ _ ⟨cs, bs, _, h1, h2, h3, h4, h5⟩ => ⟨cs, bs, h1, rp_own _ _ _ _ hi h2, h3, h4, h5⟩
theorem argOk_nil {w : World} : argOk w [] [] := by simp only [argOk]
theorem argOk_cons {w : World} {d : DD} {ds : List DD} {v : Value} {vs : List Value} (cs : List Value) (h : rp w (Fz w) d cs []) (e : d.mk cs = v) (k : argOk w ds vs) : argOk w (d :: ds) (v :: vs) := by
 simp only [argOk]; exact ⟨⟨cs, h, e.symm⟩, k⟩
end Go.Proofs.YtdooklofebdknaaGreat
