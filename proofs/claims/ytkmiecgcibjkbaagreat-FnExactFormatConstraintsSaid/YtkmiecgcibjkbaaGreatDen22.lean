/- Den22: loops over families of states, branches, regions apart from what follows. No condition. -/
import Derived.Test.YtkmiecgcibjkbaaGreatDen21
namespace Go.Proofs.YtkmiecgcibjkbaaGreat
open Go.RowKit
def toOk (S : St) (L L2 : List (Nat × AV)) : Prop := S.hp ≠ [] ∧ (∀ p ∈ L, S.tm p.1 = p.2 ∧ p.2.cl L2) ∧ ∀ p ∈ L2, hd S p.1 = some p.2 ∧ p.2.cl L2
theorem hd_eq {S : St} (h : S.hp ≠ []) : S.hp = hd S :: S.hp.tail := by
  unfold hd
  cases hs : S.hp with
  | nil => exact absurd hs h
  | cons f r => rfl
theorem wk_to {S : St} {h : HP} (L L2 : List (Nat × AV)) (hh : S.hp.tail = upH h) (k : toOk S L L2) : Wk S ⟨S.n, tl L, al L2 :: upH h⟩ :=
  wk_prune L L2 (by rw [← hh]; exact hd_eq k.1) k.2.1 k.2.2
/-- what a loop starts from: some things as in S, others given -/
def stk (S : St) (ts ks : List Nat) (V H : List (Nat × AV)) : St := ⟨S.n, tl (V ++ tls S ts), al (H ++ hls (hd S) ks) :: S.hp.tail⟩
theorem Wz.to {S S0 : St} {h : HP} {ts ks : List Nat} {V H : List (Nat × AV)} (hh : S.hp.tail = upH h) (h0 : S0.hp.tail = upH h) (hn : S.n = S0.n) (k : toOk S (V ++ tls S0 ts) (H ++ hls (hd S0) ks)) : Wz S (stk S0 ts ks V H) := by
  have := wk_to _ _ hh k
  unfold stk
  rw [h0, ← hn]
  exact Wz.of this
theorem W.loopk {c : Cx} {x : Code} {Q : Exit → St → Prop} {S : St} {h : HP} (ts ks : List Nat) (V H : Nat → List (Nat × AV)) (n : Nat) (hh : S.hp.tail = upH h) (h0 : toOk S (V 0 ++ tls S ts) (H 0 ++ hls (hd S) ks))
    (hb : ∀ k, k ≤ n → ∀ T, stk S ts ks (V k) (H k) = T → W c x T (thenQ (fun S' => k < n ∧ Wz S' (stk S ts ks (V (k + 1)) (H (k + 1)))) Q)) : W c (.loop x) S Q :=
  W.loopz (fun k => stk S ts ks (V k) (H k)) n (Wz.to hh hh rfl h0) fun k hk => hb k hk _ rfl
theorem W.regS {c : Cx} {id : Nat} {ops : Array Oper} {S S1 : St} {Q : Exit → St → Prop} (h : ∀ (ops' : Array Oper) (K : St → Prop), K S1 → WL c ops' ops.toList S K) (k : Q .normal S1) : W c (.region id ops false) S Q := W.regL fun ops' _ => h ops' _ k
theorem W.regSD {c : Cx} {id : Nat} {ops : Array Oper} {S S1 : St} {Q : Exit → St → Prop} (hm : c.P.follows .mixedOrders = true) (h : ∀ K : St → Prop, K S1 → DL c ops [] ops.toList S K) (k : Q .normal S1) : W c (.region id ops true) S Q := W.regD hm fun _ e => by subst e; exact h _ k
theorem W.condS {c : Cx} {S : St} {Q : Exit → St → Prop} {g : Operand} {x y : Code} (b : Bool) (hg : evT c 0 S g = .d (.lf (.bool b))) (og : okO c 0 g) (h1 : b = true → W c x S Q) (h2 : b = false → W c y S Q) : W c (.cond g x y) S Q :=
  W.cond b hg og (by cases b <;> simp [h1, h2])
/-- a row that is full is a slice -/
theorem W.frz {c : Cx} {code : Code} {S : St} {Q : Exit → St → Prop} {h : HP} (t k n : Nat) (es : List DD) (s : Sh) (ts ks : List Nat) (hh : S.hp.tail = upH h) (h0 : S.hp ≠ []) (ht : S.tm t = .rw 0 k n) (hk : hd S k = some (.d (.st es))) (hsp : 0 < s.w) (hes : DD.shs es = List.replicate n s)
    (h1 : ∀ p ∈ tls S ts, p.1 ≠ t ∧ p.2.cl (hls (hd S) ks)) (h2 : ∀ p ∈ hls (hd S) ks, p.1 ≠ k ∧ p.2.cl (hls (hd S) ks)) {T : St} (e : (⟨S.n, tl ((t, .d (.sl true s es)) :: tls S ts), al (hls (hd S) ks) :: S.hp.tail⟩ : St) = T) (w : W c code T Q) : W c code S Q := by
  subst e
  have e1 : S.hp = hd S :: upH h := by rw [← hh]; exact hd_eq h0
  rw [hh] at w
  refine W.ahead (wz_freeze t k n es s (tls S ts) (hls (hd S) ks) e1 ht hk hsp hes (fun p hp => ⟨(h1 p hp).1, ?_, (h1 p hp).2⟩) (fun p hp => ⟨(h2 p hp).1, hls_get _ _ p hp, (h2 p hp).2⟩)) w
  obtain ⟨t, -, rfl⟩ := List.mem_map.1 hp
  rfl
theorem i64mn : IntKind.i64.min = -9223372036854775808 := rfl
theorem i64mx : IntKind.i64.max = 9223372036854775807 := rfl
theorem u8mn : IntKind.u8.min = 0 := rfl
theorem u8mx : IntKind.u8.max = 255 := rfl
theorem i64w {n : Int} (h1 : -9223372036854775808 ≤ n) (h2 : n ≤ 9223372036854775807) : IntKind.i64.wrap n = n := IntWalk.i64_in n ⟨h1, h2⟩
theorem ixNext {k : Nat} {n : Nat} (h : k < n) (hn : n ≤ 4611686018427387904) : IntKind.i64.wrap ((k : Int) + 1) = (k : Int) + 1 := i64w (by omega) (by omega)
/-- a row that is being filled -/
def rowL {α : Type} (f : α → DD) (l : List α) (k : Nat) (z : DD) : List DD := (l.take k).map f ++ List.replicate (l.length - k) z
theorem rowL_zero {α : Type} (f : α → DD) (l : List α) (z : DD) : rowL f l 0 z = List.replicate l.length z := by simp [rowL]
theorem rowL_full {α : Type} (f : α → DD) (l : List α) (z : DD) : rowL f l l.length z = l.map f := by simp [rowL]
theorem rowL_at {α : Type} {f : α → DD} {l : List α} {k : Nat} {z : DD} (h : k < l.length) : (rowL f l k z)[k]? = some z := by
  unfold rowL
  rw [List.getElem?_append_right (by simp; omega)]
  simp only [List.length_map, List.length_take, List.getElem?_replicate]
  rw [if_pos (by omega)]
theorem rowL_set {α : Type} {f : α → DD} {l : List α} {k : Nat} {z : DD} (h : k < l.length) : (rowL f l k z).set k (f l[k]) = rowL f l (k + 1) z := by
  unfold rowL
  have e : l.length - k = (l.length - (k + 1)) + 1 := by omega
  rw [List.set_append_right _ _ (by simp; omega), e, List.replicate_succ]
  have e2 : k - ((l.take k).map f).length = 0 := by simp; omega
  rw [e2, List.set_cons_zero, List.take_succ_eq_append_getElem h, List.map_append]
  simp
theorem shs_rowL {α : Type} {f : α → DD} {s : Sh} (hf : ∀ x, (f x).sh = s) {z : DD} (hz : z.sh = s) {l : List α} {k : Nat} (hk : k ≤ l.length) : DD.shs (rowL f l k z) = List.replicate l.length s := by
  unfold rowL
  rw [DD.shs_eq, List.map_append, ← DD.shs_eq, shs_map hf, List.length_take, List.map_replicate, hz, List.replicate_append_replicate]
  congr 1; omega
/-- what a loop has gathered -/
def tk {α : Type} (f : α → DD) (l : List α) (k : Nat) : List DD := (l.take k).map f
theorem tk_zero {α : Type} (f : α → DD) (l : List α) : tk f l 0 = [] := rfl
theorem tk_full {α : Type} (f : α → DD) (l : List α) : tk f l l.length = l.map f := by simp [tk]
theorem tk_len {α : Type} {f : α → DD} {l : List α} {k : Nat} (h : k ≤ l.length) : (tk f l k).length = k := by simp [tk]; omega
theorem tk_snoc {α : Type} {f : α → DD} {l : List α} {k : Nat} (h : k < l.length) : tk f l k ++ [f l[k]] = tk f l (k + 1) := by
  unfold tk
  rw [List.take_succ_eq_append_getElem h, List.map_append]; rfl
def fk {α : Type} (f : α → List DD) (l : List α) (k : Nat) : List DD := (l.take k).flatMap f
theorem fk_zero {α : Type} (f : α → List DD) (l : List α) : fk f l 0 = [] := rfl
theorem fk_full {α : Type} (f : α → List DD) (l : List α) : fk f l l.length = l.flatMap f := by simp [fk]
theorem fk_snoc {α : Type} {f : α → List DD} {l : List α} {k : Nat} (h : k < l.length) : fk f l k ++ f l[k] = fk f l (k + 1) := by
  unfold fk
  rw [List.take_succ_eq_append_getElem h, List.flatMap_append]; simp
theorem szL_take {α : Type} (g : α → Nat) : ∀ (l : List α) (k : Nat), szL g (l.take k) ≤ szL g l
  | [], k => by simp
  | x :: l, 0 => by simp [szL]
  | x :: l, k + 1 => by simp only [List.take_succ_cons, szL]; have := szL_take g l k; omega
theorem fm_len {α : Type} {f : α → List DD} {g : α → Nat} (h : ∀ x, (f x).length ≤ g x) : ∀ l : List α, (l.flatMap f).length ≤ szL g l
  | [] => by simp
  | x :: l => by simp only [List.flatMap_cons, List.length_append, szL]; have := fm_len h l; have := h x; omega
theorem fk_len {α : Type} {f : α → List DD} {g : α → Nat} (h : ∀ x, (f x).length ≤ g x) (l : List α) (k : Nat) : (fk f l k).length ≤ szL g l := Nat.le_trans (fm_len h _) (szL_take g l k)
theorem mxl : maxLen = 9223372036854775807 := rfl
theorem ex2 {α β : Type} {a : α} {b : β} {P : α → β → Prop} : (∃ x y, (a = x ∧ b = y) ∧ P x y) ↔ P a b := ⟨fun ⟨_, _, ⟨e1, e2⟩, h⟩ => e1 ▸ e2 ▸ h, fun h => ⟨a, b, ⟨rfl, rfl⟩, h⟩⟩
attribute [simp] AV.ups AV.vws fk_zero ex2 fillD Cx.ft tk_zero rowL_zero mxl okB i64mn i64mx u8mn u8mx cst Cx.el toOk stk Res ResOk resV resW AV.nz AV.nzs AV.dn AV.dns
end Go.Proofs.YtkmiecgcibjkbaaGreat
