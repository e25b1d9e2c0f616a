/- Walks by the Den rules; Den40: captured variables that are closed; Den41: all steps up to the end, as one rule; Den42: ways within a region join again where a test's value is taken; no formula is given. No condition but sizes. -/
import Derived.Test.YtdooklofebdknaaGreatM30
namespace Go.Proofs.YtdooklofebdknaaGreat
open Go.RowKit
set_option maxRecDepth 10000
set_option linter.unusedSimpArgs false
set_option maxHeartbeats 4000000
set_option linter.unusedVariables false
theorem all_at {α : Type} {p : α → Bool} {l : List α} {k : Nat} (h : k < l.length) : (l.drop k).all p = (p l[k] && (l.drop (k + 1)).all p) := by
 rw [List.drop_eq_getElem_cons h]; rfl
theorem all_end {α : Type} {p : α → Bool} {l : List α} {k : Nat} (h : l.length ≤ k) : (l.drop k).all p = true := by
 rw [List.drop_eq_nil_of_le h]; rfl
def cnt {α : Type} (p : α → Bool) (l : List α) (k : Nat) : Nat := (l.take k).countP p
theorem cnt_zero {α : Type} (p : α → Bool) (l : List α) : cnt p l 0 = 0 := rfl
theorem cnt_nx {α : Type} {p : α → Bool} {l : List α} {k : Nat} (h : k < l.length) : cnt p l (k + 1) = cnt p l k + if p l[k] then 1 else 0 := by
 unfold cnt; rw [List.take_succ_eq_append_getElem h, List.countP_append]; simp [List.countP_cons]
theorem cnt_end {α : Type} {p : α → Bool} {l : List α} {k : Nat} (h : l.length ≤ k) : cnt p l k = l.countP p := by
 unfold cnt; rw [List.take_of_length_le h]
theorem cnt_le {α : Type} (p : α → Bool) (l : List α) (k : Nat) : cnt p l k ≤ k := by
 unfold cnt; have := List.countP_le_length (p := p) (l := l.take k); have := List.length_take_le k l; omega
def m1 (t : TTrait) (m : TMethod) : Bool := (siR t m.fName).2.2 && decide ((siR t m.fName).1.fParams.length + 1 = m.fVars.length)
def m2 (x : TInstance) (g : TSignature) : Bool := g.fHasDefault || (meR x g.fName).2.2
theorem methsOk_eq (t : TTrait) (x : TInstance) : methsOk t x = (x.fMethods.all (m1 t) && t.fSignatures.all (m2 x)) := rfl
theorem fc_at {α : Type} {f : α → Int} {l : List α} {k : Nat} (h : k < l.length) : fc f (l.drop k) = if f l[k] = 0 then fc f (l.drop (k + 1)) else f l[k] := by
 rw [List.drop_eq_getElem_cons h]; rfl
theorem fc_end {α : Type} {f : α → Int} {l : List α} {k : Nat} (h : l.length ≤ k) : fc f (l.drop k) = 0 := by
 rw [List.drop_eq_nil_of_le h]; rfl
theorem tSz_get {l : List TType} {k : Nat} (h : k < l.length) : tSize l[k] ≤ tSizes l := by
 induction l generalizing k with
 | nil => simp at h
 | cons x l ih =>
  cases k with
  | zero => simp [tSizes]
  | succ k => have := ih (k := k) (by simpa using h); simp only [tSizes, List.getElem_cons_succ]; omega
def dynP (g : TSignature) : Bool := decide (0 < occ selfS g.fResult) || g.fParams.any fun p => decide (0 < occ selfS p)
theorem dynS_eq (t : TTrait) : dynS t = (!t.fAssoc && !(t.fSignatures.any dynP)) := rfl
theorem any_at {α : Type} {p : α → Bool} {l : List α} {k : Nat} (h : k < l.length) : (l.drop k).any p = (p l[k] || (l.drop (k + 1)).any p) := by
 rw [List.drop_eq_getElem_cons h]; rfl
theorem any_end {α : Type} {p : α → Bool} {l : List α} {k : Nat} (h : l.length ≤ k) : (l.drop k).any p = false := by
 rw [List.drop_eq_nil_of_le h]; rfl
def mp {α β : Type} (f : α → β) (l : List α) (k : Nat) : List β := (l.take k).map f
theorem mp_zero {α β : Type} (f : α → β) (l : List α) : mp f l 0 = [] := rfl
theorem mp_nx {α β : Type} {f : α → β} {l : List α} {k : Nat} (h : k < l.length) : mp f l (k + 1) = mp f l k ++ [f l[k]] := by
 unfold mp; rw [List.take_succ_eq_append_getElem h, List.map_append]; rfl
theorem mp_end {α β : Type} {f : α → β} {l : List α} {k : Nat} (h : l.length ≤ k) : mp f l k = l.map f := by
 unfold mp; rw [List.take_of_length_le h]
theorem mp_len {α β : Type} (f : α → β) {l : List α} {k : Nat} (h : k ≤ l.length) : (mp f l k).length = k := by simp [mp, h]
attribute [simp] mp_zero mp_nx
def arI (a : List TArm) (s : ByteArray) : Int := idxP a fun x => decide (x.fConstructor = s)
theorem arI_cases (a : List TArm) (c : TConstructor) : (arI a c.fName = -1 ∧ c1 a c = false) ∨ ∃ j : Nat, ∃ h : j < a.length, arI a c.fName = (j : Int) ∧ c1 a c = decide (a[j].fVars.length = c.fFields.length) := by
 have key : ∀ (l : List TArm) (i : Nat), fs (byF TArm.fConstructor c.fName) i l = (l.findIdx? fun x => decide (x.fConstructor = c.fName)).bind fun j => (l[j]?).map fun x => (x, j + i) := by
  intro l
  induction l with
  | nil => intro i; rfl
  | cons x l ih =>
   intro i
   rw [fs, List.findIdx?_cons]
   unfold byF
   by_cases h : x.fConstructor = c.fName
   ·simp [h]
   ·simp only [h, if_false, decide_false, Bool.false_eq_true]
    rw [show (fun (i : Nat) (x : TArm) => if x.fConstructor = c.fName then some (x, i) else none) = byF TArm.fConstructor c.fName from rfl, ih (i + 1)]
    cases l.findIdx? fun x => decide (x.fConstructor = c.fName) with
    | none => rfl
    | some j => simp [Nat.add_assoc, Nat.add_comm 1 i]
 unfold arI idxP c1 byN
 rw [key a 0]
 cases h : a.findIdx? fun x => decide (x.fConstructor = c.fName) with
 | none => exact .inl ⟨rfl, rfl⟩
 | some j =>
  have hj := (List.findIdx?_eq_some_iff_getElem.1 h).1
  exact .inr ⟨j, hj, rfl, by simp [List.getElem?_eq_getElem hj]⟩
def kF (s : Nat) (i : Nat) (x : Nat) : Option Nat := if x = s then some i else none
def ixK (l : List Nat) (s : Nat) : Int := match fs (kF s) 0 l with
 | some i => (i : Int)
 | none => -1
theorem fs_kF (s : Nat) : ∀ (l : List Nat) (i : Nat), (fs (kF s) i l).isSome = hasK l s
 | [], _ => by simp [fs, hasK]
 | x :: l, i => by
  rw [fs]
  unfold kF
  by_cases h : x = s
  ·simp [h, hasK]
  ·simp only [h, if_false]
   rw [show (fun (i : Nat) (x : Nat) => if x = s then some i else none) = kF s from rfl, fs_kF s l (i + 1)]
   simp [hasK, Ne.symm h]
theorem ixK_has (l : List Nat) (s : Nat) : decide (ixK l s ≥ 0) = hasK l s := by
 rw [← fs_kF s l 0]
 unfold ixK
 cases fs (kF s) 0 l with
 | none => simp
 | some i => simp
theorem ixK_has2 (l : List Nat) (s : Nat) : decide (0 ≤ ixK l s) = hasK l s := ixK_has l s
def ipF {α : Type} (p : α → Bool) (i : Nat) (x : α) : Option Nat := if p x then some i else none
theorem fs_ipF {α : Type} (p : α → Bool) : ∀ (l : List α) (i : Nat), fs (ipF p) i l = (l.findIdx? p).map (· + i)
 | [], _ => rfl
 | x :: l, i => by
  rw [fs, List.findIdx?_cons]
  unfold ipF
  by_cases h : p x = true
  ·simp [h]
  ·simp only [h, if_false, Bool.false_eq_true]
   rw [show (fun (i : Nat) (x : α) => if p x = true then some i else none) = ipF p from rfl, fs_ipF p l (i + 1)]
   cases l.findIdx? p <;> simp <;> omega
theorem idxP_fs {α : Type} (l : List α) (p : α → Bool) : idxP l p = match fs (ipF p) 0 l with
 | some i => (i : Int)
 | none => -1 := by
 rw [fs_ipF]; unfold idxP
 cases l.findIdx? p <;> simp
theorem idxP_any2 {α : Type} (l : List α) (p : α → Bool) : decide (idxP l p ≥ 0) = l.any p := idxP_any l p
theorem ctR_da {w : TProgram} {s : ByteArray} (h : (ctR w s).2.2 = true) : (daR w (ctR w s).1.fName).2.2 = true := by
 unfold ctR at h ⊢
 cases hq : fs (ctH s) 0 w.fPackages with
 | none => rw [hq] at h; simp [getR] at h
 | some x =>
  obtain ⟨p, hp, j, h1⟩ := fs_mem hq
  obtain ⟨d, hd, k, h2⟩ := fs_mem h1
  obtain ⟨c, hc, q, h3⟩ := fs_mem h2
  unfold ctF at h3
  split at h3
  ·cases h3
   simp only [getR]
   unfold daR
   cases hz : inP TPackage.fDataTypes TDataType.fName w d.fName with
   | some y => rfl
   | none =>
    exfalso
    have key : ∀ (l : List TPackage) (i : Nat), fs (inF TPackage.fDataTypes TDataType.fName d.fName) i l = none → ∀ p ∈ l, ∀ d' ∈ p.fDataTypes, ¬ d'.fName = d.fName := by
     intro l
     induction l with
     | nil => intro _ _ p hp; simp at hp
     | cons x l ih =>
      intro i hn p hp d' hd'
      rw [fs] at hn
      cases hx : inF TPackage.fDataTypes TDataType.fName d.fName i x with
      | some y => rw [hx] at hn; simp at hn
      | none =>
       rw [hx] at hn
       rcases List.mem_cons.1 hp with rfl | hp
       ·unfold inF at hx
        have key2 : ∀ (m : List TDataType) (j : Nat), fs (nmF TDataType.fName d.fName i) j m = none → ∀ e ∈ m, ¬ e.fName = d.fName := by
         intro m
         induction m with
         | nil => intro _ _ e he; simp at he
         | cons y m ih2 =>
          intro j hm e he
          rw [fs] at hm
          cases hy : nmF TDataType.fName d.fName i j y with
          | some z => rw [hy] at hm; simp at hm
          | none =>
           rw [hy] at hm
           rcases List.mem_cons.1 he with rfl | he
           ·unfold nmF at hy; split at hy
            ·cases hy
            ·assumption
           ·exact ih2 _ hm e he
        exact key2 _ _ hx d' hd'
       ·exact ih _ hn p hp d' hd'
    exact key _ _ hz p hp d hd rfl
  ·cases h3
theorem ctR_cl (w : TProgram) (s : ByteArray) : (ctR w s).1.fConstructors.length ≤ w.sz := by
 have h1 := ctR_sz w s; have h2 := (ctR w s).1.sz_eq; unfold szs at h2; omega
/-- captured variables that are closed -/
class VwC (l : List AV) : Prop where
 ok : AV.vws l = l
 up : AV.ups l = l
 cl : ∀ L, AV.cls L l
instance VwC_n : VwC [] := ⟨rfl, rfl, fun _ => by simp [AV.cls]⟩
instance VwC_e (x : DD) (l : List AV) [h : VwC l] : VwC (.el x :: l) := ⟨by simp only [AV.vws, AV.vw, h.ok], by simp only [AV.ups, AV.up, h.up], fun L => by simp only [AV.cls, AV.cl]; exact ⟨trivial, h.cl L⟩⟩
instance VwC_f (g : Nat) (c l : List AV) [k : VwC c] [h : VwC l] : VwC (.fn g c :: l) := ⟨by simp only [AV.vws, AV.vw, h.ok, k.ok], by simp only [AV.ups, AV.up, h.up, k.up], fun L => by simp only [AV.cls, AV.cl]; exact ⟨k.cl L, h.cl L⟩⟩
theorem VwC.all {l : List AV} (h : VwC l) : AV.vws l = l ∧ AV.ups l = l ∧ ∀ L, AV.cls L l := ⟨h.ok, h.up, h.cl⟩

theorem wz_tm {S : St} (g : Nat → AV) (h : ∀ t, g t = S.tm t ∨ g t = .un) : Wz S ⟨S.n, g, S.hp⟩ := fun w F Θ own a hR => by
 classical
 let own' : Who → List Nat := fun x => match x with
  | .t t => if g t = S.tm t then own (.t t) else []
  | y => own y
 have sub : ∀ x b, b ∈ own' x → b ∈ own x := fun x b hb => by
  cases x with
  | t t => simp only [own'] at hb; split at hb; exact hb; simp at hb
  | h lv q => exact hb
  | l lv q => exact hb
 refine ⟨F, Θ, own', ⟨hR.n, hR.df, fun t => ?_, hR.hn, hR.hs, fun x => ?_, fun x y hxy b hx hy => hR.dj x y hxy b (sub x b hx) (sub y b hy), fun x b hb => hR.lt x b (sub x b hb), hR.top, hR.gl⟩, ⟨Ks.refl _ _ _, fun x b hb => .inl ⟨x, sub x b hb⟩, fun _ _ => rfl⟩⟩
 ·show rv w F Θ (g t) _ _
  by_cases e : g t = S.tm t
  ·have : own' (.t t) = own (.t t) := if_pos e
   rw [this, e]; exact hR.tm t
  ·have : own' (.t t) = [] := if_neg e
   rw [this, (h t).resolve_left e]
   simp only [rv]
 ·cases x with
  | t t => show (if _ then _ else _ : List Nat).Nodup; split; exact hR.nd _; exact List.nodup_nil
  | h lv q => exact hR.nd _
  | l lv q => exact hR.nd _
/-- the temporaries from lo to d are forgotten -/
def clrR (lo d : Nat) (f : Nat → AV) : Nat → AV := fun t => bif Nat.ble lo t && Nat.ble t d then .un else f t
theorem clrR_lt {lo d t : Nat} {f : Nat → AV} (h : t < lo) : clrR lo d f t = f t := by
 have : Nat.ble lo t = false := by
  cases e : Nat.ble lo t with
  | false => rfl
  | true => have := Nat.le_of_ble_eq_true e; omega
 simp [clrR, this]
theorem clrR_gt {lo d t : Nat} {f : Nat → AV} (h : d < t) : clrR lo d f t = f t := by
 have : Nat.ble t d = false := by
  cases e : Nat.ble t d with
  | false => rfl
  | true => have := Nat.le_of_ble_eq_true e; omega
 simp [clrR, this]
theorem clrR_in {lo d t : Nat} {f : Nat → AV} (h : lo ≤ t) (k : t ≤ d) : clrR lo d f t = .un := by
 simp [clrR, Nat.ble_eq_true_of_le h, Nat.ble_eq_true_of_le k]
theorem clrR_upd {lo d k : Nat} {f : Nat → AV} {v : AV} (h1 : lo ≤ k) (h2 : k ≤ d) : clrR lo d (upd f k v) = clrR lo d f := by
 funext t
 by_cases e : t = k
 ·subst e; rw [clrR_in h1 h2, clrR_in h1 h2]
 ·have : (t == k) = false := beq_eq_false_iff_ne.2 e
  simp only [clrR, upd, this, cond_false]
theorem clrR_clr {lo d a b : Nat} {f : Nat → AV} (h1 : lo ≤ a) (h2 : b ≤ d) : clrR lo d (clrR a b f) = clrR lo d f := by
 funext t
 rcases Nat.lt_or_ge t a with e | e
 ·simp only [clrR.eq_def lo, clrR_lt e]
 ·rcases Nat.lt_or_ge b t with e2 | e2
  ·simp only [clrR.eq_def lo, clrR_gt e2]
  ·rw [clrR_in (by omega) (by omega), clrR_in (by omega) (by omega)]
/-- the end of a way: what the test's value is -/
structure PJ (S : St) (lo d : Nat) (X : Bool) (S' : St) : Prop where
 x : S'.tm d = .d (.lf (.bool X))
 tm : clrR lo d S'.tm = clrR lo d S.tm
 n : S'.n = S.n
 hp : S'.hp = S.hp
structure PXs (P : Bool → Bool → Prop) : Prop where
 ex : ∃ X Y, P X Y
theorem PXs.of {P : Bool → Bool → Prop} {X Y : Bool} (h : P X Y) : PXs P := ⟨X, Y, h⟩
def isPk (k : Nat) (o : Oper) : Bool := match o.op with
 | .pick (.tmp t) _ _ => Nat.beq t k
 | _ => false
/-- the operations up to the one that takes the value that hangs on k, and the others -/
def pkn (k : Nat) : List Oper → Option (List Oper × List Oper × Option Nat)
 | [] => none
 | o :: l => bif isPk k o then some ([o], l, o.dst) else match pkn k l with
  | some (a, b, d) => some (o :: a, b, d)
  | none => none
theorem pkn_eq {k : Nat} : ∀ {l a b : List Oper} {d : Option Nat}, pkn k l = some (a, b, d) → l = a ++ b
 | [], _, _, _, h => by simp [pkn] at h
 | o :: l, a, b, d, h => by
  unfold pkn at h
  cases hp : isPk k o with
  | true => rw [hp] at h; simp at h; obtain ⟨rfl, rfl, -⟩ := h; rfl
  | false =>
   rw [hp] at h
   simp only [cond_false] at h
   cases hq : pkn k l with
   | none => rw [hq] at h; cases h
   | some x =>
    obtain ⟨a', b', d'⟩ := x
    rw [hq] at h
    simp only [Option.some.injEq, Prod.mk.injEq] at h
    obtain ⟨rfl, rfl, -⟩ := h
    rw [pkn_eq hq]; rfl
theorem upd_same {S : St} {k : Nat} {b : Bool} (h : S.tm k = .d (.lf (.bool b))) : (⟨S.n, upd S.tm k (.d (.lf (.bool b))), S.hp⟩ : St) = S := by
 have : upd S.tm k (.d (.lf (.bool b))) = S.tm := by
  funext t
  by_cases ht : t = k
  ·subst ht; rw [upd_self, h]
  ·rw [upd_ne _ _ ht]
 rw [this]
structure JB (p q r : Prop) : Prop where
 t : p
 f : q
 k : r
structure JK (p : Prop) : Prop where
 k : p
/-- one way: to its end -/
structure JW (q : Prop) (p : Prop) : Prop where
 w : q → p
theorem XP {c : Cx} {ops : Array Oper} {o : Oper} {l : List Oper} {S : St} {K : St → Prop} {D : List (Option Nat)} (hD : ops.toList.map (·.dst) = D) {j k lo d : Nat} {b q : Bool} {S1 S2 : St} {l1 l2 : List Oper} (hg : o.guard = some (j, b)) (hj : D[j]? = some (some k)) (hq : S.tm k = .d (.lf (.bool q))) (hs : pkn k (o :: l) = some (l1, l2, some d)) (hl : o.dst = some lo)
  (h : PXs fun X Y => JB (JW (q = true) (∀ (l3 : List Oper), (∀ S', PJ S1 lo d X S' → WL c ops l3 S' K) → WL c ops (l1 ++ l3) S1 K)) (JW (q = false) (∀ (l3 : List Oper), (∀ S', PJ S2 lo d Y S' → WL c ops l3 S' K) → WL c ops (l1 ++ l3) S2 K)) (JK (∀ T, (⟨S.n, upd (clrR lo d S.tm) d (.d (.lf (.bool (bif q then X else Y)))), S.hp⟩ : St) = T → WL c ops l2 T K)))
  (e1 : (⟨S.n, upd S.tm k (.d (.lf (.bool true))), S.hp⟩ : St) = S1 := by first | (simp [H]; rfl) | rfl) (e2 : (⟨S.n, upd S.tm k (.d (.lf (.bool false))), S.hp⟩ : St) = S2 := by first | (simp [H]; rfl) | rfl) : WL c ops (o :: l) S K := by
 obtain ⟨X, Y, h⟩ := h.ex
 rw [pkn_eq hs]
 have key : ∀ (Z : Bool) (S' : St), Z = (bif q then X else Y) → PJ S lo d Z S' → WL c ops l2 S' K := fun Z S' hz hp => by
  have z : Wz S' ⟨S'.n, upd (clrR lo d S.tm) d (.d (.lf (.bool (bif q then X else Y)))), S'.hp⟩ := wz_tm _ fun t => by
   by_cases e : t = d
   ·subst e; rw [upd_self, ← hz]; exact .inl hp.x.symm
   ·rw [upd_ne _ _ e]
    rw [← hp.tm]
    unfold clrR
    cases (Nat.ble lo t && Nat.ble t d) with
    | true => exact .inr rfl
    | false => exact .inl rfl
  rw [hp.n, hp.hp] at z
  exact WL.ahead z (h.k.k _ rfl)
 cases q with
 | true =>
  rw [upd_same hq] at e1; subst e1
  exact h.t.w rfl l2 fun S' hp => key X S' rfl hp
 | false =>
  rw [upd_same hq] at e2; subst e2
  exact h.f.w rfl l2 fun S' hp => key Y S' rfl hp
attribute [simp] clrR_lt clrR_gt clrR_in
end Go.Proofs.YtdooklofebdknaaGreat
