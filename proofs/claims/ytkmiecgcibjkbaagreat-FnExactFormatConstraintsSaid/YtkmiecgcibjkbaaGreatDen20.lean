/- Den20: keeping what is still looked at; loops up to what is kept. No condition. -/
import Derived.Test.YtkmiecgcibjkbaaGreatDen19
namespace Go.Proofs.YtkmiecgcibjkbaaGreat
open Go.RowKit
set_option linter.unusedVariables false
set_option linter.unusedSimpArgs false
def tls (S : St) (ts : List Nat) : List (Nat × AV) := ts.map fun t => (t, S.tm t)
def hls (f : Nat → Option AV) : List Nat → List (Nat × AV)
  | [] => []
  | k :: ks => match f k with
    | some v => (k, v) :: hls f ks
    | none => hls f ks
theorem hls_get (f : Nat → Option AV) : ∀ (ks : List Nat) (p : Nat × AV), p ∈ hls f ks → f p.1 = some p.2
  | [], p, h => by simp [hls] at h
  | k :: ks, p, h => by
    unfold hls at h
    split at h
    · rcases List.mem_cons.1 h with rfl | h
      · assumption
      · exact hls_get f ks p h
    · exact hls_get f ks p h
def hd (S : St) : Nat → Option AV := S.hp.headD fun _ => none
def kept (S : St) (ts ks : List Nat) : St := ⟨S.n, tl (tls S ts), al (hls (hd S) ks) :: S.hp.tail⟩
def keepOk (S : St) (ts ks : List Nat) : Prop := S.hp ≠ [] ∧ (∀ p ∈ tls S ts, p.2.cl (hls (hd S) ks)) ∧ ∀ p ∈ hls (hd S) ks, p.2.cl (hls (hd S) ks)
theorem wk_kept {S : St} {h : HP} (ts ks : List Nat) (hh : S.hp.tail = upH h) (hk : keepOk S ts ks) : Wk S (kept S ts ks) := by
  have e : S.hp = hd S :: upH h := by
    rw [← hh]
    unfold hd
    cases hs : S.hp with
    | nil => exact absurd hs hk.1
    | cons f r => rfl
  have := wk_prune (S := S) (tls S ts) (hls (hd S) ks) e (fun p hp => by
    refine ⟨?_, hk.2.1 p hp⟩
    obtain ⟨t, -, rfl⟩ := List.mem_map.1 hp
    rfl) (fun p hp => ⟨hls_get _ ks p hp, hk.2.2 p hp⟩)
  unfold kept
  rw [hh]
  exact this
theorem W.keep {c : Cx} {code : Code} {S T : St} {Q : Exit → St → Prop} {h : HP} (ts ks : List Nat) (hh : S.hp.tail = upH h) (hk : keepOk S ts ks) (e : kept S ts ks = T) (k : W c code T Q) : W c code S Q := by
  subst e; exact W.weak (wk_kept ts ks hh hk) k
theorem Wz.keep {S T : St} {h : HP} (ts ks : List Nat) (hh : S.hp.tail = upH h) (hk : keepOk S ts ks) (e : kept S ts ks = T) : Wz S T := by
  subst e; exact Wz.of (wk_kept ts ks hh hk)
theorem Wz.refl (S : St) : Wz S S := fun w F Θ own _ hR => ⟨F, Θ, own, hR, Stp.refl _ _ _ _⟩
theorem W.loopz {c : Cx} {x : Code} {Q : Exit → St → Prop} {S : St} (A : Nat → St) (n : Nat) (h0 : Wz S (A 0)) (h : ∀ k, k ≤ n → W c x (A k) (thenQ (fun S' => k < n ∧ Wz S' (A (k + 1))) Q)) : W c (.loop x) S Q := by
  refine W.ahead h0 (W.loop A n fun k hk => W.after (h k hk) fun e S1 q => ?_)
  cases e with
  | normal => exact ⟨_, q.2, q.1, rfl⟩
  | exit id => exact ⟨S1, Wz.refl S1, q⟩
  | goto l => exact ⟨S1, Wz.refl S1, q⟩
  | ret => exact ⟨S1, Wz.refl S1, q⟩
  | panic ch => exact ⟨S1, Wz.refl S1, q⟩
  | outgrown => exact ⟨S1, Wz.refl S1, q⟩
def dI (n : Int) : DD := .lf (.int .i64 n)
def dS (s : ByteArray) : DD := .lf (.string s)
def dB (b : Bool) : DD := .lf (.bool b)
theorem vws_map {α : Type} {f g : α → DD} (h : ∀ x, (f x).vw = g x) (l : List α) : DD.vws (l.map f) = l.map g := by
  rw [DD.vws_eq, List.map_map]; exact List.map_congr_left fun x _ => h x
theorem shs_map {α : Type} {f : α → DD} {s : Sh} (h : ∀ x, (f x).sh = s) (l : List α) : DD.shs (l.map f) = List.replicate l.length s := by
  rw [DD.shs_eq, List.map_map]
  induction l with
  | nil => rfl
  | cons x l ih => rw [List.map_cons, List.length_cons, List.replicate_succ, ih]; exact congrArg (· :: _) (h x)
theorem vws_dI (l : List Int) : DD.vws (l.map dI) = l.map dI := vws_map (fun _ => rfl) l
theorem vws_dS (l : List ByteArray) : DD.vws (l.map dS) = l.map dS := vws_map (fun _ => rfl) l
theorem vws_dB (l : List Bool) : DD.vws (l.map dB) = l.map dB := vws_map (fun _ => rfl) l
theorem shs_dI (l : List Int) : DD.shs (l.map dI) = List.replicate l.length .one := shs_map (s := .one) (fun _ => rfl) l
theorem shs_dS (l : List ByteArray) : DD.shs (l.map dS) = List.replicate l.length .one := shs_map (s := .one) (fun _ => rfl) l
theorem shs_dB (l : List Bool) : DD.shs (l.map dB) = List.replicate l.length .one := shs_map (s := .one) (fun _ => rfl) l
theorem getD_map_lt {α : Type} {f : α → DD} {l : List α} {k : Nat} (hk : k < l.length) : (l.map f).getD k default = f l[k] := by
  simp [List.getD_eq_getElem?_getD, hk]
attribute [simp] okP cls okO nx nxP val evT tkT putF clrs tmO upd hps hpg tl al mkl AV.up AV.vw DD.vw DD.vws AV.csh DD.sh DD.shs getP setP rdA wrA ldX mvB offP Sh.ws Sh.w fldD argA gvn okIx tls hls hd kept keepOk AV.cl AV.cls inK binL DD.vws_vws DD.shs_vw vws_dI vws_dS vws_dB shs_dI shs_dS shs_dB dI dS dB
end Go.Proofs.YtkmiecgcibjkbaaGreat
