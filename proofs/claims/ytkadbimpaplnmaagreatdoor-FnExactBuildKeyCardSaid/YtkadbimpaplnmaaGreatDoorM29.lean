/- Walks by the Den rules; The shelf's layings of strings.Builder at this dump; spec.Join: texts joined by a text; impl.AllDistinct: a set of texts that the call makes. No condition but sizes. -/
import Derived.Test.YtkadbimpaplnmaaGreatDoorM16
import Derived.Test.YtkadbimpaplnmaaGreatDoorM20
import Derived.Test.YtkadbimpaplnmaaGreatDoorM21
import Derived.Test.YtkadbimpaplnmaaGreatDoorM28
import Derived.Carry
import Derived.MapKept
import Derived.Shelf.Strings.BuilderK
namespace Go.Proofs.YtkadbimpaplnmaaGreatDoor
open Go.RowKit Go.Shelf Go.MapKept
set_option maxRecDepth 100000
set_option linter.unusedSimpArgs false
set_option maxHeartbeats 4000000
def txD (x : TSExpr) : DD := .lf (.string (eText x))
theorem txD_eq (x : TSExpr) : txD x = .lf (.string (eText x)) := rfl
attribute [simp] txD_eq
theorem txD_map (l : List TSExpr) : l.map txD = (l.map eText).map dS := by rw [List.map_map]; rfl
def fmtE (x : TSExpr) : ByteArray := if eValid x = true then eText x else ⟨#[]⟩
def bldRen : Ren := ⟨fun | 166 => 117 | 167 => 118 | 169 => 67 | 240 => 177 | 276 => 232 | n => n, fun | 0 => 0 | 3 => 3 | 4 => 4 | 5 => 5 | 9 => 9 | 20 => 20 | 37 => 58 | 72 => 113 | 70 => 111 | 75 => 179 | 127 => 183 | 164 => 286 | 80 => 115 | n => n, fun | n => n⟩
theorem bldLays166 : Go.Proofs.Lays.n166 Tryz.prog bldRen := {
 mixed := by kernel_rfl
 f166 := Tryz.func117.trans (congrArg some (by kernel_rfl))
 f240 := Tryz.func177.trans (congrArg some (by kernel_rfl))
 f276 := Tryz.func232.trans (congrArg some (by kernel_rfl))
 t0 := Tryz.underlying0
 a0 := Tryz.isAgg0
 z0 := Tryz.sizeOf0
 v0 := Tryz.zeroValue0
 t3 := Tryz.underlying3
 a3 := Tryz.isAgg3
 z3 := Tryz.sizeOf3
 v3 := Tryz.zeroValue3
 t4 := Tryz.underlying4
 a4 := Tryz.isAgg4
 z4 := Tryz.sizeOf4
 v4 := Tryz.zeroValue4
 t9 := Tryz.underlying9
 a9 := Tryz.isAgg9
 z9 := Tryz.sizeOf9
 v9 := Tryz.zeroValue9
 t20 := Tryz.underlying20
 a20 := Tryz.isAgg20
 z20 := Tryz.sizeOf20
 v20 := Tryz.zeroValue20
 t37 := Tryz.underlying58
 a37 := Tryz.isAgg58
 z37 := Tryz.sizeOf58
 v37 := Tryz.zeroValue58
 t70 := Tryz.underlying111
 a70 := Tryz.isAgg111
 z70 := Tryz.sizeOf111
 v70 := Tryz.zeroValue111
 t72 := Tryz.underlying113
 a72 := Tryz.isAgg113
 z72 := Tryz.sizeOf113
 v72 := Tryz.zeroValue113
 t75 := Tryz.underlying179
 a75 := Tryz.isAgg179
 z75 := Tryz.sizeOf179
 v75 := Tryz.zeroValue179
 t164 := Tryz.underlying286
 a164 := Tryz.isAgg286
 z164 := Tryz.sizeOf286
 v164 := Tryz.zeroValue286 }
theorem bldLays167 : Go.Proofs.Lays.n167 Tryz.prog bldRen := {
 mixed := by kernel_rfl
 f167 := Tryz.func118.trans (congrArg some (by kernel_rfl))
 f240 := Tryz.func177.trans (congrArg some (by kernel_rfl))
 f276 := Tryz.func232.trans (congrArg some (by kernel_rfl))
 t0 := Tryz.underlying0
 a0 := Tryz.isAgg0
 z0 := Tryz.sizeOf0
 v0 := Tryz.zeroValue0
 t4 := Tryz.underlying4
 a4 := Tryz.isAgg4
 z4 := Tryz.sizeOf4
 v4 := Tryz.zeroValue4
 t5 := Tryz.underlying5
 a5 := Tryz.isAgg5
 z5 := Tryz.sizeOf5
 v5 := Tryz.zeroValue5
 t9 := Tryz.underlying9
 a9 := Tryz.isAgg9
 z9 := Tryz.sizeOf9
 v9 := Tryz.zeroValue9
 t20 := Tryz.underlying20
 a20 := Tryz.isAgg20
 z20 := Tryz.sizeOf20
 v20 := Tryz.zeroValue20
 t37 := Tryz.underlying58
 a37 := Tryz.isAgg58
 z37 := Tryz.sizeOf58
 v37 := Tryz.zeroValue58
 t70 := Tryz.underlying111
 a70 := Tryz.isAgg111
 z70 := Tryz.sizeOf111
 v70 := Tryz.zeroValue111
 t72 := Tryz.underlying113
 a72 := Tryz.isAgg113
 z72 := Tryz.sizeOf113
 v72 := Tryz.zeroValue113
 t75 := Tryz.underlying179
 a75 := Tryz.isAgg179
 z75 := Tryz.sizeOf179
 v75 := Tryz.zeroValue179
 t164 := Tryz.underlying286
 a164 := Tryz.isAgg286
 z164 := Tryz.sizeOf286
 v164 := Tryz.zeroValue286 }
theorem bldLays169 : Go.Proofs.Lays.n169 Tryz.prog bldRen := {
 mixed := by kernel_rfl
 f169 := Tryz.func67.trans (congrArg some (by kernel_rfl))
 t0 := Tryz.underlying0
 a0 := Tryz.isAgg0
 z0 := Tryz.sizeOf0
 v0 := Tryz.zeroValue0
 t3 := Tryz.underlying3
 a3 := Tryz.isAgg3
 z3 := Tryz.sizeOf3
 v3 := Tryz.zeroValue3
 t9 := Tryz.underlying9
 a9 := Tryz.isAgg9
 z9 := Tryz.sizeOf9
 v9 := Tryz.zeroValue9
 t37 := Tryz.underlying58
 a37 := Tryz.isAgg58
 z37 := Tryz.sizeOf58
 v37 := Tryz.zeroValue58
 t70 := Tryz.underlying111
 a70 := Tryz.isAgg111
 z70 := Tryz.sizeOf111
 v70 := Tryz.zeroValue111
 t72 := Tryz.underlying113
 a72 := Tryz.isAgg113
 z72 := Tryz.sizeOf113
 v72 := Tryz.zeroValue113
 t127 := Tryz.underlying183
 a127 := Tryz.isAgg183
 z127 := Tryz.sizeOf183
 v127 := Tryz.zeroValue183 }
theorem bldExtra : Builder.Extra Tryz.prog bldRen := {
 sizeBuilder := by kernel_rfl
 liesBuilder := by kernel_rfl
 t5 := Tryz.underlying5
 a5 := Tryz.isAgg5
 z5 := Tryz.sizeOf5
 v5 := Tryz.zeroValue5
 infoByte := by kernel_rfl
 cellsByte := by kernel_rfl
 sizeByte := by kernel_rfl
 neB5 := by decide }
theorem rp_strs {w : World} {F : Nat → Nat} (hF : ∀ b, w.heap.size ≤ b → F b = 0) {l : List ByteArray} {cs : List Value} (h : rp w F (.sl false .one (l.map dS)) cs []) :
  ∃ a cap, cs = [.slice a l.length cap] ∧ ∀ k (hk : k < l.length), ∃ b off, a = some ⟨b, off, none⟩ ∧ b < w.heap.size ∧ w.cell? ⟨b, off + k, none⟩ = some (.string l[k]) := by
 simp only [rp] at h
 obtain ⟨hs, hp, a, cap, h1, h2, h3, h4, h5⟩ := h
 refine ⟨a, cap, by simpa using h1, fun k hk => ?_⟩
 rcases h5 with ⟨-, h5, -⟩ | ⟨b, off, r, ha, he, hf, h6⟩
 ·have : l = [] := by simpa using h5
  subst this; simp at hk
 ·obtain ⟨c, bk, g1, g2, -⟩ := rpE.get (l.map dS) off r hs he k (dS l[k]) (by simp [List.getElem?_eq_getElem hk])
  refine ⟨b, off, ha, ?_, ?_⟩
  ·rcases Nat.lt_or_ge b w.heap.size with q | q
   ·exact q
   ·have := hF b q
    simp [Sh.w] at hf; omega
  ·have e : dS l[k] = .lf (.string l[k]) := rfl
   rw [e] at g2
   simp only [rp] at g2
   rw [g2.1] at g1
   have := g1 0 (.string l[k]) rfl
   simpa [Sh.w] using this
theorem str_cells (a b : ByteArray) : Lib.strCells (a ++ b) = Lib.strCells a ++ Lib.strCells b := by
 unfold Lib.strCells
 rw [ByteArray.data_append, Array.toList_append, List.map_append]
set_option maxHeartbeats 1000000 in
theorem join_w (l : List ByteArray) (b : ByteArray) (hl : l.length ≤ 134217728) (hb : b.size ≤ 16) (hs : szL ByteArray.size l ≤ 1073741824) (w : World) (a : Option Addr) (cap : Nat)
  (hE : ∀ k (hk : k < l.length), ∃ g off, a = some ⟨g, off, none⟩ ∧ g < w.heap.size ∧ w.cell? ⟨g, off + k, none⟩ = some (.string l[k])) :
  Calls Tryz.prog 95 #[.slice a l.length cap, .string b] w fun e w' => e = .returned (.string (joinS b l)) ∧ Below w.heap.size w w' := by
 obtain ⟨i0, hi, hz0, hz1, hz2⟩ := info_parts bldExtra.infoByte
 have hJ : ∀ k, k ≤ l.length → (joinK b l k).size ≤ 3221225472 := fun k hk => by
  have h1 := joinK_size b l k hk
  have h2 := szL_take ByteArray.size l k
  have h3 : k * b.size ≤ 134217728 * 16 := Nat.mul_le_mul (by omega) hb
  omega
 go_enter Tryz.func95, Tryz.ntmps95
 go_wp2
 have Hj : Hid (∀ k, k ≤ l.length → (joinK b l k).size ≤ 3221225472) := hJ
 clear hJ
 go_loopw [5, 6] (fun o i wr => ∃ (k : Nat), k ≤ l.length ∧ i = .int .i64 k ∧ wr.ownsRow w.heap.size 5 1 o (joinK b l k).size (Lib.strCells (joinK b l k)) ∧ Below w.heap.size w wr) (fun _ i _ => l.length - (intOf i).toNat)
 case atStart => exact ⟨0, Nat.zero_le _, rfl, World.ownsRow_made w #[] 0 (Nat.le_refl _) (by decide) rfl, (Below.refl _ _).alloc (Nat.le_refl _) _⟩
 case round =>
  obtain ⟨k, hk, rfl, ho, hB⟩ := hrel
  by_cases h1 : k < l.length
  ·obtain ⟨g, off, rfl, hg, hc⟩ := hE k h1
   have hc2 : wr.cell? ⟨g, off + k, none⟩ = some (.string l[k]) := by rw [(bcell hB).1 g _ hg]; exact hc
   have j1 := Hj.out k hk
   have j2 := Hj.out (k + 1) h1
   have e2 : joinK b l (k + 1) = joinK b l k ++ (if 0 < k then b else ⟨#[]⟩) ++ l[k] := by simp only [joinK]; simp [List.getD_eq_getElem?_getD, List.getElem?_eq_getElem h1]
   by_cases h0 : 0 < k
   ·rw [if_pos h0] at e2
    have e3 : (joinK b l (k + 1)).size = (joinK b l k).size + b.size + l[k].size := by rw [e2]; simp only [ByteArray.size_append]
    rw [e3] at j2
    go_wp2_with (at_builtin; refine Lib.wpList_append_own_string _ rfl _ _ 58 9 rfl w.heap.size 5 i0 Tryz.underlying58 Tryz.underlying9 hi hz0 hz1 hz2 _ _ _ rfl ho b rfl (by unfold maxLen; omega) (by omega) hB.size ?_)
    intro v1 w1 ho1 hg1 _
    have hB1 := hB.grown hg1 hB.size (fun k hk => (ho.lt k hk).1)
    have hc3 : w1.cell? ⟨g, off + k, none⟩ = some (.string l[k]) := by rw [(bcell hB1).1 g _ hg]; exact hc
    go_wp2_with (at_builtin; refine Lib.wpList_append_own_string _ rfl _ _ 58 9 rfl w.heap.size 5 i0 Tryz.underlying58 Tryz.underlying9 hi hz0 hz1 hz2 _ _ _ rfl ho1 l[k] rfl (by unfold maxLen; omega) (by omega) hB1.size ?_)
    intro v2 w2 ho2 hg2 _
    have hB2 := hB1.grown hg2 hB1.size (fun k hk => (ho1.lt k hk).1)
    have ho3 : w2.ownsRow w.heap.size 5 1 v2 (joinK b l (k + 1)).size (Lib.strCells (joinK b l (k + 1))) := by rw [e3, e2]; simpa [str_cells] using ho2
    go_wp2
    go_roundw
    case rel => exact ⟨k + 1, h1, by go_num, ho3, hB2⟩
    case measure => simp [intOf]; omega
   ·rw [if_neg h0] at e2
    have e3 : (joinK b l (k + 1)).size = (joinK b l k).size + l[k].size := by rw [e2]; simp only [ByteArray.size_append]; simp
    rw [e3] at j2
    go_wp2_with (at_builtin; refine Lib.wpList_append_own_string _ rfl _ _ 58 9 rfl w.heap.size 5 i0 Tryz.underlying58 Tryz.underlying9 hi hz0 hz1 hz2 _ _ _ rfl ho l[k] rfl (by unfold maxLen; omega) (by omega) hB.size ?_)
    intro v1 w1 ho1 hg1 _
    have hB1 := hB.grown hg1 hB.size (fun k hk => (ho.lt k hk).1)
    have e4 : joinK b l (k + 1) = joinK b l k ++ l[k] := by rw [e2]; congr 1; exact ByteArray.append_empty
    have ho3 : w1.ownsRow w.heap.size 5 1 v1 (joinK b l (k + 1)).size (Lib.strCells (joinK b l (k + 1))) := by rw [e3, e4]; simpa [str_cells] using ho1
    go_wp2
    go_roundw
    case rel => exact ⟨k + 1, h1, by go_num, ho3, hB1⟩
    case measure => simp [intOf]; omega
  ·obtain rfl : k = l.length := by omega
   have hcv : ∀ (W : World), W = wr → (convert 58 9 u5).run Tryz.prog W = .ok (.string (joinS b l)) W := by
    intro W hW
    subst hW
    have hlen : (joinK b l l.length).size = (joinK b l l.length).data.toList.length := by rw [Array.length_toList]; rfl
    rcases ho.2 with ⟨rfl, h0⟩ | ⟨g, cp, cur, rfl, -⟩
    ·rw [run_convert_bytes_string W 58 9 5 none 0 0 Tryz.underlying58 Tryz.underlying5 Tryz.underlying9]
     have : joinS b l = ⟨#[]⟩ := by
      unfold joinS
      cases q : joinK b l l.length with
      | mk d => rw [q] at h0; have : d.size = 0 := h0; rw [Array.eq_empty_of_size_eq_zero this]
     rw [this]
     rfl
    ·have hc := ho.cells (g := g) rfl
     have := run_convert_bytes_back (P := Tryz.prog) W 58 9 5 ⟨g, 0, none⟩ cp (joinK b l l.length).data.toList Tryz.underlying58 Tryz.underlying5 Tryz.underlying9 (fun j hj => hc j _ (by
      unfold Lib.strCells
      rw [List.getElem?_map, List.getElem?_eq_getElem hj]; rfl))
     rw [hlen, this]
     unfold joinS
     rw [Array.toArray_toList]
   go_wp2
   go_ret
   exact ⟨rfl, hB⟩
theorem Join_d (l : List ByteArray) (b : ByteArray) (hl : l.length ≤ 134217728) (hb : b.size ≤ 16) (hs : szL ByteArray.size l ≤ 1073741824) (h : HP) : CS cx.P 95 [.d (.sl false .one (l.map dS)), .d (.lf (.string b))] h (.d (.lf (.string (joinS b l)))) h := by
 refine CS.ofVal (c := cx) (args := [.sl false .one (l.map dS), .lf (.string b)]) (v := .string (joinS b l)) (fun w F => ⟨?_, rfl⟩) (fun w vs ⟨F, hF, _, hn, hv⟩ => ?_) h
 ·have h1 := joinS_size b l
  have h3 : l.length * b.size ≤ 134217728 * 16 := Nat.mul_le_mul hl hb
  simp only [rp, okLeaf]
  exact ⟨trivial, by unfold maxLen; omega, trivial⟩
 ·obtain ⟨c0, h0, e0⟩ := hv 0 _ rfl
  obtain ⟨c1, h1, e1⟩ := hv 1 _ rfl
  have ev : (DD.sl false .one (l.map dS)).vw = .sl false .one (l.map dS) := by simp only [DD.vw, DD.vws_eq, List.map_map]; rfl
  rw [ev] at h0
  simp only [DD.vw, rp] at h1
  obtain ⟨rfl, -⟩ := h1
  obtain ⟨a, cap, rfl, hE⟩ := rp_strs hF h0
  match vs, hn, e0, e1 with
  | [u, v], _, e0, e1 =>
   simp [DD.mk] at e0 e1
   subst e0; subst e1
   exact join_w l b hl hb hs w a cap hE
/-- block B is a map of just these keys, each with 'true' -/
def SetOf (w : World) (B : Nat) (ks : List ByteArray) : Prop := ∃ es clock, w.heap[B]? = some (.map es clock) ∧ es.toList.map (fun e => (e.key, e.val)) = ks.map (fun s => (Value.string s, Value.bool true))
theorem find_set (s : ByteArray) : ∀ (es : List MapEntry) (ks : List ByteArray) (i : Nat), es.map (fun e => (e.key, e.val)) = ks.map (fun s => (Value.string s, Value.bool true)) →
  (hasS ks s = true → ∃ j, Instr.findNow .string (.string s) es i = some (some (j, .bool true))) ∧ (hasS ks s = false → Instr.findNow .string (.string s) es i = some none)
 | [], [], i, _ => ⟨fun h => by simp [hasS] at h, fun _ => rfl⟩
 | [], _ :: _, _, h => by simp at h
 | _ :: _, [], _, h => by simp at h
 | e :: es, k :: ks, i, h => by
  simp only [List.map_cons, List.cons.injEq, Prod.mk.injEq] at h
  obtain ⟨⟨h1, h2⟩, h3⟩ := h
  have ih := find_set s es ks (i + 1) h3
  have e0 : Instr.findNow .string (.string s) (e :: es) i = if s = k then some (some (i, .bool true)) else Instr.findNow .string (.string s) es (i + 1) := by
   show (match Instr.sameNow .string (.string s) e.key with
    | some true => some (some (i, e.val))
    | some false => Instr.findNow .string (.string s) es (i + 1)
    | none => none) = _
   rw [h1, h2]
   by_cases q : s = k
   ·have : Instr.sameNow .string (.string s) (.string k) = some true := by show some (s == k) = _; rw [(Go.MapKept.bytes_beq s k).2 q]
    rw [this, if_pos q]
   ·have : Instr.sameNow .string (.string s) (.string k) = some false := by show some (s == k) = _; congr 1; cases hb : s == k with
     | false => rfl
     | true => exact absurd ((Go.MapKept.bytes_beq s k).1 hb) q
    rw [this, if_neg q]
  rw [e0]
  have e1 : hasS (k :: ks) s = (decide (k = s) || hasS ks s) := rfl
  rw [e1]
  by_cases q : s = k
  ·simp [q]
  ·have q2 : ¬ k = s := fun e => q e.symm
   simp only [if_neg q, decide_eq_false q2, Bool.false_or]
   exact ih
theorem run_has {P : Program} {w : World} {B : Nat} {ks : List ByteArray} (h : SetOf w B ks) {T k e : TypeId} (hT : P.underlying T = some (.map k e)) (hk : P.underlying k = some .string) (hz : ∀ w, (zeroValue e).run P w = .ok (.bool false) w) (s : ByteArray) :
  (Instr.lookup T (.map (some B)) (.string s) false).run P w = .ok (.bool (hasS ks s)) w := by
 obtain ⟨es, clock, hb, he⟩ := h
 obtain ⟨f1, f2⟩ := find_set s es.toList ks 0 he
 unfold Instr.lookup
 simp only [Sem.run_bind, run_underlying hT, Result.andThen_ok, Go.MapKept.run_getObj_map hb, Sem.run_pure]
 have hc : ∀ b, (Instr.checkKey b 10000 k (.string s)).run P w = .ok () w := fun b => by
  unfold Instr.checkKey
  simp [run_underlying hk]
 simp only [hc, Result.andThen_ok, Instr.findKey, Sem.run_bind, run_underlying hk]
 cases hs : hasS ks s with
 | true => obtain ⟨j, e⟩ := f1 hs; simp [e]
 | false => simp [f2 hs, hz]
theorem run_put {P : Program} {w : World} {B : Nat} {ks : List ByteArray} (h : SetOf w B ks) {T k e : TypeId} (hT : P.underlying T = some (.map k e)) (hk : P.underlying k = some .string) (s : ByteArray) (hs : hasS ks s = false) :
  ∃ w', (Instr.mapUpdate T (.map (some B)) (.string s) (.bool true)).run P w = .ok () w' ∧ SetOf w' B (ks ++ [s]) ∧ Below B w w' := by
 obtain ⟨es, clock, hb, he⟩ := h
 obtain ⟨-, f2⟩ := find_set s es.toList ks 0 he
 have hc : (Instr.checkKey false 10000 k (.string s)).run P w = .ok () w := by
  unfold Instr.checkKey
  simp [run_underlying hk]
 have hlt : B < w.heap.size := (Array.getElem?_eq_some_iff.1 hb).1
 refine ⟨{ w with heap := w.heap.setIfInBounds B (.map (es.push ⟨.string s, .bool true, clock⟩) (clock + 1)) }, ?_, ⟨es.push ⟨.string s, .bool true, clock⟩, clock + 1, ?_, ?_⟩, ⟨rfl, rfl, rfl, by simp, fun b hB => ?_⟩⟩
 ·unfold Instr.mapUpdate
  simp only [Sem.run_bind, run_underlying hT, Result.andThen_ok, Go.MapKept.run_getObj_map hb, hc, Instr.findKey, run_underlying hk, f2 hs, Sem.run_pure]
  exact Go.MapKept.run_setObj_map _ hb
 ·simp [hlt]
 ·rw [Array.toList_push, List.map_append, List.map_append, he]; rfl
 ·have : B ≠ b := by omega
  simp [this]
theorem SetOf.new (w : World) : SetOf (w.alloc (.map #[] 0)) w.heap.size [] := ⟨#[], 0, heap_alloc_new w _, rfl⟩
set_option maxHeartbeats 1000000 in
theorem allDist_w (l : List ByteArray) (hl : l.length ≤ 134217728) (w : World) (a : Option Addr) (cap : Nat)
  (hE : ∀ k (hk : k < l.length), ∃ g off, a = some ⟨g, off, none⟩ ∧ g < w.heap.size ∧ w.cell? ⟨g, off + k, none⟩ = some (.string l[k])) :
  Calls Tryz.prog 157 #[.slice a l.length cap] w fun e w' => e = .returned (.bool (dst l)) ∧ Below w.heap.size w w' := by
 go_enter Tryz.func157, Tryz.ntmps157
 go_wp2
 rw [run_makeMap]
 go_wp2
 have H0 : Hid (∀ j, j < 0 → dstAt l j = true) := by intro j hj; omega
 go_loopw [9] (fun i wr => ∃ (k : Nat), k ≤ l.length ∧ i = .int .i64 k ∧ SetOf wr w.heap.size (l.take k) ∧ Hid (∀ j, j < k → dstAt l j = true) ∧ Below w.heap.size w wr) (fun i _ => l.length - (intOf i).toNat)
 case atStart => exact ⟨0, Nat.zero_le _, rfl, SetOf.new w, H0, (Below.refl _ _).alloc (Nat.le_refl _) _⟩
 case round =>
  clear H0
  obtain ⟨k, hk, rfl, hset, Hd, hB⟩ := hrel
  by_cases h1 : k < l.length
  ·obtain ⟨g, off, rfl, hg, hc⟩ := hE k h1
   have hc2 : wr.cell? ⟨g, off + k, none⟩ = some (.string l[k]) := by rw [(bcell hB).1 g _ hg]; exact hc
   have hz : ∀ w, (zeroValue 4).run Tryz.prog w = .ok (.bool false) w := fun w => by first | exact Tryz.zeroValue4 w | rfl
   cases hh : hasS (l.take k) l[k] with
   | true =>
    go_wp2
    rw [run_has hset (T := 276) (k := 9) (e := 4) (by kernel_rfl) (by kernel_rfl) hz, hh]
    go_wp2
    go_ret
    exact ⟨by rw [dst_no h1 hh]; rfl, hB⟩
   | false =>
    have hd2 : dstAt l k = true := by rw [dstAt_eq h1, hh]; rfl
    obtain ⟨w1, m1, m2, m3⟩ := run_put (P := Tryz.prog) hset (T := 276) (k := 9) (e := 4) (by kernel_rfl) (by kernel_rfl) l[k] hh
    have e1 : l.take k ++ [l[k]] = l.take (k + 1) := (List.take_succ_eq_append_getElem h1).symm
    rw [e1] at m2
    go_wp2
    rw [run_has hset (T := 276) (k := 9) (e := 4) (by kernel_rfl) (by kernel_rfl) hz, hh]
    go_wp2
    go_roundw
    case rel => exact ⟨k + 1, h1, by go_num, m2, step_all Hd.out hd2, hB.trans m3⟩
    case measure => simp [intOf]; omega
  ·obtain rfl : k = l.length := by omega
   go_wp2
   go_ret
   exact ⟨by rw [dst_yes Hd.out]; rfl, hB⟩
theorem iDst_d (l : List ByteArray) (hl : l.length ≤ 134217728) (h : HP) : CS cx.P 157 [.d (.sl false .one (l.map dS))] h (.d (.lf (.bool (dst l)))) h := by
 refine CS.ofVal (c := cx) (args := [.sl false .one (l.map dS)]) (v := .bool (dst l)) (fun w F => ⟨?_, rfl⟩) (fun w vs ⟨F, hF, _, hn, hv⟩ => ?_) h
 ·simp only [rp, okLeaf]
  exact ⟨trivial, trivial, trivial⟩
 ·obtain ⟨c0, h0, e0⟩ := hv 0 _ rfl
  have ev : (DD.sl false .one (l.map dS)).vw = .sl false .one (l.map dS) := by simp only [DD.vw, DD.vws_eq, List.map_map]; rfl
  rw [ev] at h0
  obtain ⟨a, cap, rfl, hE⟩ := rp_strs hF h0
  match vs, hn, e0 with
  | [u], _, e0 =>
   simp [DD.mk] at e0
   subst e0
   exact allDist_w l hl w a cap hE
theorem namesClo_d (s : ByteArray) (hs : s.size ≤ 134217728) (h : HP) : CS cx.P 159 [.d (.lf (.string s))] h (.d (.lf (.bool (!isNm s)))) h := by
 refine Ze Tryz.func159 rfl 6 ?_
 apply Zr; intros
 refine Zo ?_; simp
 exact Zx
 apply Zr; intros
 refine Zo ?_; simp
 refine Zl [] rfl Tryz.func101 (iName_d s hs _) ?_; simp
 iterate 2 (refine Zo ?_; simp)
 exact Zx
 refine W.ret (Zq ?_)
 simp [Tryz.f159]
theorem areNames_d (l : List ByteArray) (hs : ∀ s ∈ l, s.size ≤ 134217728) (hm : l.length ≤ 134217728) (h : HP) : CS cx.P 102 [.d (.sl false .one (l.map dS))] h (.d (.lf (.bool (dst l && nms l)))) h := by
 refine Ze Tryz.func102 rfl 10 ?_
 apply Zr; intros
 refine Zo ?_; simp
 exact Zx
 refine W.seq ?_
 refine W.regJ0 (D := _) rfl fun _ K hD hK => ?_
 refine Zo ?_; simp
 refine Zl [] rfl Tryz.func157 (iDst_d l hm _) ?_; simp
 refine Zo ?_; simp
 refine WL.split 5 _ rfl (fun g5 => ?_) fun g5 => ?_ <;> try simp at g5
 simp
 refine Zg hD rfl rfl ?_; simp
 refine Zk hD rfl rfl [] rfl Tryz.func158 (ContainsFuncStr_d l (by omega) 159 Tryz.f159 _ ⟨Tryz.func159, rfl, rfl⟩ (fun s => !isNm s) (fun y hy h => namesClo_d y (hs y hy) h) _) ?_; simp
 refine Zg hD rfl rfl ?_; simp
 iterate 2 (refine Zo ?_; simp)
 refine WL.nil (hK _ ?_)
 refine W.ret (Zq ?_)
 simp [Tryz.f102, nms, g5]
 simp
 iterate 3 (refine Zn hD rfl rfl ?_; simp)
 iterate 2 (refine Zo ?_; simp)
 refine WL.nil (hK _ ?_)
 refine W.ret (Zq ?_)
 simp [Tryz.f102, nms, g5]
theorem amongClo_d (all : List ByteArray) (hm : all.length ≤ 4294967296) (s : ByteArray) (lv k : Nat) (h : HP) (hcap : hpg h lv k = some (.d (.sl false .one (all.map dS)))) : CS cx.P 222 [.d (.lf (.string s)), .pt lv k []] h (.d (.lf (.bool (!hasS all s)))) h := by
 have hc2 := hpgD hcap
 refine Ze Tryz.func222 rfl 8 ?_
 apply Zr; intros
 refine Zo ?_ (by simp [hc2] <;> omega); simp [hc2]
 exact Zx
 apply Zr; intros
 iterate 2 (refine Zo ?_ (by simp [hc2] <;> omega); simp [hc2])
 refine Zl [] rfl Tryz.func214 (Contains_d all s hm _) ?_ (by simp [hc2]); simp [hc2]
 iterate 2 (refine Zo ?_ (by simp [hc2] <;> omega); simp [hc2])
 exact Zx
 refine W.ret (Zq ?_)
 simp [Tryz.f222]
theorem areAmong_d (l all : List ByteArray) (hl : l.length ≤ 1073741824) (hm : all.length ≤ 4294967296) (h : HP) : CS cx.P 166 [.d (.sl false .one (l.map dS)), .d (.sl false .one (all.map dS))] h (.d (.lf (.bool (sub l all)))) h := by
 refine Ze Tryz.func166 rfl 9 ?_
 apply Zr; intros
 iterate 2 (refine Zo ?_; simp)
 exact Zx
 apply Zr; intros
 iterate 2 (refine Zo ?_; simp)
 refine Zl [] rfl Tryz.func158 (ContainsFuncStrC_d l hl 222 Tryz.f222 _ ⟨Tryz.func222, rfl, rfl⟩ (fun s => !hasS all s) 3 (.sl false .one (all.map dS)) 0 (fun y hy lv h hc => amongClo_d all hm y lv 3 h hc) _ (by simp)) ?_; simp
 iterate 2 (refine Zo ?_; simp)
 exact Zx
 refine W.ret (Zq ?_)
 simp [Tryz.f166, sub]
end Go.Proofs.YtkadbimpaplnmaaGreatDoor
