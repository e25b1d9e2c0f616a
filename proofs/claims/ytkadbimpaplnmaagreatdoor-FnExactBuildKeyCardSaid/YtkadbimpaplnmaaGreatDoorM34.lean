/- impl.FormatSExpr: a builder that is written; Walks by the Den rules. No condition but sizes. -/
import Derived.Test.YtkadbimpaplnmaaGreatDoorM16
import Derived.Test.YtkadbimpaplnmaaGreatDoorM27
import Derived.Test.YtkadbimpaplnmaaGreatDoorM33
namespace Go.Proofs.YtkadbimpaplnmaaGreatDoor
open Go.RowKit Go.Shelf
set_option maxRecDepth 100000
set_option linter.unusedSimpArgs false
set_option maxHeartbeats 4000000
def Bld (B : Nat) (acc : List UInt8) (w : World) : Prop := Lib.IsBuilderF 113 5 B B (Lib.byteCells acc) w
theorem Bld.lt {B : Nat} {acc : List UInt8} {w : World} (h : Bld B acc w) : B < w.heap.size := by
 rcases h with ⟨_, v, h, _⟩ | ⟨_, v, h, _⟩ <;> exact (Array.getElem?_eq_some_iff.1 h).1
theorem atF_below {T e B b : Nat} {p : Value} {bs : List Value} {w w' : World} (h : Lib.BuilderAtF T e B b p bs w) (k : Below w.heap.size w w') : Lib.BuilderAtF T e B b p bs w' := by
 obtain ⟨hB, v, hb, ho, hn⟩ := h
 refine ⟨hB, v, (k.block b (Array.getElem?_eq_some_iff.1 hb).1).trans hb, ?_, hn⟩
 unfold World.ownsRowF at ho ⊢
 refine ⟨ho.1, ?_⟩
 rcases ho.2 with q | ⟨g, cap, cur, fz, q1, q2, q3, q4⟩
 ·exact .inl q
 ·exact .inr ⟨g, cap, cur, fz, q1, q2, (k.block g (Array.getElem?_eq_some_iff.1 q3).1).trans q3, q4⟩
theorem Bld.below {B : Nat} {acc : List UInt8} {w w' : World} (h : Bld B acc w) (k : Below w.heap.size w w') : Bld B acc w' := by
 rcases h with h | h
 ·exact .inl (atF_below h k)
 ·exact .inr (atF_below h k)
theorem wByte (B : Nat) (acc : List UInt8) (c : UInt8) (n : Int) (hn : n = c.toNat) (w : World) (h : Bld B acc w) (hl : acc.length ≤ 1099511627776) :
  Calls Tryz.prog 118 #[.pointer (some ⟨B, 0, none⟩), .int .u8 n] w fun e w' => e = .returned .nilIface ∧ Bld B (acc ++ [c]) w' ∧ Below B w w' ∧ Lib.OthersKept 5 (some B) w w' := by
 refine (Any.Builder_WriteByte_k (ρ := bldRen) bldLays167 bldExtra B B (Lib.byteCells acc) n w h (by rw [Lib.byteCells_length]; omega) (Nat.le_of_lt h.lt)).mono fun e w' ⟨h1, h2, h3, h4⟩ => ⟨h1, .inr ?_, h3, h4⟩
 have e : Lib.byteCells (acc ++ [c]) = Lib.byteCells acc ++ [.int .u8 n] := by unfold Lib.byteCells; rw [List.map_append, hn]; rfl
 rw [e]; exact h2
theorem wStr (B : Nat) (acc : List UInt8) (s : ByteArray) (w : World) (h : Bld B acc w) (hl : acc.length + s.size ≤ 1099511627776) :
  Calls Tryz.prog 117 #[.pointer (some ⟨B, 0, none⟩), .string s] w fun e w' => e = .returned (.tuple #[.int .i64 s.size, .nilIface]) ∧ Bld B (acc ++ s.data.toList) w' ∧ Below B w w' := by
 refine (Any.Builder_WriteString_k (ρ := bldRen) bldLays166 bldExtra B B (Lib.byteCells acc) s w h (by rw [Lib.byteCells_length]; omega) (Nat.le_of_lt h.lt)).mono fun e w' ⟨h1, h2, h3, _⟩ => ⟨h1, .inr ?_, h3⟩
 have e : Lib.byteCells (acc ++ s.data.toList) = Lib.byteCells acc ++ Lib.strCells s := by unfold Lib.byteCells; rw [List.map_append]; rfl
 rw [e]; exact h2
theorem bStr (B : Nat) (acc : List UInt8) (w : World) (h : Bld B acc w) :
  Calls Tryz.prog 67 #[.pointer (some ⟨B, 0, none⟩)] w fun e w' => e = .returned (.string ⟨acc.toArray⟩) ∧ Below B w w' :=
 (Any.Builder_String_any_k (ρ := bldRen) bldLays169 bldExtra B B acc w h (Nat.le_of_lt h.lt)).mono fun _ _ ⟨h1, _, h3, _⟩ => ⟨h1, h3⟩
theorem sx_row {w : World} {F : Nat → Nat} {B : Nat} (hF : ∀ b, B ≤ b → F b = 0) {x : TSExpr} {cs : List Value} (h : rp w F (x.dd false) cs []) :
  ∃ a cap, cs = [.string x.fAtom, .slice a x.fList.length cap] ∧ ∀ k (hk : k < x.fList.length), ∃ b off c, a = some ⟨b, off, none⟩ ∧ b < B ∧ Cells w b (off + k * 2) c ∧ rp w F (x.fList[k].dd false) c [] := by
 rw [TSExpr.dd_eq] at h
 simp only [rp, rpS] at h
 obtain ⟨c1, c2, b1, b2, rfl, hb, ⟨rfl, -, rfl⟩, c3, c4, b3, b4, rfl, hb2, ⟨hs, hp, a, cap, rfl, h2, h3, h4, h5⟩, rfl, rfl⟩ := h
 refine ⟨a, cap, by simp, fun k hk => ?_⟩
 have e3 : b3 = [] := by simp at hb hb2; rw [← hb2, ← hb]
 subst e3
 rcases h5 with ⟨-, h5, -⟩ | ⟨b, off, r, ha, he, hf, h6⟩
 ·have : x.fList = [] := by simpa using h5
  rw [this] at hk; simp at hk
 ·rcases h6 with ⟨-, -, rfl⟩ | ⟨q, -⟩
  ·obtain ⟨c, bk, g1, g2, g3⟩ := rpE.get (x.fList.map (TSExpr.dd false)) off [] hs he k (x.fList[k].dd false) (by simp [List.getElem?_eq_getElem hk])
   have : bk = [] := List.eq_nil_iff_forall_not_mem.2 fun y hy => by have := g3 y hy; simp at this
   subst this
   refine ⟨b, off, c, ha, ?_, g1, g2⟩
   rcases Nat.lt_or_ge b B with q | q
   ·exact q
   ·have := hF b q
    simp [Sh.w, Sh.ws] at hf; omega
  ·cases q
theorem rp_below {w w' : World} {F : Nat → Nat} {B : Nat} (hF : ∀ b, B ≤ b → F b = 0) (hB : Below B w w') {d : DD} {cs : List Value} (h : rp w F d cs []) : rp w' F d cs [] :=
 rp.keep d cs [] h ⟨fun b o ho => hB.cell (p := ⟨b, o, none⟩) (by
  rcases Nat.lt_or_ge b B with q | q
  ·exact q
  ·have := hF b q; omega), fun _ => Nat.le_refl _, fun b hb => by simp at hb⟩
def Wr (x : TSExpr) : Prop := ∀ (B : Nat) (acc : List UInt8) (w : World) (F : Nat → Nat) (cs : List Value), (∀ b, B ≤ b → F b = 0) → rp w F (x.dd false) cs [] → Bld B acc w → acc.length + (eText x).size ≤ 1000000000 →
 Calls Tryz.prog 66 #[.pointer (some ⟨B, 0, none⟩), .agg cs.toArray] w fun e w' => e = .returned (.tuple #[]) ∧ Bld B (acc ++ (eText x).data.toList) w' ∧ Below B w w'
theorem joinK_mono (b : ByteArray) (l : List ByteArray) (k : Nat) : ∀ m, k ≤ m → (joinK b l k).size ≤ (joinK b l m).size
 | 0, h => by
  have : k = 0 := by omega
  subst this; exact Nat.le_refl _
 | m + 1, h => by
  rcases Nat.eq_or_lt_of_le h with q | q
  ·subst q; exact Nat.le_refl _
  ·have := joinK_mono b l k m (by omega)
   simp only [joinK, ByteArray.size_append]; omega
theorem joinK_nx {l : List TSExpr} {k : Nat} (h : k < l.length) : joinK ⟨#[32]⟩ (l.map eText) (k + 1) = joinK ⟨#[32]⟩ (l.map eText) k ++ (if 0 < k then ⟨#[32]⟩ else ⟨#[]⟩) ++ eText l[k] := by
 simp only [joinK]
 congr 1
 simp [List.getD_eq_getElem?_getD, List.getElem?_eq_getElem h]
theorem dl_app (a b : ByteArray) : (a ++ b).data.toList = a.data.toList ++ b.data.toList := by rw [ByteArray.data_append, Array.toList_append]
theorem dl_len (a : ByteArray) : a.data.toList.length = a.size := by rw [Array.length_toList]; rfl
set_option maxHeartbeats 1000000 in
theorem write_a (x : TSExpr) (hz : x.sz ≤ 134217728) (hc : ∀ y ∈ x.fList, Wr y) : Wr x := by
 intro B acc w F cs hF h hb hl
 obtain ⟨a, cap, rfl, hE⟩ := sx_row hF h
 have hBw := hb.lt
 by_cases ha : x.fAtom.toList = []
 ·have hn := x.sz_eq
  unfold szs at hn
  have et := eText_list ha
  have hJ : Hid (∀ k, k ≤ x.fList.length → acc.length + 2 + (joinK ⟨#[32]⟩ (x.fList.map eText) k).size ≤ 1000000000) := fun k hk => by
   have h1 := joinK_mono ⟨#[32]⟩ (x.fList.map eText) k x.fList.length hk
   have h2 : joinS ⟨#[32]⟩ (x.fList.map eText) = joinK ⟨#[32]⟩ (x.fList.map eText) x.fList.length := by unfold joinS; rw [List.length_map]
   have e1 : (⟨#[40]⟩ : ByteArray).size = 1 := rfl
   have e2 : (⟨#[41]⟩ : ByteArray).size = 1 := rfl
   rw [et, h2] at hl
   simp only [ByteArray.size_append, e1, e2] at hl
   omega
  go_enter Tryz.func66, Tryz.ntmps66
  have hb1 : Bld B acc (w.alloc (.cells #[.string x.fAtom, .slice a x.fList.length cap] 61)) := hb.below ((Below.refl _ _).alloc (Nat.le_refl _) _)
  go_wp2_with (go_at_call 118; refine (wByte B acc 40 40 rfl _ hb1 (by omega)).mono ?_)
  rintro e w1 ⟨rfl, h1, h2, h3⟩
  have hk1 : w1.heap[w.heap.size]? = some (.cells #[.string x.fAtom, .slice a x.fList.length cap] 61 (0, 0)) := h3 _ _ (heap_alloc_new w _) (by simp; omega) (by simp)
  have hB1 : Below B w w1 := ((Below.refl B w).alloc (Nat.le_of_lt hBw) _).trans h2
  have c1 : w1.cell? ⟨w.heap.size, 1, none⟩ = some (.slice a x.fList.length cap) := by rw [Lib.cell_of_heap hk1]; rfl
  clear hk1 h2 h3 hb1 hb
  go_wp2
  go_loopw [18] (fun i wr => ∃ (k : Nat), k ≤ x.fList.length ∧ i = .int .i64 k ∧ Bld B (acc ++ [40] ++ (joinK ⟨#[32]⟩ (x.fList.map eText) k).data.toList) wr ∧ Below B w wr) (fun i _ => x.fList.length - (intOf i).toNat)
  case atStart => exact ⟨0, Nat.zero_le _, rfl, by simpa [joinK] using h1, hB1⟩
  case round =>
   clear h1 hB1 c1
   obtain ⟨k, hk, rfl, hb, hB⟩ := hrel
   have hBr := hb.lt
   by_cases hlt : k < x.fList.length
   ·obtain ⟨g, off, c, rfl, hg, hcl, hr⟩ := hE k hlt
    have hcy := hc x.fList[k] (List.getElem_mem hlt)
    obtain ⟨a2, cap2, rfl, -⟩ := sx_row hF hr
    have d0 : wr.cell? ⟨g, off + k * 2, none⟩ = some (.string x.fList[k].fAtom) := by rw [(bcell hB).1 g _ hg]; exact hcl 0 _ rfl
    have d1 : wr.cell? ⟨g, off + k * 2 + 1, none⟩ = some (.slice a2 x.fList[k].fList.length cap2) := by rw [(bcell hB).1 g _ hg]; exact hcl 1 _ rfl
    clear hE
    have hn := joinK_nx hlt
    have hj := hJ.out (k + 1) hlt
    have hb2 : Bld B (acc ++ [40] ++ (joinK ⟨#[32]⟩ (x.fList.map eText) k).data.toList) (wr.alloc (.cells #[.string x.fList[k].fAtom, .slice a2 x.fList[k].fList.length cap2] 61)) := hb.below ((Below.refl _ _).alloc (Nat.le_refl _) _)
    have hBa : Below B w (wr.alloc (.cells #[.string x.fList[k].fAtom, .slice a2 x.fList[k].fList.length cap2] 61)) := hB.alloc (Nat.le_of_lt hBr) _
    by_cases h0 : 0 < k
    ·have e1 : (⟨#[32]⟩ : ByteArray).size = 1 := rfl
     rw [if_pos h0] at hn
     have hn2 : (joinK ⟨#[32]⟩ (x.fList.map eText) (k + 1)).size = (joinK ⟨#[32]⟩ (x.fList.map eText) k).size + 1 + (eText x.fList[k]).size := by rw [hn]; simp only [ByteArray.size_append, e1]
     rw [hn2] at hj
     go_wp2_with (go_at_call 118; refine (wByte B _ 32 32 rfl _ hb2 (by simp only [List.length_append, dl_len, List.length_cons, List.length_nil]; omega)).mono ?_)
     rintro e w2 ⟨rfl, h1, h2, h3⟩
     have hk1 : w2.heap[wr.heap.size]? = some (.cells #[.string x.fList[k].fAtom, .slice a2 x.fList[k].fList.length cap2] 61 (0, 0)) := h3 _ _ (heap_alloc_new wr _) (by simp; omega) (by simp)
     have c0 : w2.cell? ⟨wr.heap.size, 0, none⟩ = some (.string x.fList[k].fAtom) := by rw [Lib.cell_of_heap hk1]; rfl
     have c1 : w2.cell? ⟨wr.heap.size, 1, none⟩ = some (.slice a2 x.fList[k].fList.length cap2) := by rw [Lib.cell_of_heap hk1]; rfl
     have hB2 := hBa.trans h2
     clear hk1 h2 h3 hb2 hb
     go_wp2_with (go_at_call 66; refine (hcy B _ _ F _ hF (rp_below hF hB2 hr) h1 (by simp only [List.length_append, dl_len, List.length_cons, List.length_nil]; omega)).mono ?_)
     rintro e w3 ⟨rfl, h4, h5⟩
     have h6 : Bld B (acc ++ [40] ++ (joinK ⟨#[32]⟩ (x.fList.map eText) (k + 1)).data.toList) w3 := by
      rw [hn, dl_app, dl_app]
      simpa using h4
     go_wp2
     go_roundw
     case rel => exact ⟨k + 1, hlt, by go_num, h6, hB2.trans h5⟩
     case measure => simp [intOf]; omega
    ·rw [if_neg h0] at hn
     have e1 : (⟨#[]⟩ : ByteArray).size = 0 := rfl
     have hn2 : (joinK ⟨#[32]⟩ (x.fList.map eText) (k + 1)).size = (joinK ⟨#[32]⟩ (x.fList.map eText) k).size + (eText x.fList[k]).size := by rw [hn]; simp only [ByteArray.size_append, e1]; omega
     rw [hn2] at hj
     go_wp2_with (go_at_call 66; refine (hcy B _ _ F _ hF (rp_below hF hBa hr) hb2 (by simp only [List.length_append, dl_len, List.length_cons, List.length_nil]; omega)).mono ?_)
     rintro e w3 ⟨rfl, h4, h5⟩
     have h6 : Bld B (acc ++ [40] ++ (joinK ⟨#[32]⟩ (x.fList.map eText) (k + 1)).data.toList) w3 := by
      rw [hn, dl_app, dl_app]
      simpa using h4
     go_wp2
     go_roundw
     case rel => exact ⟨k + 1, hlt, by go_num, h6, hBa.trans h5⟩
     case measure => simp [intOf]; omega
   ·obtain rfl : k = x.fList.length := by omega
    have hj := hJ.out x.fList.length (Nat.le_refl _)
    go_wp2_with (go_at_call 118; refine (wByte B _ 41 41 rfl _ hb (by simp only [List.length_append, dl_len, List.length_cons, List.length_nil]; omega)).mono ?_)
    rintro e w2 ⟨rfl, h1, h2, h3⟩
    have h6 : Bld B (acc ++ (eText x).data.toList) w2 := by
     rw [et, dl_app, dl_app]
     unfold joinS
     rw [List.length_map]
     simpa using h1
    go_wp2
    (try simp only [Exit.inBlock, Exit.then])
    refine bodyPost_end (results_none rfl _ _ _) rfl ?_
    exact ⟨rfl, h6, hB.trans h2⟩
 ·have hi : x.fAtom.toList.isEmpty = false := by simpa using ha
  rw [eText_atom ha] at hl ⊢
  go_enter Tryz.func66, Tryz.ntmps66
  have hb1 : Bld B acc (w.alloc (.cells #[.string x.fAtom, .slice a x.fList.length cap] 61)) := hb.below ((Below.refl _ _).alloc (Nat.le_refl _) _)
  go_wp2_with (go_at_call 117; refine (wStr B acc x.fAtom _ hb1 (by omega)).mono ?_)
  rintro e w' ⟨rfl, h1, h2⟩
  go_wp2
  (try simp only [Exit.inBlock, Exit.then])
  refine bodyPost_ret (results_none rfl _ _ _) rfl ?_
  exact ⟨rfl, h1, ((Below.refl _ _).alloc (Nat.le_of_lt hBw) _).trans h2⟩
theorem write_d (x : TSExpr) (hz : x.sz ≤ 134217728) : Wr x := write_a x hz fun y hy => write_d y (by have h1 := szL_le TSExpr.sz hy; have h2 := x.sz_eq; unfold szs at h2; omega)
termination_by SizeOf.sizeOf x
decreasing_by have := List.sizeOf_lt_of_mem hy; have := x.lt_fList; omega
theorem Gl.below {w w' : World} {F : Nat → Nat} (h : Gl w F) (hF : ∀ b, w.heap.size ≤ b → F b = 0) (k : Below w.heap.size w w') : Gl w' F := fun p hp => ⟨(h p hp).1, (k.cell (p := ⟨p.1, p.2.1, none⟩) (by
  rcases Nat.lt_or_ge p.1 w.heap.size with q | q
  ·exact q
  ·have := hF p.1 q; have := (h p hp).1; omega)).trans (h p hp).2⟩
theorem CS.out1 {c : Cx} {f : Nat} {d y : DD} (h : CS c.P f [.d d] [] (.d y) []) (w : World) (F : Nat → Nat) (hF : ∀ b, w.heap.size ≤ b → F b = 0) (hgl : Gl w F) (cs : List Value) (hd : rp w F d cs []) :
  Calls c.P f #[d.mk cs] w fun e w' => ∃ cs' bs F', e = .returned (y.mk cs') ∧ rp w' F' y cs' bs ∧ Below w.heap.size w w' := by
 have hR : Rel w F (fun _ _ => none) (fun _ => []) (entS [.d d] []) ⟨#[d.mk cs], []⟩ := by
  refine ⟨by simp [entS], rfl, fun t => ?_, fun lv k _ => ⟨rfl, rfl, rfl⟩, fun lv k cn hq => ?_, fun _ => List.nodup_nil, fun _ _ _ b hb => by simp at hb, fun _ b hb => by simp at hb, hF, hgl⟩
  ·cases t with
   | zero => simp only [entS, List.getD_cons_zero, rv]; exact ⟨cs, hd, rfl⟩
   | succ t => simp [entS, rv]
  ·cases lv <;> simp [entS, hpg] at hq
 refine (h w _ _ _ [d.mk cs] hR).mono fun e w' ⟨v, F', own', h1, h2, h3⟩ => ?_
 have h4 := h2.tm 0
 simp only [retS, if_true] at h4
 simp only [rv] at h4
 obtain ⟨cs', h5, h6⟩ := h4
 have h6' : v = y.mk cs' := by simpa using h6
 subst h6'
 exact ⟨cs', own' (.t 0), F', h1, h5, ⟨h3.ks.os, h3.ks.tape, h3.ks.output, h3.ks.size, fun b hb => (h3.ks.out b hb (by simp)).1⟩⟩
set_option maxHeartbeats 1000000 in
theorem fmtE_w (x : TSExpr) (hz : x.sz ≤ 134217728) (w : World) (F : Nat → Nat) (cs : List Value) (hF : ∀ b, w.heap.size ≤ b → F b = 0) (hgl : Gl w F) (h : rp w F (x.dd false) cs []) :
  Calls Tryz.prog 29 #[.agg cs.toArray] w fun e w' => e = .returned (.string (fmtE x)) ∧ Below w.heap.size w w' := by
 obtain ⟨a, cap, rfl, -⟩ := sx_row hF h
 have hB0 : Below w.heap.size w (w.alloc (.cells #[.string x.fAtom, .slice a x.fList.length cap] 61)) := (Below.refl _ _).alloc (Nat.le_refl _) _
 have hk0 := heap_alloc_new w (.cells #[.string x.fAtom, .slice a x.fList.length cap] 61)
 have hs0 : (w.alloc (.cells #[.string x.fAtom, .slice a x.fList.length cap] 61)).heap.size = w.heap.size + 1 := by simp
 have hv := CS.out1 (c := cx) (iValidE_d x hz []) (w.alloc (.cells #[.string x.fAtom, .slice a x.fList.length cap] 61)) F (fun b hb => hF b (by omega)) (hgl.below hF hB0) _ (rp_below hF hB0 h)
 have hmk : (x.dd false).mk [.string x.fAtom, .slice a x.fList.length cap] = .agg #[.string x.fAtom, .slice a x.fList.length cap] := by rw [TSExpr.dd_eq]; rfl
 rw [hmk] at hv
 go_enter Tryz.func29, Tryz.ntmps29
 go_wp2_with (go_at_call 62; refine hv.mono ?_)
 rintro e w1 ⟨cs', bs, F', rfl, h1, h2⟩
 simp only [rp] at h1
 obtain ⟨rfl, -, -⟩ := h1
 simp only [DD.mk, List.headD]
 rw [hs0] at h2
 have hB1 := hB0.trans (h2.mono (Nat.le_succ _))
 have hk1 := (h2.block w.heap.size (by omega)).trans hk0
 have c0 : w1.cell? ⟨w.heap.size, 0, none⟩ = some (.string x.fAtom) := by rw [Lib.cell_of_heap hk1]; rfl
 have c1 : w1.cell? ⟨w.heap.size, 1, none⟩ = some (.slice a x.fList.length cap) := by rw [Lib.cell_of_heap hk1]; rfl
 have hlt : w.heap.size < w1.heap.size := by have := h2.size; simp at this; omega
 clear hk1 hk0 hv h2 hB0
 cases hval : eValid x with
 | false =>
  go_wp2
  go_ret
  exact ⟨by unfold fmtE; rw [hval]; rfl, hB1⟩
 | true =>
  have hbld : Bld w1.heap.size [] (w1.alloc (.cells #[.pointer none, .slice none 0 0] 113)) := Lib.IsBuilderF.of (Lib.fresh_isBuilder _ _ w1)
  have hB2 : Below w1.heap.size w1 (w1.alloc (.cells #[.pointer none, .slice none 0 0] 113)) := (Below.refl _ _).alloc (Nat.le_refl _) _
  have hBw := hB1.trans (hB2.mono (Nat.le_of_lt hlt))
  have ht := eText_size x
  go_wp2_with (go_at_call 66; refine (write_d x hz w1.heap.size [] _ F _ (fun b hb => hF b (by omega)) (rp_below hF hBw h) hbld (by simp only [List.length_nil]; omega)).mono ?_)
  rintro e w2 ⟨rfl, h3, h4⟩
  go_wp2_with (go_at_call 67; refine (bStr w1.heap.size _ _ h3).mono ?_)
  rintro e w3 ⟨rfl, h5⟩
  go_wp2
  go_ret
  refine ⟨?_, hBw.trans ((h4.trans h5).mono (Nat.le_of_lt hlt))⟩
  unfold fmtE; rw [if_pos hval]; simp
theorem iFmtE_d (x : TSExpr) (hz : x.sz ≤ 134217728) (h : HP) : CS cx.P 29 [.d (x.dd false)] h (.d (.lf (.string (fmtE x)))) h := by
 refine CS.ofVal (c := cx) (args := [x.dd false]) (v := .string (fmtE x)) (fun w F => ⟨?_, rfl⟩) (fun w vs ⟨F, hF, hgl, hn, hv⟩ => ?_) h
 ·have h1 := eText_size x
  have h2 : (fmtE x).size ≤ (eText x).size := by unfold fmtE; split <;> simp
  simp only [rp, okLeaf]
  exact ⟨trivial, by unfold maxLen; omega, trivial⟩
 ·obtain ⟨c0, h0, e0⟩ := hv 0 _ rfl
  rw [x.vw_dd false] at h0
  match vs, hn, e0 with
  | [u], _, e0 =>
   simp [DD.mk] at e0
   rw [e0]
   exact fmtE_w x hz w F c0 hF hgl h0
def atE (s : ByteArray) : TSExpr := ⟨s, []⟩
theorem atE_eq (s : ByteArray) : atE s = ⟨s, []⟩ := rfl
attribute [simp] atE_eq
def eK {α : Type} (P : List TSExpr) (e : α → TSExpr) (l : List α) (k : Nat) : List TSExpr := P ++ (l.take k).map e
def eA {α : Type} (P : List TSExpr) (e : α → TSExpr) (l : List α) : List TSExpr := P ++ l.map e
theorem eK_zero {α : Type} (P : List TSExpr) (e : α → TSExpr) (l : List α) : eK P e l 0 = P := by simp [eK]
theorem eK_full {α : Type} (P : List TSExpr) (e : α → TSExpr) (l : List α) : eK P e l l.length = eA P e l := by simp [eK, eA]
theorem eK_snoc {α : Type} {P : List TSExpr} {e : α → TSExpr} {l : List α} {k : Nat} (h : k < l.length) : (eK P e l k).map (TSExpr.dd true) ++ [(e l[k]).dd true] = (eK P e l (k + 1)).map (TSExpr.dd true) := by
 unfold eK
 rw [List.take_succ_eq_append_getElem h]; simp only [List.map_append, List.map_cons, List.map_nil, List.append_assoc]
theorem eA_len {α : Type} (P : List TSExpr) (e : α → TSExpr) (l : List α) : (eA P e l).length = P.length + l.length := by unfold eA; simp
theorem eA_cons {α : Type} (x : TSExpr) (P : List TSExpr) (e : α → TSExpr) (l : List α) : eA (x :: P) e l = x :: eA P e l := rfl
theorem eK_cons {α : Type} (x : TSExpr) (P : List TSExpr) (e : α → TSExpr) (l : List α) (k : Nat) : eK (x :: P) e l k = x :: eK P e l k := rfl
theorem eK_length {α : Type} (P : List TSExpr) (e : α → TSExpr) (l : List α) (k : Nat) : (eK P e l k).length = P.length + min k l.length := by unfold eK; simp
attribute [simp] eA_cons eK_cons eK_length eA_len
def woE (l : List ByteArray) : TSExpr := ⟨⟨#[]⟩, eA [] atE l⟩
theorem woE_eq (l : List ByteArray) : woE l = ⟨⟨#[]⟩, eA [] atE l⟩ := rfl
attribute [simp] woE_eq
def emE : TSExpr := ⟨⟨#[]⟩, []⟩
theorem emE_eq : emE = ⟨⟨#[]⟩, []⟩ := rfl
attribute [simp] emE_eq
def ifE (ok : Bool) (x : TSExpr) : TSExpr := if (ok && eValid x) = true then x else emE
def hdE (k : Int) (t n : ByteArray) (y : TType) : List TSExpr :=
 if k = 4 then [⟨⟨#[99, 97, 108, 108]⟩, []⟩, ⟨n, []⟩] else if k = 5 then [⟨⟨#[109, 101, 116, 104, 111, 100]⟩, []⟩, ⟨t, []⟩, ⟨n, []⟩] else if k = 6 then [⟨⟨#[110, 101, 119]⟩, []⟩, ⟨n, []⟩] else if k = 8 then [⟨⟨#[108, 101, 116]⟩, []⟩, ⟨n, []⟩] else if k = 9 then [⟨⟨#[105, 102]⟩, []⟩]
 else if k = 10 then [⟨n, []⟩] else if k = 11 then [⟨⟨#[112, 97, 99, 107]⟩, []⟩, ⟨t, []⟩] else if k = 12 then [⟨⟨#[116, 104, 101]⟩, []⟩, encT y] else [⟨⟨#[99, 97, 115, 101]⟩, []⟩]
mutual
def encX : TExpr → TSExpr
 | ⟨k, t, n, i, y, al, rl⟩ => if k = 1 then ⟨itoaB i, []⟩ else if k = 2 then ⟨if i = 1 then ⟨#[116, 114, 117, 101]⟩ else ⟨#[102, 97, 108, 115, 101]⟩, []⟩ else if k = 3 then ⟨n, []⟩ else ⟨⟨#[]⟩, hdE k t n y ++ encXs al ++ encXr rl⟩
def encXs : List TExpr → List TSExpr
 | [] => []
 | x :: l => encX x :: encXs l
def encXa : TArm → TSExpr
 | ⟨c, vs, b⟩ => ⟨⟨#[]⟩, [⟨c, []⟩] ++ vs.map atE ++ [encX b]⟩
def encXr : List TArm → List TSExpr
 | [] => []
 | x :: l => encXa x :: encXr l
end
theorem encXs_eq : ∀ l : List TExpr, encXs l = l.map encX
 | [] => rfl
 | x :: l => by simp only [encXs, encXs_eq l, List.map_cons]
theorem encXr_eq : ∀ l : List TArm, encXr l = l.map encXa
 | [] => rfl
 | x :: l => by simp only [encXr, encXr_eq l, List.map_cons]
theorem encXa_eq (x : TArm) : encXa x = ⟨⟨#[]⟩, eA [⟨x.fConstructor, []⟩] atE x.fVars ++ [encX x.fBody]⟩ := by cases x; simp only [encXa, eA]
theorem encX_1 {x : TExpr} (h : x.fKind = 1) : encX x = ⟨itoaB x.fN, []⟩ := by cases x; simp only at h; subst h; simp only [encX]; rfl
theorem encX_2 {x : TExpr} (h : x.fKind = 2) : encX x = ⟨if x.fN = 1 then ⟨#[116, 114, 117, 101]⟩ else ⟨#[102, 97, 108, 115, 101]⟩, []⟩ := by cases x; simp only at h; subst h; simp only [encX]; rfl
theorem encX_3 {x : TExpr} (h : x.fKind = 3) : encX x = ⟨x.fName, []⟩ := by cases x; simp only at h; subst h; simp only [encX]; rfl
theorem encX_n {x : TExpr} (h1 : ¬ x.fKind = 1) (h2 : ¬ x.fKind = 2) (h3 : ¬ x.fKind = 3) : encX x = ⟨⟨#[]⟩, eA (eA (hdE x.fKind x.fTrait x.fName x.fType) encX x.fArgs) encXa x.fArms⟩ := by
 cases x; simp only at h1 h2 h3; simp only [encX, if_neg h1, if_neg h2, if_neg h3, encXs_eq, encXr_eq, eA]
theorem exF_arms {x : TExpr} (h : exF x = true) (h7 : ¬ x.fKind = 7) : x.fArms = [] := by
 rw [exF_eq] at h
 simp [exH, xf1, hasA] at h
 have := h.1.1.1.1.1.2
 cases hx : x.fArms with
 | nil => rfl
 | cons a l => rw [hx] at this; simp [h7] at this
theorem encX_m {x : TExpr} (hf : exF x = true) (h1 : ¬ x.fKind = 1) (h2 : ¬ x.fKind = 2) (h3 : ¬ x.fKind = 3) (h7 : ¬ x.fKind = 7) : encX x = ⟨⟨#[]⟩, eA (hdE x.fKind x.fTrait x.fName x.fType) encX x.fArgs⟩ := by
 rw [encX_n h1 h2 h3, exF_arms hf h7]; simp [eA]
theorem exF_kind {x : TExpr} (h : exF x = true) : 1 ≤ x.fKind ∧ x.fKind ≤ 12 := by
 rw [exF_eq] at h
 simp [exH, xf1, within] at h
 omega
theorem exF_n {x : TExpr} (h : exF x = true) : (x.fKind = 1 → -999999 ≤ x.fN ∧ x.fN ≤ 999999) ∧ (x.fKind = 2 → 0 ≤ x.fN ∧ x.fN ≤ 1) := by
 rw [exF_eq] at h
 simp [exH, xf4, within] at h
 have h4 := h.1.1.2
 constructor
 ·intro q; have := h4.1; simp [q] at this; exact this
 ·intro q; have := h4.2; simp [q] at this; exact this
theorem exF_ty {x : TExpr} (h : exF x = true) (h12 : x.fKind = 12) : tForm x.fType = true := by
 rw [exF_eq] at h
 simp [exH, xf3, hasY, h12] at h
 have := h.1.1.1.2.2
 unfold tValid at this
 simp at this
 exact this.1.1
theorem exF_args {x : TExpr} (h : exF x = true) : ∀ y ∈ x.fArgs, exF y = true := by
 rw [exF_eq] at h
 simp at h
 exact h.1.2
theorem exF_armsOk {x : TExpr} (h : exF x = true) : ∀ a ∈ x.fArms, exF a.fBody = true := fun a ha => by
 rw [exF_eq] at h
 simp at h
 have := h.2 a ha
 rw [exFa_eq] at this
 simp at this
 exact this.2
theorem l2Words_d (l : List ByteArray) (hm : l.length ≤ 134217728) (h : HP) : CS cx.P 83 [.d (.sl false .one (l.map dS))] h (.d (.sl true sh61 ((eA [] atE l).map (TSExpr.dd true)))) h := by
 refine Ze Tryz.func83 rfl 21 ?_
 apply Zr; intros
 refine Zo ?_; simp
 exact Zx
 apply Zr; intros
 iterate 2 (refine Zo ?_; simp)
 exact Zx
 refine W.seq ?_
 apply Zr; intros
 refine Zo ?_; simp
 exact Zx
 refine W.block ?_
 refine W.loopk [0] [] (fun k0 => [(4, .d (.lf (.int .i64 (k0 : Int)))), (3, .d (.sl true sh61 ((eK [] atE l k0).map (TSExpr.dd true))))]) (fun _ => []) l.length rfl (by simp [eK_zero]) fun k0 hk0 T hT => ?_
 simp at hT; subst hT
 refine W.seq ?_
 apply Zr; intros
 iterate 4 (refine Zo ?_; simp)
 exact Zx
 refine Zc rfl ?_ ?_ <;> intro hb0 <;> try simp at hb0
 have hx0 := ixNext hb0 (by omega)
 refine W.skip ?_
 refine Zb ?_
 apply Zs; intros
 refine Zm [12] ?_ (by simp [hb0, hx0] <;> omega); simp [hb0, hx0]
 iterate 4 (refine Zo ?_ (by simp [hb0, hx0] <;> omega); simp [hb0, hx0])
 refine Zl [] rfl Tryz.func38 (sAt_d l[k0] _) ?_ (by simp [hb0, hx0]); simp [hb0, hx0]
 iterate 3 (refine Zo ?_ (by simp [hb0, hx0] <;> omega); simp [hb0, hx0])
 exact Zx
 apply Zs; intros
 iterate 3 (refine Zo ?_ (by simp [hb0, hx0] <;> omega); simp [hb0, hx0])
 exact Zx
 refine ⟨hb0, Wz.to rfl rfl rfl ?_⟩
 have hs := eK_snoc (P := []) (e := atE) hb0
 simp at hs
 simp [hs]
 have hkl : k0 = l.length := by omega
 subst hkl
 simp only [eK_full]
 refine W.exit ?_
 apply Zr; intros
 refine Zm [20] ?_; simp
 refine Zo ?_; simp
 exact Zx
 refine W.ret (Zq ?_)
 simp [Tryz.f83]
theorem l14Words_d (l : List ByteArray) (hm : l.length ≤ 134217728) (h : HP) : CS cx.P 39 [.d (.sl false .one (l.map dS))] h (.d ((woE l).dd true)) h := by
 refine Ze Tryz.func39 rfl 6 ?_
 apply Zr; intros
 refine Zo ?_; simp
 exact Zx
 apply Zr; intros
 refine Zo ?_; simp
 refine Zl [] rfl Tryz.func83 (l2Words_d l hm _) ?_; simp
 iterate 2 (refine Zo ?_; simp)
 exact Zx
 refine W.ret (Zq ?_)
 simp [Tryz.f39]
theorem l14Types_d (l : List TType) (hm : l.length ≤ 134217728) (hs : ∀ y ∈ l, y.sz ≤ 134217728 ∧ tForm y = true) (h : HP) : CS cx.P 85 [.d (.sl false sh88 (l.map (TType.dd false)))] h (.d (.sl true sh61 ((eA [] encT l).map (TSExpr.dd true)))) h := by
 refine Ze Tryz.func85 rfl 21 ?_
 apply Zr; intros
 refine Zo ?_; simp
 exact Zx
 apply Zr; intros
 iterate 2 (refine Zo ?_; simp)
 exact Zx
 refine W.seq ?_
 apply Zr; intros
 refine Zo ?_; simp
 exact Zx
 refine W.block ?_
 refine W.loopk [0] [] (fun k0 => [(4, .d (.lf (.int .i64 (k0 : Int)))), (3, .d (.sl true sh61 ((eK [] encT l k0).map (TSExpr.dd true))))]) (fun _ => []) l.length rfl (by simp [eK_zero]) fun k0 hk0 T hT => ?_
 simp at hT; subst hT
 refine W.seq ?_
 apply Zr; intros
 iterate 4 (refine Zo ?_; simp)
 exact Zx
 refine Zc rfl ?_ ?_ <;> intro hb0 <;> try simp at hb0
 have hx0 := ixNext hb0 (by omega)
 refine W.skip ?_
 refine Zb ?_
 apply Zs; intros
 refine Zm [12] ?_ (by simp [hb0, hx0] <;> omega); simp [hb0, hx0]
 iterate 4 (refine Zo ?_ (by simp [hb0, hx0] <;> omega); simp [hb0, hx0])
 refine Zl [] rfl Tryz.func86 (l5Sx_d l[k0] (hs _ (gm hb0)).1 (hs _ (gm hb0)).2 _) ?_ (by simp [hb0, hx0]); simp [hb0, hx0]
 iterate 3 (refine Zo ?_ (by simp [hb0, hx0] <;> omega); simp [hb0, hx0])
 exact Zx
 apply Zs; intros
 iterate 3 (refine Zo ?_ (by simp [hb0, hx0] <;> omega); simp [hb0, hx0])
 exact Zx
 refine ⟨hb0, Wz.to rfl rfl rfl ?_⟩
 have hs := eK_snoc (P := []) (e := encT) hb0
 simp at hs
 simp [hs]
 have hkl : k0 = l.length := by omega
 subst hkl
 simp only [eK_full]
 refine W.exit ?_
 apply Zr; intros
 refine Zm [20] ?_; simp
 refine Zo ?_; simp
 exact Zx
 refine W.ret (Zq ?_)
 simp [Tryz.f85]
theorem l14If_d (ok : Bool) (x : TSExpr) (hz : x.sz ≤ 134217728) (h : HP) : CS cx.P 44 [.d (.lf (.bool (ok))), .d (x.dd true)] h (.d ((ifE ok x).dd true)) h := by
 refine Ze Tryz.func44 rfl 14 ?_
 apply Zr; intros
 iterate 2 (refine Zo ?_; simp)
 exact Zx
 refine W.seq ?_
 refine W.seq ?_
 refine W.regJ (D := _) [3, 4] [3, 4] [(11, .d (.lf (.bool (!(ok && eValid x)))))] [] rfl (fun _ K hD hK => ?_) fun T hT => ?_
 iterate 3 (refine Zo ?_; simp)
 refine WL.split 7 _ rfl (fun g7 => ?_) fun g7 => ?_ <;> try simp at g7
 simp
 iterate 3 (refine Zn hD rfl rfl ?_; simp)
 refine Zo ?_; simp
 refine WL.nil (hK _ (Wz.to rfl rfl rfl ?_))
 simp [g7]
 simp
 refine Zg hD rfl rfl ?_; simp
 refine Zk hD rfl rfl [] rfl Tryz.func45 (sValidE_d x hz _) ?_; simp
 refine Zg hD rfl rfl ?_; simp
 refine Zo ?_; simp
 refine WL.nil (hK _ (Wz.to rfl rfl rfl ?_))
 simp [g7]
 simp at hT; subst hT
 refine Zc rfl ?_ ?_ <;> intro hb0 <;> try simp at hb0
 have hres : ifE ok x = emE := by unfold ifE; exact if_neg (by rcases hb0 with q | q <;> simp [q])
 apply Zr; intros
 iterate 2 (refine Zo ?_; simp)
 exact Zx
 refine W.ret (Zq ?_)
 simp [Tryz.f44, hres]
 have hres : ifE ok x = x := by unfold ifE; exact if_pos (by simpa using hb0)
 refine W.skip ?_
 apply Zr; intros
 refine Zm [13] ?_; simp
 refine Zo ?_; simp
 exact Zx
 refine W.ret (Zq ?_)
 simp [Tryz.f44, hres]
def bdE (b : TBound) : TSExpr := ⟨⟨#[]⟩, [⟨b.fTrait, []⟩, encT b.fType]⟩
theorem bdE_eq (b : TBound) : bdE b = ⟨⟨#[]⟩, [⟨b.fTrait, []⟩, encT b.fType]⟩ := rfl
attribute [simp] bdE_eq
theorem l14Where_d (l : List TBound) (hm : l.length ≤ 134217728) (hs : ∀ y ∈ l, y.sz ≤ 134217728 ∧ tForm y.fType = true) (h : HP) : CS cx.P 90 [.d (.sl false sh206 (l.map (TBound.dd false)))] h (.d ((⟨⟨#[]⟩, (eA [] bdE l)⟩ : TSExpr).dd true)) h := by
 refine Ze Tryz.func90 rfl 32 ?_
 apply Zr; intros
 refine Zo ?_; simp
 exact Zx
 apply Zr; intros
 iterate 3 (refine Zo ?_; simp)
 exact Zx
 refine W.seq ?_
 apply Zr; intros
 refine Zo ?_; simp
 exact Zx
 refine W.block ?_
 refine W.loopk [0, 2, 3] [2] (fun k0 => [(4, .d (.lf (.int .i64 (k0 : Int))))]) (fun k0 => [(3, .d (.st [.lf (.string ⟨#[]⟩), .sl true sh61 ((eK [] bdE l k0).map (TSExpr.dd true))]))]) l.length rfl (by simp [eK_zero]) fun k0 hk0 T hT => ?_
 simp at hT; subst hT
 refine W.seq ?_
 apply Zr; intros
 iterate 4 (refine Zo ?_; simp)
 exact Zx
 refine Zc rfl ?_ ?_ <;> intro hb0 <;> try simp at hb0
 have hx0 := ixNext hb0 (by omega)
 have hy := hs _ (gm hb0)
 have hy2 := l[k0].sz_eq
 refine W.skip ?_
 refine Zb ?_
 apply W.regSD rfl; intro K hK
 refine Yo ?_ (by simp [hb0, hx0] <;> omega); simp [hb0, hx0]
 refine Ym [13] ?_ (by simp [hb0, hx0] <;> omega); simp [hb0, hx0]
 iterate 5 (refine Yo ?_ (by simp [hb0, hx0] <;> omega); simp [hb0, hx0])
 refine Yl [] rfl Tryz.func38 (sAt_d l[k0].fTrait) ?_ (by simp [hb0, hx0]); simp [hb0, hx0]
 iterate 5 (refine Yo ?_ (by simp [hb0, hx0] <;> omega); simp [hb0, hx0])
 refine Yl [] rfl Tryz.func86 (l5Sx_d l[k0].fType (by omega) hy.2) ?_ (by simp [hb0, hx0]); simp [hb0, hx0]
 refine Yo ?_ (by simp [hb0, hx0] <;> omega); simp [hb0, hx0]
 refine Yl [26] rfl Tryz.func37 (sList_d [(⟨l[k0].fTrait, []⟩ : TSExpr), encT l[k0].fType] (by simp)) ?_ (by simp [hb0, hx0]); simp [hb0, hx0]
 iterate 4 (refine Yo ?_ (by simp [hb0, hx0] <;> omega); simp [hb0, hx0])
 exact DL.nil rfl hK
 apply Zs; intros
 iterate 3 (refine Zo ?_ (by simp [hb0, hx0] <;> omega); simp [hb0, hx0])
 exact Zx
 refine ⟨hb0, Wz.to rfl rfl rfl ?_⟩
 have hs := eK_snoc (P := []) (e := bdE) hb0
 simp at hs
 simp [hs]
 have hkl : k0 = l.length := by omega
 subst hkl
 simp only [eK_full]
 refine W.exit ?_
 apply Zr; intros
 refine Zm [31] ?_; simp
 refine Zo ?_; simp
 exact Zx
 refine W.ret (Zq ?_)
 simp [Tryz.f90]
end Go.Proofs.YtkadbimpaplnmaaGreatDoor
