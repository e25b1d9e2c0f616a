/- spec.Join: texts joined by a text; Walks by the Den rules; impl.FormatSExpr: a builder that is written. No condition but sizes. -/
import Derived.Test.YtkmiecgcibjkbaaGreatFce
import Derived.Test.YtkmiecgcibjkbaaGreatFcd
import Derived.Test.YtkmiecgcibjkbaaGreatFcc
import Derived.Test.YtkmiecgcibjkbaaGreatFcb
namespace Go.Proofs.YtkmiecgcibjkbaaGreat
open Go.RowKit Go.Shelf
set_option maxRecDepth 100000
theorem rp_strs {w : World} {F : Nat → Nat} (hF : ∀ b, w.heap.size ≤ b → F b = 0) {l : List ByteArray} {cs : List Value} (h : rp w F (.sl false .one (l.map dS)) cs []) :
    ∃ a cap, cs = [.slice a l.length cap] ∧ ∀ k (hk : k < l.length), ∃ b off, a = some ⟨b, off, none⟩ ∧ b < w.heap.size ∧ w.cell? ⟨b, off + k, none⟩ = some (.string l[k]) := by
  simp only [rp] at h
  obtain ⟨hs, hp, a, cap, h1, h2, h3, h4, h5⟩ := h
  refine ⟨a, cap, by simpa using h1, fun k hk => ?_⟩
  rcases h5 with ⟨-, h5, -⟩ | ⟨b, off, r, ha, he, hf, h6⟩
  · have : l = [] := by simpa using h5
    subst this; simp at hk
  · obtain ⟨c, bk, g1, g2, -⟩ := rpE.get (l.map dS) off r hs he k (dS l[k]) (by simp [List.getElem?_eq_getElem hk])
    refine ⟨b, off, ha, ?_, ?_⟩
    · rcases Nat.lt_or_ge b w.heap.size with q | q
      · exact q
      · have := hF b q
        simp [Sh.w] at hf; omega
    · have e : dS l[k] = .lf (.string l[k]) := rfl
      rw [e] at g2
      simp only [rp] at g2
      rw [g2.1] at g1
      have := g1 0 (.string l[k]) rfl
      simpa [Sh.w] using this
theorem str_cells (a b : ByteArray) : Lib.strCells (a ++ b) = Lib.strCells a ++ Lib.strCells b := by
  unfold Lib.strCells
  rw [ByteArray.data_append, Array.toList_append, List.map_append]
set_option maxHeartbeats 1000000 in
theorem join_w (l : List ByteArray) (b : ByteArray) (hl : l.length ≤ 1048576) (hb : b.size ≤ 16) (hs : szL ByteArray.size l ≤ 1073741824) (w : World) (a : Option Addr) (cap : Nat)
    (hE : ∀ k (hk : k < l.length), ∃ g off, a = some ⟨g, off, none⟩ ∧ g < w.heap.size ∧ w.cell? ⟨g, off + k, none⟩ = some (.string l[k])) :
    Calls Tryz.prog 218 #[.slice a l.length cap, .string b] w fun e w' => e = .returned (.string (joinS b l)) ∧ Below w.heap.size w w' := by
  obtain ⟨i0, hi, hz0, hz1, hz2⟩ := info_parts bldExtra.infoByte
  have hJ : ∀ k, k ≤ l.length → (joinK b l k).size ≤ 1090519040 := fun k hk => by
    have h1 := joinK_size b l k hk
    have h2 := szL_take ByteArray.size l k
    have h3 : k * b.size ≤ 1048576 * 16 := Nat.mul_le_mul (by omega) hb
    omega
  go_enter Tryz.func218, Tryz.ntmps218
  go_wp2
  have Hj : Hid (∀ k, k ≤ l.length → (joinK b l k).size ≤ 1090519040) := hJ
  clear hJ
  go_loopw [5, 6] (fun o i wr => ∃ (k : Nat), k ≤ l.length ∧ i = .int .i64 k ∧ wr.ownsRow w.heap.size 5 1 o (joinK b l k).size (Lib.strCells (joinK b l k)) ∧ Below w.heap.size w wr) (fun _ i _ => l.length - (intOf i).toNat)
  case atStart => exact ⟨0, Nat.zero_le _, rfl, World.ownsRow_made w #[] 0 (Nat.le_refl _) (by decide) rfl, (Below.refl _ _).alloc (Nat.le_refl _) _⟩
  case round =>
    obtain ⟨k, hk, rfl, ho, hB⟩ := hrel
    by_cases h1 : k < l.length
    · obtain ⟨g, off, rfl, hg, hc⟩ := hE k h1
      have hc2 : wr.cell? ⟨g, off + k, none⟩ = some (.string l[k]) := by rw [(bcell hB).1 g _ hg]; exact hc
      have j1 := Hj.out k hk
      have j2 := Hj.out (k + 1) h1
      have e2 : joinK b l (k + 1) = joinK b l k ++ (if 0 < k then b else ⟨#[]⟩) ++ l[k] := by simp only [joinK]; simp [List.getD_eq_getElem?_getD, List.getElem?_eq_getElem h1]
      by_cases h0 : 0 < k
      · rw [if_pos h0] at e2
        have e3 : (joinK b l (k + 1)).size = (joinK b l k).size + b.size + l[k].size := by rw [e2]; simp only [ByteArray.size_append]
        rw [e3] at j2
        go_wp2_with (at_builtin; refine Lib.wpList_append_own_string _ rfl _ _ 216 9 rfl w.heap.size 5 i0 Tryz.underlying216 Tryz.underlying9 hi hz0 hz1 hz2 _ _ _ rfl ho b rfl (by unfold maxLen; omega) (by omega) hB.size ?_)
        intro v1 w1 ho1 hg1 _
        have hB1 := hB.grown hg1 hB.size (fun k hk => (ho.lt k hk).1)
        have hc3 : w1.cell? ⟨g, off + k, none⟩ = some (.string l[k]) := by rw [(bcell hB1).1 g _ hg]; exact hc
        go_wp2_with (at_builtin; refine Lib.wpList_append_own_string _ rfl _ _ 216 9 rfl w.heap.size 5 i0 Tryz.underlying216 Tryz.underlying9 hi hz0 hz1 hz2 _ _ _ rfl ho1 l[k] rfl (by unfold maxLen; omega) (by omega) hB1.size ?_)
        intro v2 w2 ho2 hg2 _
        have hB2 := hB1.grown hg2 hB1.size (fun k hk => (ho1.lt k hk).1)
        have ho3 : w2.ownsRow w.heap.size 5 1 v2 (joinK b l (k + 1)).size (Lib.strCells (joinK b l (k + 1))) := by rw [e3, e2]; simpa [str_cells] using ho2
        go_wp2
        go_roundw
        case rel => exact ⟨k + 1, h1, by go_num, ho3, hB2⟩
        case measure => simp [intOf]; omega
      · rw [if_neg h0] at e2
        have e3 : (joinK b l (k + 1)).size = (joinK b l k).size + l[k].size := by rw [e2]; simp only [ByteArray.size_append]; simp
        rw [e3] at j2
        go_wp2_with (at_builtin; refine Lib.wpList_append_own_string _ rfl _ _ 216 9 rfl w.heap.size 5 i0 Tryz.underlying216 Tryz.underlying9 hi hz0 hz1 hz2 _ _ _ rfl ho l[k] rfl (by unfold maxLen; omega) (by omega) hB.size ?_)
        intro v1 w1 ho1 hg1 _
        have hB1 := hB.grown hg1 hB.size (fun k hk => (ho.lt k hk).1)
        have e4 : joinK b l (k + 1) = joinK b l k ++ l[k] := by rw [e2]; congr 1; exact ByteArray.append_empty
        have ho3 : w1.ownsRow w.heap.size 5 1 v1 (joinK b l (k + 1)).size (Lib.strCells (joinK b l (k + 1))) := by rw [e3, e4]; simpa [str_cells] using ho1
        go_wp2
        go_roundw
        case rel => exact ⟨k + 1, h1, by go_num, ho3, hB1⟩
        case measure => simp [intOf]; omega
    · obtain rfl : k = l.length := by omega
      have hcv : ∀ (W : World), W = wr → (convert 216 9 u5).run Tryz.prog W = .ok (.string (joinS b l)) W := by
        intro W hW
        subst hW
        have hlen : (joinK b l l.length).size = (joinK b l l.length).data.toList.length := by rw [Array.length_toList]; rfl
        rcases ho.2 with ⟨rfl, h0⟩ | ⟨g, cp, cur, rfl, -⟩
        · rw [run_convert_bytes_string W 216 9 5 none 0 0 Tryz.underlying216 Tryz.underlying5 Tryz.underlying9]
          have : joinS b l = ⟨#[]⟩ := by
            unfold joinS
            cases q : joinK b l l.length with
            | mk d => rw [q] at h0; have : d.size = 0 := h0; rw [Array.eq_empty_of_size_eq_zero this]
          rw [this]
          rfl
        · have hc := ho.cells (g := g) rfl
          have := run_convert_bytes_back (P := Tryz.prog) W 216 9 5 ⟨g, 0, none⟩ cp (joinK b l l.length).data.toList Tryz.underlying216 Tryz.underlying5 Tryz.underlying9 (fun j hj => hc j _ (by
            unfold Lib.strCells
            rw [List.getElem?_map, List.getElem?_eq_getElem hj]; rfl))
          rw [hlen, this]
          unfold joinS
          rw [Array.toArray_toList]
      go_wp2
      go_ret
      exact ⟨rfl, hB⟩
theorem Join_d (l : List ByteArray) (b : ByteArray) (hl : l.length ≤ 1048576) (hb : b.size ≤ 16) (hs : szL ByteArray.size l ≤ 1073741824) (h : HP) : CS cx.P 218 [.d (.sl false .one (l.map dS)), .d (.lf (.string b))] h (.d (.lf (.string (joinS b l)))) h := by
  refine CS.ofVal (c := cx) (args := [.sl false .one (l.map dS), .lf (.string b)]) (v := .string (joinS b l)) (fun w F => ⟨?_, rfl⟩) (fun w vs ⟨F, hF, hn, hv⟩ => ?_) h
  · have h1 := joinS_size b l
    have h3 : l.length * b.size ≤ 1048576 * 16 := Nat.mul_le_mul hl hb
    simp only [rp, okLeaf]
    exact ⟨trivial, by unfold maxLen; omega, trivial⟩
  · obtain ⟨c0, h0, e0⟩ := hv 0 _ rfl
    obtain ⟨c1, h1, e1⟩ := hv 1 _ rfl
    have ev : (DD.sl false .one (l.map dS)).vw = .sl false .one (l.map dS) := by simp only [DD.vw, DD.vws_eq, List.map_map]; rfl
    rw [ev] at h0
    simp only [DD.vw, rp] at h1
    obtain ⟨rfl, -⟩ := h1
    obtain ⟨a, cap, rfl, hE⟩ := rp_strs hF h0
    match vs, hn, e0, e1 with
    | [u, v], _, e0, e1 =>
      simp [DD.mk] at e0 e1
      subst e0; subst e1
      exact join_w l b hl hb hs w a cap hE
end Go.Proofs.YtkmiecgcibjkbaaGreat
namespace Go.Proofs.YtkmiecgcibjkbaaGreat
open Go.RowKit
set_option maxRecDepth 10000
set_option linter.unusedSimpArgs false
set_option maxHeartbeats 4000000
theorem txD_vws (l : List TSExpr) : DD.vws (l.map txD) = l.map txD := by simp only [DD.vws_eq, List.map_map]; rfl
attribute [simp] txD_vws
theorem joinT_d (x : TSExpr) (hz : x.sz ≤ 1048576) (h : HP) : CS cx.P 218 [.d (.sl false .one (x.fList.map txD)), .d (.lf (.string ⟨#[32]⟩))] h (.d (.lf (.string (joinS ⟨#[32]⟩ (x.fList.map eText))))) h := by
  have h1 := eTexts_size x.fList
  have h2 := x.sz_eq
  unfold szs at h2
  rw [TSExpr.szLs_eq, eTexts_eq] at h1
  rw [txD_map]
  exact Join_d (x.fList.map eText) ⟨#[32]⟩ (by simp; omega) (by decide) (by omega) h
theorem l2Text_a (x : TSExpr) (hz : x.sz ≤ 1048576) (hc : ∀ y ∈ x.fList, ∀ h, CS cx.P 175 [.d (y.dd false)] h (.d (.lf (.string (eText y)))) h) (h : HP) : CS cx.P 175 [.d (x.dd false)] h (.d (.lf (.string (eText x)))) h := by
  have hz2 := x.sz_eq; unfold szs at hz2
  have ht := eText_size x
  refine CS.run (fn := Tryz.f175) ⟨Tryz.func175, rfl, rfl⟩ _ _ _ _ 31 rfl (by simp) ?_
  refine W.seq ?_
  apply W.regS; intro _ K hK
  iterate 2 (refine WL.op [] rfl (by simp <;> omega) rfl ?_; simp)
  exact WL.nil hK
  refine W.seq ?_
  refine W.seq ?_
  apply W.regS; intro _ K hK
  iterate 3 (refine WL.op [] rfl (by simp <;> omega) rfl ?_; simp)
  exact WL.nil hK
  refine W.condS _ rfl trivial (fun hb0 => ?_) fun hb0 => ?_ <;> try simp at hb0
  · have hres := eText_atom hb0
    refine W.seq ?_
    apply W.regS; intro _ K hK
    iterate 3 (refine WL.op [] rfl (by simp <;> omega) rfl ?_; simp)
    exact WL.nil hK
    refine W.ret ⟨.inr rfl, ⟨_, rfl⟩, ?_⟩
    simp [Tryz.f175, hres]
  · refine W.skip ?_
    refine W.seq ?_
    apply W.regS; intro _ K hK
    iterate 2 (refine WL.op [] rfl (by simp <;> omega) rfl ?_; simp)
    exact WL.nil hK
    refine W.seq ?_
    refine W.seq ?_
    apply W.regS; intro _ K hK
    refine WL.op [] rfl (by simp <;> omega) rfl ?_; simp
    exact WL.nil hK
    refine W.block ?_
    refine W.loopk [1] [1] (fun k0 => [(4, .d (.lf (.int .i64 (k0 : Int)))), (3, .d (.sl true .one (tk txD x.fList k0)))]) (fun _ => []) x.fList.length rfl (by simp) fun k0 hk0 T hT => ?_
    simp at hT; subst hT
    have hl := tk_len (f := txD) hk0
    refine W.seq ?_
    refine W.seq ?_
    apply W.regS; intro _ K hK
    iterate 5 (refine WL.op [] rfl (by simp [hl] <;> omega) rfl ?_; simp [hl])
    exact WL.nil hK
    refine W.condS _ rfl trivial (fun hb1 => ?_) fun hb1 => ?_ <;> try simp at hb1
    · have hx := ixNext hb1 (by omega)
      refine W.skip ?_
      refine W.seq ?_
      refine W.block ?_
      apply W.regS; intro _ K hK
      refine WL.op [18] rfl (by simp [hl, hb1, hx] <;> omega) rfl ?_; simp [hl, hb1, hx]
      iterate 5 (refine WL.op [] rfl (by simp [hl, hb1, hx] <;> omega) rfl ?_; simp [hl, hb1, hx])
      refine WL.call [] _ _ _ rfl rfl (by simp) (g := 175) (caps := []) (by simp) (by simp) (fn := Tryz.f175) ⟨Tryz.func175, rfl, rfl⟩ rfl (by simp [hl, hb1, hx]) (by simp) (by simp [hl, hb1, hx]) (hc x.fList[k0] (List.getElem_mem hb1) _) rfl ?_; simp [hl, hb1, hx]
      iterate 3 (refine WL.op [] rfl (by simp [hl, hb1, hx] <;> omega) rfl ?_; simp [hl, hb1, hx])
      exact WL.nil hK
      apply W.regS; intro _ K hK
      iterate 3 (refine WL.op [] rfl (by simp [hl, hb1, hx] <;> omega) rfl ?_; simp [hl, hb1, hx])
      exact WL.nil hK
      refine ⟨hb1, Wz.to rfl rfl rfl ?_⟩
      have hs := tk_snoc (f := txD) hb1
      simp at hs
      simp [hs]
    · have hkl : k0 = x.fList.length := by omega
      subst hkl
      simp only [tk_full]
      have hres := eText_list hb0
      rw [hres] at ht
      simp only [ByteArray.size_append] at ht
      refine W.exit ?_
      refine W.seq ?_
      apply W.regS; intro _ K hK
      refine WL.op [] rfl (by simp [hl] <;> omega) rfl ?_; simp [hl]
      refine WL.call [] _ _ _ rfl rfl (by simp) (g := 218) (caps := []) (by simp) (by simp) (fn := Tryz.f218) ⟨Tryz.func218, rfl, rfl⟩ rfl (by simp [hl]) (by simp) (by simp [hl]) (joinT_d x hz _) rfl ?_; simp [hl]
      iterate 3 (refine WL.op [] rfl (by simp [hl] <;> omega) rfl ?_; simp [hl])
      exact WL.nil hK
      refine W.ret ⟨.inr rfl, ⟨_, rfl⟩, ?_⟩
      simp [Tryz.f175, hres]
theorem l2Text_d (x : TSExpr) (hz : x.sz ≤ 1048576) (h : HP) : CS cx.P 175 [.d (x.dd false)] h (.d (.lf (.string (eText x)))) h := l2Text_a x hz (fun y hy h => l2Text_d y (by have h1 := szL_le TSExpr.sz hy; have h2 := x.sz_eq; unfold szs at h2; omega) h) h
termination_by SizeOf.sizeOf x
decreasing_by have := List.sizeOf_lt_of_mem hy; have := x.lt_fList; omega
theorem sFmtE_d (x : TSExpr) (hz : x.sz ≤ 1048576) (h : HP) : CS cx.P 113 [.d (x.dd false)] h (.d (.lf (.string (fmtE x)))) h := by
  refine CS.run (fn := Tryz.f113) ⟨Tryz.func113, rfl, rfl⟩ _ _ _ _ 8 rfl (by simp) ?_
  refine W.seq ?_
  apply W.regS; intro _ K hK
  iterate 2 (refine WL.op [] rfl (by simp <;> omega) rfl ?_; simp)
  exact WL.nil hK
  refine W.seq ?_
  refine W.seq ?_
  apply W.regS; intro _ K hK
  refine WL.op [] rfl (by simp <;> omega) rfl ?_; simp
  refine WL.call [] _ _ _ rfl rfl (by simp) (g := 174) (caps := []) (by simp) (by simp) (fn := Tryz.f174) ⟨Tryz.func174, rfl, rfl⟩ rfl (by simp) (by simp) (by simp) (sValidE_d x hz _) rfl ?_; simp
  refine WL.op [] rfl (by simp <;> omega) rfl ?_; simp
  exact WL.nil hK
  refine W.condS _ rfl trivial (fun hb0 => ?_) fun hb0 => ?_ <;> try simp at hb0
  · refine W.seq ?_
    apply W.regS; intro _ K hK
    refine WL.op [] rfl (by simp <;> omega) rfl ?_; simp
    exact WL.nil hK
    refine W.ret ⟨.inr rfl, ⟨_, rfl⟩, ?_⟩
    simp [Tryz.f113, fmtE, hb0]
  · refine W.skip ?_
    refine W.seq ?_
    apply W.regS; intro _ K hK
    refine WL.op [] rfl (by simp <;> omega) rfl ?_; simp
    refine WL.call [] _ _ _ rfl rfl (by simp) (g := 175) (caps := []) (by simp) (by simp) (fn := Tryz.f175) ⟨Tryz.func175, rfl, rfl⟩ rfl (by simp) (by simp) (by simp) (l2Text_d x hz _) rfl ?_; simp
    refine WL.op [] rfl (by simp <;> omega) rfl ?_; simp
    exact WL.nil hK
    refine W.ret ⟨.inr rfl, ⟨_, rfl⟩, ?_⟩
    simp [Tryz.f113, fmtE, hb0]
theorem sFmtT_d (x : TType) (hz : x.sz ≤ 1048576) (h : HP) : CS cx.P 53 [.d (x.dd false)] h (.d (.lf (.string (fmtT x)))) h := by
  refine CS.run (fn := Tryz.f53) ⟨Tryz.func53, rfl, rfl⟩ _ _ _ _ 9 rfl (by simp) ?_
  refine W.seq ?_
  apply W.regS; intro _ K hK
  iterate 2 (refine WL.op [] rfl (by simp <;> omega) rfl ?_; simp)
  exact WL.nil hK
  refine W.seq ?_
  refine W.seq ?_
  apply W.regS; intro _ K hK
  refine WL.op [] rfl (by simp <;> omega) rfl ?_; simp
  refine WL.call [] _ _ _ rfl rfl (by simp) (g := 112) (caps := []) (by simp) (by simp) (fn := Tryz.f112) ⟨Tryz.func112, rfl, rfl⟩ rfl (by simp) (by simp) (by simp) (sValidT_d x hz _) rfl ?_; simp
  refine WL.op [] rfl (by simp <;> omega) rfl ?_; simp
  exact WL.nil hK
  refine W.condS _ rfl trivial (fun hb0 => ?_) fun hb0 => ?_ <;> try simp at hb0
  · refine W.seq ?_
    apply W.regS; intro _ K hK
    refine WL.op [] rfl (by simp <;> omega) rfl ?_; simp
    exact WL.nil hK
    refine W.ret ⟨.inr rfl, ⟨_, rfl⟩, ?_⟩
    simp [Tryz.f53, fmtT, hb0, fmtE_enc]
  · have hv : tValid x = true := by simpa using hb0
    have he := fmtE_enc hv
    have hs := enc_valid hv
    have hf : tForm x = true := by unfold tValid at hv; simp at hv; exact hv.1.1
    refine W.skip ?_
    refine W.seq ?_
    apply W.regS; intro _ K hK
    refine WL.op [] rfl (by simp <;> omega) rfl ?_; simp
    refine WL.call [] _ _ _ rfl rfl (by simp) (g := 114) (caps := []) (by simp) (by simp) (fn := Tryz.f114) ⟨Tryz.func114, rfl, rfl⟩ rfl (by simp) (by simp) (by simp) (l5Sx_d x hz hf _) rfl ?_; simp
    refine WL.call [] _ _ _ rfl rfl (by simp) (g := 113) (caps := []) (by simp) (by simp) (fn := Tryz.f113) ⟨Tryz.func113, rfl, rfl⟩ rfl (by simp) (by simp) (by simp) (sFmtE_d (encT x) (by omega) _) rfl ?_; simp
    refine WL.op [] rfl (by simp <;> omega) rfl ?_; simp
    exact WL.nil hK
    refine W.ret ⟨.inr rfl, ⟨_, rfl⟩, ?_⟩
    simp [Tryz.f53, fmtT, hb0, fmtE_enc]
end Go.Proofs.YtkmiecgcibjkbaaGreat
namespace Go.Proofs.YtkmiecgcibjkbaaGreat
open Go.RowKit Go.Shelf
set_option maxRecDepth 100000
def Bld (B : Nat) (acc : List UInt8) (w : World) : Prop := Lib.IsBuilderF 268 5 B B (Lib.byteCells acc) w
theorem Bld.lt {B : Nat} {acc : List UInt8} {w : World} (h : Bld B acc w) : B < w.heap.size := by
  rcases h with ⟨_, v, h, _⟩ | ⟨_, v, h, _⟩ <;> exact (Array.getElem?_eq_some_iff.1 h).1
theorem atF_below {T e B b : Nat} {p : Value} {bs : List Value} {w w' : World} (h : Lib.BuilderAtF T e B b p bs w) (k : Below w.heap.size w w') : Lib.BuilderAtF T e B b p bs w' := by
  obtain ⟨hB, v, hb, ho, hn⟩ := h
  refine ⟨hB, v, (k.block b (Array.getElem?_eq_some_iff.1 hb).1).trans hb, ?_, hn⟩
  unfold World.ownsRowF at ho ⊢
  refine ⟨ho.1, ?_⟩
  rcases ho.2 with q | ⟨g, cap, cur, fz, q1, q2, q3, q4⟩
  · exact .inl q
  · exact .inr ⟨g, cap, cur, fz, q1, q2, (k.block g (Array.getElem?_eq_some_iff.1 q3).1).trans q3, q4⟩
theorem Bld.below {B : Nat} {acc : List UInt8} {w w' : World} (h : Bld B acc w) (k : Below w.heap.size w w') : Bld B acc w' := by
  rcases h with h | h
  · exact .inl (atF_below h k)
  · exact .inr (atF_below h k)
theorem wByte (B : Nat) (acc : List UInt8) (c : UInt8) (n : Int) (hn : n = c.toNat) (w : World) (h : Bld B acc w) (hl : acc.length ≤ 1099511627776) :
    Calls Tryz.prog 227 #[.pointer (some ⟨B, 0, none⟩), .int .u8 n] w fun e w' => e = .returned .nilIface ∧ Bld B (acc ++ [c]) w' ∧ Below B w w' ∧ Lib.OthersKept 5 (some B) w w' := by
  refine (Any.Builder_WriteByte_k (ρ := bldRen) bldLays167 bldExtra B B (Lib.byteCells acc) n w h (by rw [Lib.byteCells_length]; omega) (Nat.le_of_lt h.lt)).mono fun e w' ⟨h1, h2, h3, h4⟩ => ⟨h1, .inr ?_, h3, h4⟩
  have e : Lib.byteCells (acc ++ [c]) = Lib.byteCells acc ++ [.int .u8 n] := by unfold Lib.byteCells; rw [List.map_append, hn]; rfl
  rw [e]; exact h2
theorem wStr (B : Nat) (acc : List UInt8) (s : ByteArray) (w : World) (h : Bld B acc w) (hl : acc.length + s.size ≤ 1099511627776) :
    Calls Tryz.prog 226 #[.pointer (some ⟨B, 0, none⟩), .string s] w fun e w' => e = .returned (.tuple #[.int .i64 s.size, .nilIface]) ∧ Bld B (acc ++ s.data.toList) w' ∧ Below B w w' := by
  refine (Any.Builder_WriteString_k (ρ := bldRen) bldLays166 bldExtra B B (Lib.byteCells acc) s w h (by rw [Lib.byteCells_length]; omega) (Nat.le_of_lt h.lt)).mono fun e w' ⟨h1, h2, h3, _⟩ => ⟨h1, .inr ?_, h3⟩
  have e : Lib.byteCells (acc ++ s.data.toList) = Lib.byteCells acc ++ Lib.strCells s := by unfold Lib.byteCells; rw [List.map_append]; rfl
  rw [e]; exact h2
theorem bStr (B : Nat) (acc : List UInt8) (w : World) (h : Bld B acc w) :
    Calls Tryz.prog 185 #[.pointer (some ⟨B, 0, none⟩)] w fun e w' => e = .returned (.string ⟨acc.toArray⟩) ∧ Below B w w' :=
  (Any.Builder_String_any_k (ρ := bldRen) bldLays169 bldExtra B B acc w h (Nat.le_of_lt h.lt)).mono fun _ _ ⟨h1, _, h3, _⟩ => ⟨h1, h3⟩
theorem sx_row {w : World} {F : Nat → Nat} {B : Nat} (hF : ∀ b, B ≤ b → F b = 0) {x : TSExpr} {cs : List Value} (h : rp w F (x.dd false) cs []) :
    ∃ a cap, cs = [.string x.fAtom, .slice a x.fList.length cap] ∧ ∀ k (hk : k < x.fList.length), ∃ b off c, a = some ⟨b, off, none⟩ ∧ b < B ∧ Cells w b (off + k * 2) c ∧ rp w F (x.fList[k].dd false) c [] := by
  rw [TSExpr.dd_eq] at h
  simp only [rp, rpS] at h
  obtain ⟨c1, c2, b1, b2, rfl, hb, ⟨rfl, -, rfl⟩, c3, c4, b3, b4, rfl, hb2, ⟨hs, hp, a, cap, rfl, h2, h3, h4, h5⟩, rfl, rfl⟩ := h
  refine ⟨a, cap, by simp, fun k hk => ?_⟩
  have e3 : b3 = [] := by simp at hb hb2; rw [← hb2, ← hb]
  subst e3
  rcases h5 with ⟨-, h5, -⟩ | ⟨b, off, r, ha, he, hf, h6⟩
  · have : x.fList = [] := by simpa using h5
    rw [this] at hk; simp at hk
  · rcases h6 with ⟨-, -, rfl⟩ | ⟨q, -⟩
    · obtain ⟨c, bk, g1, g2, g3⟩ := rpE.get (x.fList.map (TSExpr.dd false)) off [] hs he k (x.fList[k].dd false) (by simp [List.getElem?_eq_getElem hk])
      have : bk = [] := List.eq_nil_iff_forall_not_mem.2 fun y hy => by have := g3 y hy; simp at this
      subst this
      refine ⟨b, off, c, ha, ?_, g1, g2⟩
      rcases Nat.lt_or_ge b B with q | q
      · exact q
      · have := hF b q
        simp [Sh.w, Sh.ws] at hf; omega
    · cases q
theorem rp_below {w w' : World} {F : Nat → Nat} {B : Nat} (hF : ∀ b, B ≤ b → F b = 0) (hB : Below B w w') {d : DD} {cs : List Value} (h : rp w F d cs []) : rp w' F d cs [] :=
  rp.keep d cs [] h ⟨fun b o ho => hB.cell (p := ⟨b, o, none⟩) (by
    rcases Nat.lt_or_ge b B with q | q
    · exact q
    · have := hF b q; omega), fun _ => Nat.le_refl _, fun b hb => by simp at hb⟩
def Wr (x : TSExpr) : Prop := ∀ (B : Nat) (acc : List UInt8) (w : World) (F : Nat → Nat) (cs : List Value), (∀ b, B ≤ b → F b = 0) → rp w F (x.dd false) cs [] → Bld B acc w → acc.length + (eText x).size ≤ 1000000000 →
  Calls Tryz.prog 184 #[.pointer (some ⟨B, 0, none⟩), .agg cs.toArray] w fun e w' => e = .returned (.tuple #[]) ∧ Bld B (acc ++ (eText x).data.toList) w' ∧ Below B w w'
theorem joinK_mono (b : ByteArray) (l : List ByteArray) (k : Nat) : ∀ m, k ≤ m → (joinK b l k).size ≤ (joinK b l m).size
  | 0, h => by have : k = 0 := by omega
               subst this; exact Nat.le_refl _
  | m + 1, h => by
    rcases Nat.eq_or_lt_of_le h with q | q
    · subst q; exact Nat.le_refl _
    · have := joinK_mono b l k m (by omega)
      simp only [joinK, ByteArray.size_append]; omega
theorem joinK_nx {l : List TSExpr} {k : Nat} (h : k < l.length) : joinK ⟨#[32]⟩ (l.map eText) (k + 1) = joinK ⟨#[32]⟩ (l.map eText) k ++ (if 0 < k then ⟨#[32]⟩ else ⟨#[]⟩) ++ eText l[k] := by
  simp only [joinK]
  congr 1
  simp [List.getD_eq_getElem?_getD, List.getElem?_eq_getElem h]
theorem dl_app (a b : ByteArray) : (a ++ b).data.toList = a.data.toList ++ b.data.toList := by rw [ByteArray.data_append, Array.toList_append]
theorem dl_len (a : ByteArray) : a.data.toList.length = a.size := by rw [Array.length_toList]; rfl
set_option maxHeartbeats 1000000 in
theorem write_a (x : TSExpr) (hz : x.sz ≤ 1048576) (hc : ∀ y ∈ x.fList, Wr y) : Wr x := by
  intro B acc w F cs hF h hb hl
  obtain ⟨a, cap, rfl, hE⟩ := sx_row hF h
  have hBw := hb.lt
  by_cases ha : x.fAtom.toList = []
  · have hn := x.sz_eq
    unfold szs at hn
    have et := eText_list ha
    have hJ : Hid (∀ k, k ≤ x.fList.length → acc.length + 2 + (joinK ⟨#[32]⟩ (x.fList.map eText) k).size ≤ 1000000000) := fun k hk => by
      have h1 := joinK_mono ⟨#[32]⟩ (x.fList.map eText) k x.fList.length hk
      have h2 : joinS ⟨#[32]⟩ (x.fList.map eText) = joinK ⟨#[32]⟩ (x.fList.map eText) x.fList.length := by unfold joinS; rw [List.length_map]
      have e1 : (⟨#[40]⟩ : ByteArray).size = 1 := rfl
      have e2 : (⟨#[41]⟩ : ByteArray).size = 1 := rfl
      rw [et, h2] at hl
      simp only [ByteArray.size_append, e1, e2] at hl
      omega
    go_enter Tryz.func184, Tryz.ntmps184
    have hb1 : Bld B acc (w.alloc (.cells #[.string x.fAtom, .slice a x.fList.length cap] 202)) := hb.below ((Below.refl _ _).alloc (Nat.le_refl _) _)
    go_wp2_with (go_at_call 227; refine (wByte B acc 40 40 rfl _ hb1 (by omega)).mono ?_)
    rintro e w1 ⟨rfl, h1, h2, h3⟩
    have hk1 : w1.heap[w.heap.size]? = some (.cells #[.string x.fAtom, .slice a x.fList.length cap] 202 (0, 0)) := h3 _ _ (heap_alloc_new w _) (by simp; omega) (by simp)
    have hB1 : Below B w w1 := ((Below.refl B w).alloc (Nat.le_of_lt hBw) _).trans h2
    have c1 : w1.cell? ⟨w.heap.size, 1, none⟩ = some (.slice a x.fList.length cap) := by rw [Lib.cell_of_heap hk1]; rfl
    clear hk1 h2 h3 hb1 hb
    go_wp2
    go_loopw [18] (fun i wr => ∃ (k : Nat), k ≤ x.fList.length ∧ i = .int .i64 k ∧ Bld B (acc ++ [40] ++ (joinK ⟨#[32]⟩ (x.fList.map eText) k).data.toList) wr ∧ Below B w wr) (fun i _ => x.fList.length - (intOf i).toNat)
    case atStart => exact ⟨0, Nat.zero_le _, rfl, by simpa [joinK] using h1, hB1⟩
    case round =>
      clear h1 hB1 c1
      obtain ⟨k, hk, rfl, hb, hB⟩ := hrel
      have hBr := hb.lt
      by_cases hlt : k < x.fList.length
      · obtain ⟨g, off, c, rfl, hg, hcl, hr⟩ := hE k hlt
        have hcy := hc x.fList[k] (List.getElem_mem hlt)
        obtain ⟨a2, cap2, rfl, -⟩ := sx_row hF hr
        have d0 : wr.cell? ⟨g, off + k * 2, none⟩ = some (.string x.fList[k].fAtom) := by rw [(bcell hB).1 g _ hg]; exact hcl 0 _ rfl
        have d1 : wr.cell? ⟨g, off + k * 2 + 1, none⟩ = some (.slice a2 x.fList[k].fList.length cap2) := by rw [(bcell hB).1 g _ hg]; exact hcl 1 _ rfl
        clear hE
        have hn := joinK_nx hlt
        have hj := hJ.out (k + 1) hlt
        have hb2 : Bld B (acc ++ [40] ++ (joinK ⟨#[32]⟩ (x.fList.map eText) k).data.toList) (wr.alloc (.cells #[.string x.fList[k].fAtom, .slice a2 x.fList[k].fList.length cap2] 202)) := hb.below ((Below.refl _ _).alloc (Nat.le_refl _) _)
        have hBa : Below B w (wr.alloc (.cells #[.string x.fList[k].fAtom, .slice a2 x.fList[k].fList.length cap2] 202)) := hB.alloc (Nat.le_of_lt hBr) _
        by_cases h0 : 0 < k
        · have e1 : (⟨#[32]⟩ : ByteArray).size = 1 := rfl
          rw [if_pos h0] at hn
          have hn2 : (joinK ⟨#[32]⟩ (x.fList.map eText) (k + 1)).size = (joinK ⟨#[32]⟩ (x.fList.map eText) k).size + 1 + (eText x.fList[k]).size := by rw [hn]; simp only [ByteArray.size_append, e1]
          rw [hn2] at hj
          go_wp2_with (go_at_call 227; refine (wByte B _ 32 32 rfl _ hb2 (by simp only [List.length_append, dl_len, List.length_cons, List.length_nil]; omega)).mono ?_)
          rintro e w2 ⟨rfl, h1, h2, h3⟩
          have hk1 : w2.heap[wr.heap.size]? = some (.cells #[.string x.fList[k].fAtom, .slice a2 x.fList[k].fList.length cap2] 202 (0, 0)) := h3 _ _ (heap_alloc_new wr _) (by simp; omega) (by simp)
          have c0 : w2.cell? ⟨wr.heap.size, 0, none⟩ = some (.string x.fList[k].fAtom) := by rw [Lib.cell_of_heap hk1]; rfl
          have c1 : w2.cell? ⟨wr.heap.size, 1, none⟩ = some (.slice a2 x.fList[k].fList.length cap2) := by rw [Lib.cell_of_heap hk1]; rfl
          have hB2 := hBa.trans h2
          clear hk1 h2 h3 hb2 hb
          go_wp2_with (go_at_call 184; refine (hcy B _ _ F _ hF (rp_below hF hB2 hr) h1 (by simp only [List.length_append, dl_len, List.length_cons, List.length_nil]; omega)).mono ?_)
          rintro e w3 ⟨rfl, h4, h5⟩
          have h6 : Bld B (acc ++ [40] ++ (joinK ⟨#[32]⟩ (x.fList.map eText) (k + 1)).data.toList) w3 := by
            rw [hn, dl_app, dl_app]
            simpa using h4
          go_wp2
          go_roundw
          case rel => exact ⟨k + 1, hlt, by go_num, h6, hB2.trans h5⟩
          case measure => simp [intOf]; omega
        · rw [if_neg h0] at hn
          have e1 : (⟨#[]⟩ : ByteArray).size = 0 := rfl
          have hn2 : (joinK ⟨#[32]⟩ (x.fList.map eText) (k + 1)).size = (joinK ⟨#[32]⟩ (x.fList.map eText) k).size + (eText x.fList[k]).size := by rw [hn]; simp only [ByteArray.size_append, e1]; omega
          rw [hn2] at hj
          go_wp2_with (go_at_call 184; refine (hcy B _ _ F _ hF (rp_below hF hBa hr) hb2 (by simp only [List.length_append, dl_len, List.length_cons, List.length_nil]; omega)).mono ?_)
          rintro e w3 ⟨rfl, h4, h5⟩
          have h6 : Bld B (acc ++ [40] ++ (joinK ⟨#[32]⟩ (x.fList.map eText) (k + 1)).data.toList) w3 := by
            rw [hn, dl_app, dl_app]
            simpa using h4
          go_wp2
          go_roundw
          case rel => exact ⟨k + 1, hlt, by go_num, h6, hBa.trans h5⟩
          case measure => simp [intOf]; omega
      · obtain rfl : k = x.fList.length := by omega
        have hj := hJ.out x.fList.length (Nat.le_refl _)
        go_wp2_with (go_at_call 227; refine (wByte B _ 41 41 rfl _ hb (by simp only [List.length_append, dl_len, List.length_cons, List.length_nil]; omega)).mono ?_)
        rintro e w2 ⟨rfl, h1, h2, h3⟩
        have h6 : Bld B (acc ++ (eText x).data.toList) w2 := by
          rw [et, dl_app, dl_app]
          unfold joinS
          rw [List.length_map]
          simpa using h1
        go_wp2
        (try simp only [Exit.inBlock, Exit.then])
        refine bodyPost_end (results_none rfl _ _ _) rfl ?_
        exact ⟨rfl, h6, hB.trans h2⟩
  · have hi : x.fAtom.toList.isEmpty = false := by simpa using ha
    rw [eText_atom ha] at hl ⊢
    go_enter Tryz.func184, Tryz.ntmps184
    have hb1 : Bld B acc (w.alloc (.cells #[.string x.fAtom, .slice a x.fList.length cap] 202)) := hb.below ((Below.refl _ _).alloc (Nat.le_refl _) _)
    go_wp2_with (go_at_call 226; refine (wStr B acc x.fAtom _ hb1 (by omega)).mono ?_)
    rintro e w' ⟨rfl, h1, h2⟩
    go_wp2
    (try simp only [Exit.inBlock, Exit.then])
    refine bodyPost_ret (results_none rfl _ _ _) rfl ?_
    exact ⟨rfl, h1, ((Below.refl _ _).alloc (Nat.le_of_lt hBw) _).trans h2⟩
theorem write_d (x : TSExpr) (hz : x.sz ≤ 1048576) : Wr x := write_a x hz fun y hy => write_d y (by have h1 := szL_le TSExpr.sz hy; have h2 := x.sz_eq; unfold szs at h2; omega)
termination_by SizeOf.sizeOf x
decreasing_by have := List.sizeOf_lt_of_mem hy; have := x.lt_fList; omega
theorem CS.out1 {c : Cx} {f : Nat} {d y : DD} (h : CS c.P f [.d d] [] (.d y) []) (w : World) (F : Nat → Nat) (hF : ∀ b, w.heap.size ≤ b → F b = 0) (cs : List Value) (hd : rp w F d cs []) :
    Calls c.P f #[d.mk cs] w fun e w' => ∃ cs' bs F', e = .returned (y.mk cs') ∧ rp w' F' y cs' bs ∧ Below w.heap.size w w' := by
  have hR : Rel w F (fun _ _ => none) (fun _ => []) (entS [.d d] []) ⟨#[d.mk cs], []⟩ := by
    refine ⟨by simp [entS], rfl, fun t => ?_, fun lv k _ => ⟨rfl, rfl, rfl⟩, fun lv k cn hq => ?_, fun _ => List.nodup_nil, fun _ _ _ b hb => by simp at hb, fun _ b hb => by simp at hb, hF⟩
    · cases t with
      | zero => simp only [entS, List.getD_cons_zero, rv]; exact ⟨cs, hd, rfl⟩
      | succ t => simp [entS, rv]
    · cases lv <;> simp [entS, hpg] at hq
  refine (h w _ _ _ [d.mk cs] hR).mono fun e w' ⟨v, F', own', h1, h2, h3⟩ => ?_
  have h4 := h2.tm 0
  simp only [retS, if_true] at h4
  simp only [rv] at h4
  obtain ⟨cs', h5, h6⟩ := h4
  have h6' : v = y.mk cs' := by simpa using h6
  subst h6'
  exact ⟨cs', own' (.t 0), F', h1, h5, ⟨h3.ks.os, h3.ks.tape, h3.ks.output, h3.ks.size, fun b hb => (h3.ks.out b hb (by simp)).1⟩⟩
set_option maxHeartbeats 1000000 in
theorem fmtE_w (x : TSExpr) (hz : x.sz ≤ 1048576) (w : World) (F : Nat → Nat) (cs : List Value) (hF : ∀ b, w.heap.size ≤ b → F b = 0) (h : rp w F (x.dd false) cs []) :
    Calls Tryz.prog 122 #[.agg cs.toArray] w fun e w' => e = .returned (.string (fmtE x)) ∧ Below w.heap.size w w' := by
  obtain ⟨a, cap, rfl, -⟩ := sx_row hF h
  have hB0 : Below w.heap.size w (w.alloc (.cells #[.string x.fAtom, .slice a x.fList.length cap] 202)) := (Below.refl _ _).alloc (Nat.le_refl _) _
  have hk0 := heap_alloc_new w (.cells #[.string x.fAtom, .slice a x.fList.length cap] 202)
  have hs0 : (w.alloc (.cells #[.string x.fAtom, .slice a x.fList.length cap] 202)).heap.size = w.heap.size + 1 := by simp
  have hv := CS.out1 (c := cx) (iValidE_d x hz []) (w.alloc (.cells #[.string x.fAtom, .slice a x.fList.length cap] 202)) F (fun b hb => hF b (by omega)) _ (rp_below hF hB0 h)
  have hmk : (x.dd false).mk [.string x.fAtom, .slice a x.fList.length cap] = .agg #[.string x.fAtom, .slice a x.fList.length cap] := by rw [TSExpr.dd_eq]; rfl
  rw [hmk] at hv
  go_enter Tryz.func122, Tryz.ntmps122
  go_wp2_with (go_at_call 183; refine hv.mono ?_)
  rintro e w1 ⟨cs', bs, F', rfl, h1, h2⟩
  simp only [rp] at h1
  obtain ⟨rfl, -, -⟩ := h1
  simp only [DD.mk, List.headD]
  rw [hs0] at h2
  have hB1 := hB0.trans (h2.mono (Nat.le_succ _))
  have hk1 := (h2.block w.heap.size (by omega)).trans hk0
  have c0 : w1.cell? ⟨w.heap.size, 0, none⟩ = some (.string x.fAtom) := by rw [Lib.cell_of_heap hk1]; rfl
  have c1 : w1.cell? ⟨w.heap.size, 1, none⟩ = some (.slice a x.fList.length cap) := by rw [Lib.cell_of_heap hk1]; rfl
  have hlt : w.heap.size < w1.heap.size := by have := h2.size; simp at this; omega
  clear hk1 hk0 hv h2 hB0
  cases hval : eValid x with
  | false =>
    go_wp2
    go_ret
    exact ⟨by unfold fmtE; rw [hval]; rfl, hB1⟩
  | true =>
    have hbld : Bld w1.heap.size [] (w1.alloc (.cells #[.pointer none, .slice none 0 0] 268)) := Lib.IsBuilderF.of (Lib.fresh_isBuilder _ _ w1)
    have hB2 : Below w1.heap.size w1 (w1.alloc (.cells #[.pointer none, .slice none 0 0] 268)) := (Below.refl _ _).alloc (Nat.le_refl _) _
    have hBw := hB1.trans (hB2.mono (Nat.le_of_lt hlt))
    have ht := eText_size x
    go_wp2_with (go_at_call 184; refine (write_d x hz w1.heap.size [] _ F _ (fun b hb => hF b (by omega)) (rp_below hF hBw h) hbld (by simp only [List.length_nil]; omega)).mono ?_)
    rintro e w2 ⟨rfl, h3, h4⟩
    go_wp2_with (go_at_call 185; refine (bStr w1.heap.size _ _ h3).mono ?_)
    rintro e w3 ⟨rfl, h5⟩
    go_wp2
    go_ret
    refine ⟨?_, hBw.trans ((h4.trans h5).mono (Nat.le_of_lt hlt))⟩
    unfold fmtE; rw [if_pos hval]; simp
theorem iFmtE_d (x : TSExpr) (hz : x.sz ≤ 1048576) (h : HP) : CS cx.P 122 [.d (x.dd false)] h (.d (.lf (.string (fmtE x)))) h := by
  refine CS.ofVal (c := cx) (args := [x.dd false]) (v := .string (fmtE x)) (fun w F => ⟨?_, rfl⟩) (fun w vs ⟨F, hF, hn, hv⟩ => ?_) h
  · have h1 := eText_size x
    have h2 : (fmtE x).size ≤ (eText x).size := by unfold fmtE; split <;> simp
    simp only [rp, okLeaf]
    exact ⟨trivial, by unfold maxLen; omega, trivial⟩
  · obtain ⟨c0, h0, e0⟩ := hv 0 _ rfl
    rw [x.vw_dd false] at h0
    match vs, hn, e0 with
    | [u], _, e0 =>
      simp [DD.mk] at e0
      rw [e0]
      exact fmtE_w x hz w F c0 hF h0
end Go.Proofs.YtkmiecgcibjkbaaGreat
namespace Go.Proofs.YtkmiecgcibjkbaaGreat
open Go.RowKit
set_option maxRecDepth 10000
set_option linter.unusedSimpArgs false
set_option maxHeartbeats 4000000
theorem iFmtT_d (x : TType) (hz : x.sz ≤ 1048576) (h : HP) : CS cx.P 59 [.d (x.dd false)] h (.d (.lf (.string (fmtT x)))) h := by
  refine CS.run (fn := Tryz.f59) ⟨Tryz.func59, rfl, rfl⟩ _ _ _ _ 9 rfl (by simp) ?_
  refine W.seq ?_
  apply W.regS; intro _ K hK
  iterate 2 (refine WL.op [] rfl (by simp <;> omega) rfl ?_; simp)
  exact WL.nil hK
  refine W.seq ?_
  refine W.seq ?_
  apply W.regS; intro _ K hK
  refine WL.op [] rfl (by simp <;> omega) rfl ?_; simp
  refine WL.call [] _ _ _ rfl rfl (by simp) (g := 121) (caps := []) (by simp) (by simp) (fn := Tryz.f121) ⟨Tryz.func121, rfl, rfl⟩ rfl (by simp) (by simp) (by simp) (iValidT_d x hz _) rfl ?_; simp
  refine WL.op [] rfl (by simp <;> omega) rfl ?_; simp
  exact WL.nil hK
  refine W.condS _ rfl trivial (fun hb0 => ?_) fun hb0 => ?_ <;> try simp at hb0
  · refine W.seq ?_
    apply W.regS; intro _ K hK
    refine WL.op [] rfl (by simp <;> omega) rfl ?_; simp
    exact WL.nil hK
    refine W.ret ⟨.inr rfl, ⟨_, rfl⟩, ?_⟩
    simp [Tryz.f59, fmtT, hb0, fmtE_enc]
  · have hv : tValid x = true := by simpa using hb0
    have he := fmtE_enc hv
    have hs := enc_valid hv
    have hf : tForm x = true := by unfold tValid at hv; simp at hv; exact hv.1.1
    refine W.skip ?_
    refine W.seq ?_
    apply W.regS; intro _ K hK
    refine WL.op [] rfl (by simp <;> omega) rfl ?_; simp
    refine WL.call [] _ _ _ rfl rfl (by simp) (g := 123) (caps := []) (by simp) (by simp) (fn := Tryz.f123) ⟨Tryz.func123, rfl, rfl⟩ rfl (by simp) (by simp) (by simp) (encodeType_d x hz hf _) rfl ?_; simp
    refine WL.call [] _ _ _ rfl rfl (by simp) (g := 122) (caps := []) (by simp) (by simp) (fn := Tryz.f122) ⟨Tryz.func122, rfl, rfl⟩ rfl (by simp) (by simp) (by simp) (iFmtE_d (encT x) (by omega) _) rfl ?_; simp
    refine WL.op [] rfl (by simp <;> omega) rfl ?_; simp
    exact WL.nil hK
    refine W.ret ⟨.inr rfl, ⟨_, rfl⟩, ?_⟩
    simp [Tryz.f59, fmtT, hb0, fmtE_enc]
theorem sFmtG_d (x : TBound) (hz : x.sz ≤ 1048576) (h : HP) : CS cx.P 55 [.d (x.dd false)] h (.d (.lf (.string (fmtG x)))) h := by
  have hz2 := x.sz_eq
  refine CS.run (fn := Tryz.f55) ⟨Tryz.func55, rfl, rfl⟩ _ _ _ _ 15 rfl (by simp) ?_
  refine W.seq ?_
  apply W.regS; intro _ K hK
  iterate 2 (refine WL.op [] rfl (by simp <;> omega) rfl ?_; simp)
  exact WL.nil hK
  refine W.seq ?_
  refine W.seq ?_
  apply W.regS; intro _ K hK
  refine WL.op [] rfl (by simp <;> omega) rfl ?_; simp
  refine WL.call [] _ _ _ rfl rfl (by simp) (g := 117) (caps := []) (by simp) (by simp) (fn := Tryz.f117) ⟨Tryz.func117, rfl, rfl⟩ rfl (by simp) (by simp) (by simp) (sValidB_d x hz _) rfl ?_; simp
  refine WL.op [] rfl (by simp <;> omega) rfl ?_; simp
  exact WL.nil hK
  refine W.condS _ rfl trivial (fun hb0 => ?_) fun hb0 => ?_ <;> try simp at hb0
  · have hres : fmtG x = ⟨#[]⟩ := by rcases hb0 with q | q <;> simp [fmtG, q]
    have hT : True := trivial
    have he : True := trivial
    refine W.seq ?_
    apply W.regS; intro _ K hK
    refine WL.op [] rfl (by simp <;> omega) rfl ?_; simp
    exact WL.nil hK
    refine W.ret ⟨.inr rfl, ⟨_, rfl⟩, ?_⟩
    simp [Tryz.f55, hres, hT]
  · have hv : (isNm x.fTrait && tValid x.fType) = true := by simpa using hb0
    have hg := goal_valid hv
    have he := fmt_goal hv
    have hn : isNm x.fTrait = true ∧ tValid x.fType = true := by simpa using hv
    have hs := enc_valid hn.2
    have hf : tForm x.fType = true := by have := hn.2; unfold tValid at this; simp at this; exact this.1.1
    have hn2 := (at_nm hn.1).2.2
    have ht := fmtT_size x.fType
    have hres : fmtG x = ⟨#[40]⟩ ++ x.fTrait ++ ⟨#[32]⟩ ++ eText (encT x.fType) ++ ⟨#[41]⟩ := by unfold fmtG; exact if_pos hv
    have hT : fmtT x.fType = eText (encT x.fType) := by unfold fmtT; exact if_pos hn.2
    refine W.skip ?_
    refine W.seq ?_
    apply W.regSD rfl; intro K hK
    iterate 6 (refine DL.op [] rfl (by simp <;> omega) rfl ?_; simp)
    refine DL.call [] _ _ _ rfl rfl (by simp) (g := 53) (caps := []) (by simp) (by simp) (fn := Tryz.f53) ⟨Tryz.func53, rfl, rfl⟩ rfl (by simp) (by simp) (by simp) (sFmtT_d x.fType (by omega)) rfl ?_; simp
    iterate 3 (refine DL.op [] rfl (by simp <;> omega) rfl ?_; simp)
    exact DL.nil rfl hK
    refine W.ret ⟨.inr rfl, ⟨_, rfl⟩, ?_⟩
    simp [Tryz.f55, hres, hT]
theorem iFmtG_d (x : TBound) (hz : x.sz ≤ 1048576) (h : HP) : CS cx.P 61 [.d (x.dd false)] h (.d (.lf (.string (fmtG x)))) h := by
  have hz2 := x.sz_eq
  refine CS.run (fn := Tryz.f61) ⟨Tryz.func61, rfl, rfl⟩ _ _ _ _ 15 rfl (by simp) ?_
  refine W.seq ?_
  apply W.regS; intro _ K hK
  iterate 2 (refine WL.op [] rfl (by simp <;> omega) rfl ?_; simp)
  exact WL.nil hK
  refine W.seq ?_
  refine W.seq ?_
  apply W.regS; intro _ K hK
  refine WL.op [] rfl (by simp <;> omega) rfl ?_; simp
  refine WL.call [] _ _ _ rfl rfl (by simp) (g := 125) (caps := []) (by simp) (by simp) (fn := Tryz.f125) ⟨Tryz.func125, rfl, rfl⟩ rfl (by simp) (by simp) (by simp) (iValidB_d x hz _) rfl ?_; simp
  refine WL.op [] rfl (by simp <;> omega) rfl ?_; simp
  exact WL.nil hK
  refine W.condS _ rfl trivial (fun hb0 => ?_) fun hb0 => ?_ <;> try simp at hb0
  · have hres : fmtG x = ⟨#[]⟩ := by rcases hb0 with q | q <;> simp [fmtG, q]
    have hT : True := trivial
    have he : True := trivial
    refine W.seq ?_
    apply W.regS; intro _ K hK
    refine WL.op [] rfl (by simp <;> omega) rfl ?_; simp
    exact WL.nil hK
    refine W.ret ⟨.inr rfl, ⟨_, rfl⟩, ?_⟩
    simp [Tryz.f61, hres, he]
  · have hv : (isNm x.fTrait && tValid x.fType) = true := by simpa using hb0
    have hg := goal_valid hv
    have he := fmt_goal hv
    have hn : isNm x.fTrait = true ∧ tValid x.fType = true := by simpa using hv
    have hs := enc_valid hn.2
    have hf : tForm x.fType = true := by have := hn.2; unfold tValid at this; simp at this; exact this.1.1
    have hn2 := (at_nm hn.1).2.2
    have ht := fmtT_size x.fType
    have hres : fmtG x = ⟨#[40]⟩ ++ x.fTrait ++ ⟨#[32]⟩ ++ eText (encT x.fType) ++ ⟨#[41]⟩ := by unfold fmtG; exact if_pos hv
    have hT : fmtT x.fType = eText (encT x.fType) := by unfold fmtT; exact if_pos hn.2
    refine W.skip ?_
    refine W.seq ?_
    apply W.regSD rfl; intro K hK
    iterate 2 (refine DL.op [] rfl (by simp <;> omega) rfl ?_; simp)
    refine DL.call [] _ _ _ rfl rfl (by simp) (g := 127) (caps := []) (by simp) (by simp) (fn := Tryz.f127) ⟨Tryz.func127, rfl, rfl⟩ rfl (by simp) (by simp) (by simp) (iAt_d x.fTrait) rfl ?_; simp
    iterate 2 (refine DL.op [] rfl (by simp <;> omega) rfl ?_; simp)
    refine DL.call [] _ _ _ rfl rfl (by simp) (g := 123) (caps := []) (by simp) (by simp) (fn := Tryz.f123) ⟨Tryz.func123, rfl, rfl⟩ rfl (by simp) (by simp) (by simp) (encodeType_d x.fType (by omega) hf) rfl ?_; simp
    refine DL.op [] rfl (by simp <;> omega) rfl ?_; simp
    refine DL.call [12] _ _ _ rfl rfl (by simp) (g := 126) (caps := []) (by simp) (by simp) (fn := Tryz.f126) ⟨Tryz.func126, rfl, rfl⟩ rfl (by simp) (by simp) (by simp) (iList_d [⟨x.fTrait, []⟩, encT x.fType]) rfl ?_; simp
    refine DL.call [] _ _ _ rfl rfl (by simp) (g := 122) (caps := []) (by simp) (by simp) (fn := Tryz.f122) ⟨Tryz.func122, rfl, rfl⟩ rfl (by simp) (by simp) (by simp) (iFmtE_d ⟨⟨#[]⟩, [⟨x.fTrait, []⟩, encT x.fType]⟩ (by omega)) rfl ?_; simp
    refine DL.op [] rfl (by simp <;> omega) rfl ?_; simp
    exact DL.nil rfl hK
    refine W.ret ⟨.inr rfl, ⟨_, rfl⟩, ?_⟩
    simp [Tryz.f61, hres, he]
end Go.Proofs.YtkmiecgcibjkbaaGreat
namespace Go.Proofs.YtkmiecgcibjkbaaGreat
open Go.RowKit
set_option maxRecDepth 10000
set_option linter.unusedSimpArgs false
set_option maxHeartbeats 4000000
def eqT (e : TEquation) : ByteArray := fmtT (nmd e.fA) ++ ⟨#[32, 61, 32]⟩ ++ fmtT (nmd e.fB)
def obT (o : TObligation) : ByteArray := fmtG ⟨o.fGoal.fTrait, nmd o.fGoal.fType⟩
def eqD (e : TEquation) : DD := .lf (.string (eqT e))
def obD (o : TObligation) : DD := .lf (.string (obT o))
theorem eqD_eq (e : TEquation) : eqD e = .lf (.string (eqT e)) := rfl
theorem obD_eq (o : TObligation) : obD o = .lf (.string (obT o)) := rfl
attribute [simp] eqD_eq obD_eq
def fmtC (x : TInferState) : List ByteArray := x.fEquations.map eqT ++ x.fObligations.map obT
def cK (x : TInferState) (k : Nat) : List DD := x.fEquations.map eqD ++ tk obD x.fObligations k
theorem cK_zero (x : TInferState) : cK x 0 = x.fEquations.map eqD := by unfold cK; rw [tk_zero, List.append_nil]
theorem cK_snoc {x : TInferState} {k : Nat} (h : k < x.fObligations.length) : cK x k ++ [.lf (.string (obT x.fObligations[k]))] = cK x (k + 1) := by
  unfold cK; rw [List.append_assoc, ← obD_eq, tk_snoc h]
theorem cK_len {x : TInferState} {k : Nat} (h : k ≤ x.fObligations.length) : (cK x k).length = x.fEquations.length + k := by
  unfold cK; rw [List.length_append, List.length_map, tk_len h]
theorem cK_full (x : TInferState) : cK x x.fObligations.length = (fmtC x).map dS := by
  unfold cK fmtC; rw [tk_full, List.map_append, List.map_map, List.map_map]; rfl
mutual
theorem nmd_sz : ∀ x : TType, (nmd x).sz ≤ x.sz
  | ⟨k, n, l⟩ => by
    simp only [nmd]
    split
    · rename_i h
      have h2 := isMeta_2 (s := n) (by simp at h; exact h.2)
      have e : (⟨#[117]⟩ : ByteArray).size = 1 := rfl
      simp [TType.sz, TType.szLs, ByteArray.size_append, e, ByteArray.size_extract]; omega
    · have := nmds_sz l
      have h3 : (nmds l).length = l.length := by rw [nmds_eq, List.length_map]
      simp only [TType.sz, h3]; omega
theorem nmds_sz : ∀ l : List TType, TType.szLs (nmds l) ≤ TType.szLs l
  | [] => Nat.le_refl _
  | x :: l => by simp only [nmds, TType.szLs]; have := nmd_sz x; have := nmds_sz l; omega
end
theorem iFmtC_d (x : TInferState) (hz : x.sz ≤ 1048576) (h : HP) : CS cx.P 18 [.d (x.dd false)] h (.d (.sl true .one ((fmtC x).map dS))) h := by
  have hz2 := x.sz_eq; unfold szs at hz2
  refine CS.run (fn := Tryz.f18) ⟨Tryz.func18, rfl, rfl⟩ _ _ _ _ 51 rfl (by simp) ?_
  refine W.seq ?_
  apply W.regS; intro _ K hK
  iterate 2 (refine WL.op [] rfl (by simp <;> omega) rfl ?_; simp)
  exact WL.nil hK
  refine W.seq ?_
  apply W.regS; intro _ K hK
  iterate 2 (refine WL.op [] rfl (by simp <;> omega) rfl ?_; simp)
  exact WL.nil hK
  refine W.seq ?_
  refine W.seq ?_
  apply W.regS; intro _ K hK
  iterate 4 (refine WL.op [] rfl (by simp <;> omega) rfl ?_; simp)
  exact WL.nil hK
  refine W.block ?_
  refine W.loopk [1, 10, 11] [1] (fun k0 => [(12, .d (.lf (.int .i64 (k0 : Int)))), (3, .d (.sl true .one (tk eqD x.fEquations k0)))]) (fun _ => []) x.fEquations.length rfl (by simp) fun k0 hk0 T hT => ?_
  simp at hT; subst hT
  have hl := tk_len (f := eqD) hk0
  refine W.seq ?_
  apply W.regS; intro _ K hK
  refine WL.op [] rfl (by simp [hl] <;> omega) rfl ?_; simp [hl]
  exact WL.nil hK
  refine W.seq ?_
  refine W.condS _ rfl trivial (fun hb0 => ?_) fun hb0 => ?_ <;> try simp at hb0
  · have hx := ixNext hb0 (by omega)
    have he := szL_le TEquation.sz (List.getElem_mem hb0)
    have he2 := x.fEquations[k0].sz_eq
    have hA := nmd_sz x.fEquations[k0].fA
    have hB := nmd_sz x.fEquations[k0].fB
    have hA2 := fmtT_size (nmd x.fEquations[k0].fA)
    have hB2 := fmtT_size (nmd x.fEquations[k0].fB)
    refine W.skip ?_
    refine W.seq ?_
    refine W.block ?_
    refine W.seq ?_
    apply W.regS; intro _ K hK
    refine WL.op [] rfl (by simp [hl, hb0, hx] <;> omega) rfl ?_; simp [hl, hb0, hx]
    refine WL.op [15] rfl (by simp [hl, hb0, hx] <;> omega) rfl ?_; simp [hl, hb0, hx]
    iterate 2 (refine WL.op [] rfl (by simp [hl, hb0, hx] <;> omega) rfl ?_; simp [hl, hb0, hx])
    exact WL.nil hK
    apply W.regSD rfl; intro K hK
    refine DL.op [16] rfl (by simp [hl, hb0, hx] <;> omega) rfl ?_; simp [hl, hb0, hx]
    iterate 2 (refine DL.op [] rfl (by simp [hl, hb0, hx] <;> omega) rfl ?_; simp [hl, hb0, hx])
    refine DL.call [] _ _ _ rfl rfl (by simp) (g := 60) (caps := []) (by simp) (by simp) (fn := Tryz.f60) ⟨Tryz.func60, rfl, rfl⟩ rfl (by simp [hl, hb0, hx]) (by simp) (by simp [hl, hb0, hx]) (shown_d x.fEquations[k0].fA (by omega)) rfl ?_; simp [hl, hb0, hx]
    refine DL.call [] _ _ _ rfl rfl (by simp) (g := 59) (caps := []) (by simp) (by simp) (fn := Tryz.f59) ⟨Tryz.func59, rfl, rfl⟩ rfl (by simp [hl, hb0, hx]) (by simp) (by simp [hl, hb0, hx]) (iFmtT_d (nmd x.fEquations[k0].fA) (by omega)) rfl ?_; simp [hl, hb0, hx]
    iterate 3 (refine DL.op [] rfl (by simp [hl, hb0, hx] <;> omega) rfl ?_; simp [hl, hb0, hx])
    refine DL.call [] _ _ _ rfl rfl (by simp) (g := 60) (caps := []) (by simp) (by simp) (fn := Tryz.f60) ⟨Tryz.func60, rfl, rfl⟩ rfl (by simp [hl, hb0, hx]) (by simp) (by simp [hl, hb0, hx]) (shown_d x.fEquations[k0].fB (by omega)) rfl ?_; simp [hl, hb0, hx]
    refine DL.call [] _ _ _ rfl rfl (by simp) (g := 59) (caps := []) (by simp) (by simp) (fn := Tryz.f59) ⟨Tryz.func59, rfl, rfl⟩ rfl (by simp [hl, hb0, hx]) (by simp) (by simp [hl, hb0, hx]) (iFmtT_d (nmd x.fEquations[k0].fB) (by omega)) rfl ?_; simp [hl, hb0, hx]
    iterate 4 (refine DL.op [] rfl (by simp [hl, hb0, hx] <;> omega) rfl ?_; simp [hl, hb0, hx])
    exact DL.nil rfl hK
    apply W.regS; intro _ K hK
    iterate 2 (refine WL.op [] rfl (by simp [hl, hb0, hx] <;> omega) rfl ?_; simp [hl, hb0, hx])
    exact WL.nil hK
    refine ⟨hb0, Wz.to rfl rfl rfl ?_⟩
    have hs := tk_snoc (f := eqD) hb0
    simp [eqT] at hs
    simp [hs]
  · have hkl : k0 = x.fEquations.length := by omega
    subst hkl
    simp only [tk_full]
    refine W.exit ?_
    refine W.seq ?_
    refine W.seq ?_
    apply W.regS; intro _ K hK
    iterate 4 (refine WL.op [] rfl (by simp [hl] <;> omega) rfl ?_; simp [hl])
    exact WL.nil hK
    refine W.block ?_
    refine W.loopk [31, 32] [] (fun k1 => [(33, .d (.lf (.int .i64 (k1 : Int)))), (3, .d (.sl true .one (cK x k1)))]) (fun _ => []) x.fObligations.length rfl (by simp [cK_zero]) fun k1 hk1 T hT => ?_
    simp at hT; subst hT
    have hl := cK_len hk1
    refine W.seq ?_
    apply W.regS; intro _ K hK
    refine WL.op [] rfl (by simp [hl, hl] <;> omega) rfl ?_; simp [hl, hl]
    exact WL.nil hK
    refine W.seq ?_
    refine W.condS _ rfl trivial (fun hb1 => ?_) fun hb1 => ?_ <;> try simp at hb1
    · have hx := ixNext hb1 (by omega)
      have he := szL_le TObligation.sz (List.getElem_mem hb1)
      have he2 := x.fObligations[k1].sz_eq
      have he3 := x.fObligations[k1].fGoal.sz_eq
      have hA := nmd_sz x.fObligations[k1].fGoal.fType
      have hG : (⟨x.fObligations[k1].fGoal.fTrait, nmd x.fObligations[k1].fGoal.fType⟩ : TBound).sz ≤ 1048576 := by rw [TBound.sz_eq]; simp only; omega
      refine W.skip ?_
      refine W.seq ?_
      refine W.block ?_
      refine W.seq ?_
      apply W.regS; intro _ K hK
      refine WL.op [] rfl (by simp [hl, hl, hb1, hx] <;> omega) rfl ?_; simp [hl, hl, hb1, hx]
      refine WL.op [36] rfl (by simp [hl, hl, hb1, hx] <;> omega) rfl ?_; simp [hl, hl, hb1, hx]
      iterate 2 (refine WL.op [] rfl (by simp [hl, hl, hb1, hx] <;> omega) rfl ?_; simp [hl, hl, hb1, hx])
      exact WL.nil hK
      apply W.regSD rfl; intro K hK
      refine DL.op [37] rfl (by simp [hl, hl, hb1, hx] <;> omega) rfl ?_; simp [hl, hl, hb1, hx]
      iterate 6 (refine DL.op [] rfl (by simp [hl, hl, hb1, hx] <;> omega) rfl ?_; simp [hl, hl, hb1, hx])
      refine DL.call [] _ _ _ rfl rfl (by simp) (g := 60) (caps := []) (by simp) (by simp) (fn := Tryz.f60) ⟨Tryz.func60, rfl, rfl⟩ rfl (by simp [hl, hl, hb1, hx]) (by simp) (by simp [hl, hl, hb1, hx]) (shown_d x.fObligations[k1].fGoal.fType (by omega)) rfl ?_; simp [hl, hl, hb1, hx]
      refine DL.op [] rfl (by simp [hl, hl, hb1, hx] <;> omega) rfl ?_; simp [hl, hl, hb1, hx]
      refine DL.call [] _ _ _ rfl rfl (by simp) (g := 61) (caps := []) (by simp) (by simp) (fn := Tryz.f61) ⟨Tryz.func61, rfl, rfl⟩ rfl (by simp [hl, hl, hb1, hx]) (by simp) (by simp [hl, hl, hb1, hx]) (iFmtG_d ⟨x.fObligations[k1].fGoal.fTrait, nmd x.fObligations[k1].fGoal.fType⟩ hG) rfl ?_; simp [hl, hl, hb1, hx]
      iterate 3 (refine DL.op [] rfl (by simp [hl, hl, hb1, hx] <;> omega) rfl ?_; simp [hl, hl, hb1, hx])
      exact DL.nil rfl hK
      apply W.regS; intro _ K hK
      iterate 2 (refine WL.op [] rfl (by simp [hl, hl, hb1, hx] <;> omega) rfl ?_; simp [hl, hl, hb1, hx])
      exact WL.nil hK
      refine ⟨hb1, Wz.to rfl rfl rfl ?_⟩
      have hs := cK_snoc hb1
      simp [obT] at hs
      simp [hs]
    · have hkl : k1 = x.fObligations.length := by omega
      subst hkl
      have hres := cK_full x
      refine W.exit ?_
      refine W.seq ?_
      apply W.regS; intro _ K hK
      refine WL.op [50] rfl (by simp [hl, hl] <;> omega) rfl ?_; simp [hl, hl]
      refine WL.op [] rfl (by simp [hl, hl] <;> omega) rfl ?_; simp [hl, hl]
      exact WL.nil hK
      refine W.ret ⟨.inr rfl, ⟨_, rfl⟩, ?_⟩
      simp [Tryz.f18, hres]
theorem sFmtC_d (x : TInferState) (hz : x.sz ≤ 1048576) (h : HP) : CS cx.P 16 [.d (x.dd false)] h (.d (.sl true .one ((fmtC x).map dS))) h := by
  have hz2 := x.sz_eq; unfold szs at hz2
  refine CS.run (fn := Tryz.f16) ⟨Tryz.func16, rfl, rfl⟩ _ _ _ _ 63 rfl (by simp) ?_
  refine W.seq ?_
  apply W.regS; intro _ K hK
  iterate 2 (refine WL.op [] rfl (by simp <;> omega) rfl ?_; simp)
  exact WL.nil hK
  refine W.seq ?_
  apply W.regS; intro _ K hK
  iterate 2 (refine WL.op [] rfl (by simp <;> omega) rfl ?_; simp)
  exact WL.nil hK
  refine W.seq ?_
  refine W.seq ?_
  apply W.regS; intro _ K hK
  refine WL.op [] rfl (by simp <;> omega) rfl ?_; simp
  exact WL.nil hK
  refine W.block ?_
  refine W.loopk [1] [1] (fun k0 => [(4, .d (.lf (.int .i64 (k0 : Int)))), (3, .d (.sl true .one (tk eqD x.fEquations k0)))]) (fun _ => []) x.fEquations.length rfl (by simp) fun k0 hk0 T hT => ?_
  simp at hT; subst hT
  have hl := tk_len (f := eqD) hk0
  refine W.seq ?_
  refine W.seq ?_
  apply W.regS; intro _ K hK
  iterate 5 (refine WL.op [] rfl (by simp [hl] <;> omega) rfl ?_; simp [hl])
  exact WL.nil hK
  refine W.condS _ rfl trivial (fun hb0 => ?_) fun hb0 => ?_ <;> try simp at hb0
  · have hx := ixNext hb0 (by omega)
    have he := szL_le TEquation.sz (List.getElem_mem hb0)
    have he2 := x.fEquations[k0].sz_eq
    have hA := nmd_sz x.fEquations[k0].fA
    have hB := nmd_sz x.fEquations[k0].fB
    have hA2 := fmtT_size (nmd x.fEquations[k0].fA)
    have hB2 := fmtT_size (nmd x.fEquations[k0].fB)
    refine W.skip ?_
    refine W.seq ?_
    refine W.block ?_
    apply W.regSD rfl; intro K hK
    refine DL.op [14] rfl (by simp [hl, hb0, hx] <;> omega) rfl ?_; simp [hl, hb0, hx]
    iterate 6 (refine DL.op [] rfl (by simp [hl, hb0, hx] <;> omega) rfl ?_; simp [hl, hb0, hx])
    refine DL.call [] _ _ _ rfl rfl (by simp) (g := 54) (caps := []) (by simp) (by simp) (fn := Tryz.f54) ⟨Tryz.func54, rfl, rfl⟩ rfl (by simp [hl, hb0, hx]) (by simp) (by simp [hl, hb0, hx]) (l43Named_d x.fEquations[k0].fA (by omega)) rfl ?_; simp [hl, hb0, hx]
    refine DL.call [] _ _ _ rfl rfl (by simp) (g := 53) (caps := []) (by simp) (by simp) (fn := Tryz.f53) ⟨Tryz.func53, rfl, rfl⟩ rfl (by simp [hl, hb0, hx]) (by simp) (by simp [hl, hb0, hx]) (sFmtT_d (nmd x.fEquations[k0].fA) (by omega)) rfl ?_; simp [hl, hb0, hx]
    iterate 7 (refine DL.op [] rfl (by simp [hl, hb0, hx] <;> omega) rfl ?_; simp [hl, hb0, hx])
    refine DL.call [] _ _ _ rfl rfl (by simp) (g := 54) (caps := []) (by simp) (by simp) (fn := Tryz.f54) ⟨Tryz.func54, rfl, rfl⟩ rfl (by simp [hl, hb0, hx]) (by simp) (by simp [hl, hb0, hx]) (l43Named_d x.fEquations[k0].fB (by omega)) rfl ?_; simp [hl, hb0, hx]
    refine DL.call [] _ _ _ rfl rfl (by simp) (g := 53) (caps := []) (by simp) (by simp) (fn := Tryz.f53) ⟨Tryz.func53, rfl, rfl⟩ rfl (by simp [hl, hb0, hx]) (by simp) (by simp [hl, hb0, hx]) (sFmtT_d (nmd x.fEquations[k0].fB) (by omega)) rfl ?_; simp [hl, hb0, hx]
    iterate 4 (refine DL.op [] rfl (by simp [hl, hb0, hx] <;> omega) rfl ?_; simp [hl, hb0, hx])
    exact DL.nil rfl hK
    apply W.regS; intro _ K hK
    iterate 3 (refine WL.op [] rfl (by simp [hl, hb0, hx] <;> omega) rfl ?_; simp [hl, hb0, hx])
    exact WL.nil hK
    refine ⟨hb0, Wz.to rfl rfl rfl ?_⟩
    have hs := tk_snoc (f := eqD) hb0
    simp [eqT] at hs
    simp [hs]
  · have hkl : k0 = x.fEquations.length := by omega
    subst hkl
    simp only [tk_full]
    refine W.exit ?_
    refine W.seq ?_
    refine W.seq ?_
    apply W.regS; intro _ K hK
    refine WL.op [] rfl (by simp [hl] <;> omega) rfl ?_; simp [hl]
    exact WL.nil hK
    refine W.block ?_
    refine W.loopk [1] [1] (fun k1 => [(5, .d (.lf (.int .i64 (k1 : Int)))), (3, .d (.sl true .one (cK x k1)))]) (fun _ => []) x.fObligations.length rfl (by simp [cK_zero]) fun k1 hk1 T hT => ?_
    simp at hT; subst hT
    have hl := cK_len hk1
    refine W.seq ?_
    refine W.seq ?_
    apply W.regS; intro _ K hK
    iterate 5 (refine WL.op [] rfl (by simp [hl, hl] <;> omega) rfl ?_; simp [hl, hl])
    exact WL.nil hK
    refine W.condS _ rfl trivial (fun hb1 => ?_) fun hb1 => ?_ <;> try simp at hb1
    · have hx := ixNext hb1 (by omega)
      have he := szL_le TObligation.sz (List.getElem_mem hb1)
      have he2 := x.fObligations[k1].sz_eq
      have he3 := x.fObligations[k1].fGoal.sz_eq
      have hA := nmd_sz x.fObligations[k1].fGoal.fType
      have hG : (⟨x.fObligations[k1].fGoal.fTrait, nmd x.fObligations[k1].fGoal.fType⟩ : TBound).sz ≤ 1048576 := by rw [TBound.sz_eq]; simp only; omega
      refine W.skip ?_
      refine W.seq ?_
      refine W.block ?_
      apply W.regSD rfl; intro K hK
      refine DL.op [42] rfl (by simp [hl, hl, hb1, hx] <;> omega) rfl ?_; simp [hl, hl, hb1, hx]
      iterate 14 (refine DL.op [] rfl (by simp [hl, hl, hb1, hx] <;> omega) rfl ?_; simp [hl, hl, hb1, hx])
      refine DL.call [] _ _ _ rfl rfl (by simp) (g := 54) (caps := []) (by simp) (by simp) (fn := Tryz.f54) ⟨Tryz.func54, rfl, rfl⟩ rfl (by simp [hl, hl, hb1, hx]) (by simp) (by simp [hl, hl, hb1, hx]) (l43Named_d x.fObligations[k1].fGoal.fType (by omega)) rfl ?_; simp [hl, hl, hb1, hx]
      refine DL.op [] rfl (by simp [hl, hl, hb1, hx] <;> omega) rfl ?_; simp [hl, hl, hb1, hx]
      refine DL.call [] _ _ _ rfl rfl (by simp) (g := 55) (caps := []) (by simp) (by simp) (fn := Tryz.f55) ⟨Tryz.func55, rfl, rfl⟩ rfl (by simp [hl, hl, hb1, hx]) (by simp) (by simp [hl, hl, hb1, hx]) (sFmtG_d ⟨x.fObligations[k1].fGoal.fTrait, nmd x.fObligations[k1].fGoal.fType⟩ hG) rfl ?_; simp [hl, hl, hb1, hx]
      iterate 3 (refine DL.op [] rfl (by simp [hl, hl, hb1, hx] <;> omega) rfl ?_; simp [hl, hl, hb1, hx])
      exact DL.nil rfl hK
      apply W.regS; intro _ K hK
      iterate 3 (refine WL.op [] rfl (by simp [hl, hl, hb1, hx] <;> omega) rfl ?_; simp [hl, hl, hb1, hx])
      exact WL.nil hK
      refine ⟨hb1, Wz.to rfl rfl rfl ?_⟩
      have hs := cK_snoc hb1
      simp [obT] at hs
      simp [hs]
    · have hkl : k1 = x.fObligations.length := by omega
      subst hkl
      have hres := cK_full x
      refine W.exit ?_
      refine W.seq ?_
      apply W.regS; intro _ K hK
      refine WL.op [62] rfl (by simp [hl, hl] <;> omega) rfl ?_; simp [hl, hl]
      refine WL.op [] rfl (by simp [hl, hl] <;> omega) rfl ?_; simp [hl, hl]
      exact WL.nil hK
      refine W.ret ⟨.inr rfl, ⟨_, rfl⟩, ?_⟩
      simp [Tryz.f16, hres]
end Go.Proofs.YtkmiecgcibjkbaaGreat
