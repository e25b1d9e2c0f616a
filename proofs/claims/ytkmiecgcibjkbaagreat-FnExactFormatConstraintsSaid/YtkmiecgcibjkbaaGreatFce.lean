/- Walks by the Den rules. No condition but sizes. -/
import Derived.Test.YtkmiecgcibjkbaaGreatFcb
import Derived.Test.YtkmiecgcibjkbaaGreatFcc
import Derived.Test.YtkmiecgcibjkbaaGreatFca
import Derived.Test.YtkmiecgcibjkbaaGreatFcd
namespace Go.Proofs.YtkmiecgcibjkbaaGreat
open Go.RowKit
set_option maxRecDepth 10000
set_option linter.unusedSimpArgs false
set_option maxHeartbeats 4000000
theorem tl_len (s : ByteArray) : s.toList.length = s.size := by rw [Go.ByteArray.toList_eq]; simp
theorem nil_size {s : ByteArray} (h : 1 ≤ s.size) : ¬ s.toList = [] := fun q => by have := tl_len s; rw [q] at this; simp at this; omega
theorem allB_at {n k : Nat} {p : Nat → Bool} (h : allB n p = true) (hk : k < n) : p k = true := (List.all_eq_true.1 h) k (by simpa using hk)
theorem bt_q0 (s : ByteArray) : bt (⟨#[39]⟩ ++ s) 0 = 39 := by unfold bt; rw [ByteArray.data_append]; simp [Array.getD_eq_getD_getElem?, Array.getElem?_append]
theorem bt_qs (s : ByteArray) (k : Nat) : bt (⟨#[39]⟩ ++ s) (k + 1) = bt s k := by unfold bt; rw [ByteArray.data_append]; simp [Array.getD_eq_getD_getElem?, Array.getElem?_append]
theorem at_nm {s : ByteArray} (h : isNm s = true) : (isAt s = true ∧ isAt (⟨#[39]⟩ ++ s) = true) ∧ 1 ≤ s.size ∧ s.size ≤ 8 := by
  unfold isNm at h
  simp only [Bool.and_eq_true] at h
  obtain ⟨⟨h1, h2⟩, -⟩ := h
  have hs : 1 ≤ s.size ∧ s.size ≤ 8 := by unfold within at h2; simp at h2; omega
  have ha : ∀ k, k < s.size → atB (bt s k) = true := fun k hk => by
    have := allB_at h1 hk
    unfold nameAt at this
    unfold atB
    simp at this
    rcases this with q | ⟨-, q⟩ <;> simp [q]
  refine ⟨⟨?_, ?_⟩, hs⟩
  · unfold isAt
    rw [allB_true (p := fun i => atB (bt s i)) ha]
    unfold within; simp; omega
  · unfold isAt
    have e : (⟨#[39]⟩ ++ s : ByteArray).size = s.size + 1 := by rw [ByteArray.size_append]; simp; omega
    rw [allB_true (p := fun i => atB (bt (⟨#[39]⟩ ++ s) i)) (fun k hk => ?_)]
    · unfold within; rw [e]; simp; omega
    · cases k with
      | zero => simp only [bt_q0]; decide
      | succ k => simp only [bt_qs]; exact ha k (by omega)
theorem at_base {s : ByteArray} (h : base s = true) : isAt s = true ∧ 1 ≤ s.size ∧ s.size ≤ 8 := by
  have h2 : s.toList = [105, 110, 116] ∨ s.toList = [98, 111, 111, 108] := by unfold base at h; simpa using h
  have : s = ⟨#[105, 110, 116]⟩ ∨ s = ⟨#[98, 111, 111, 108]⟩ := h2.imp (fun q => ba_ext (by rw [q, Go.ByteArray.toList_eq])) (fun q => ba_ext (by rw [q, Go.ByteArray.toList_eq]))
  rcases this with rfl | rfl <;> decide
mutual
def encT : TType → TSExpr
  | ⟨k, n, l⟩ => if k = 1 then ⟨⟨#[39]⟩ ++ n, []⟩ else if k = 4 then ⟨⟨#[]⟩, [⟨⟨#[100, 121, 110]⟩, []⟩, ⟨n, []⟩]⟩ else if k = 3 then ⟨⟨#[]⟩, ⟨⟨#[97, 115, 115, 111, 99]⟩, []⟩ :: ⟨n, []⟩ :: encTs l⟩ else if l = [] then ⟨n, []⟩ else ⟨⟨#[]⟩, ⟨n, []⟩ :: encTs l⟩
def encTs : List TType → List TSExpr
  | [] => []
  | x :: l => encT x :: encTs l
end
theorem encTs_eq : ∀ l : List TType, encTs l = l.map encT
  | [] => rfl
  | x :: l => by simp only [encTs, encTs_eq l, List.map_cons]
theorem isAt_dyn : isAt ⟨#[100, 121, 110]⟩ = true := by decide
theorem isAt_assoc : isAt ⟨#[97, 115, 115, 111, 99]⟩ = true := by decide
theorem tlE : (⟨#[]⟩ : ByteArray).toList = [] := by rw [Go.ByteArray.toList_eq]
mutual
theorem enc_ok : ∀ x : TType, tForm x = true → eForm (encT x) = true ∧ eDepth (encT x) ≤ tDepth x + 1 ∧ eSize (encT x) ≤ 3 * tSize x ∧ (encT x).sz + 1 ≤ 20 * tSize x
  | ⟨k, n, l⟩, h => by
    simp only [tForm, Bool.and_eq_true] at h
    obtain ⟨h1, h2⟩ := h
    obtain ⟨g1, g2, g3, g4⟩ := encs_ok l h2
    have nd := nil_size (s := ⟨#[100, 121, 110]⟩) (by decide)
    have na := nil_size (s := ⟨#[97, 115, 115, 111, 99]⟩) (by decide)
    unfold hdOk at h1
    by_cases k1 : k = 1
    · subst k1
      simp at h1
      obtain ⟨h1, rfl⟩ := h1
      obtain ⟨⟨-, a2⟩, a3, a4⟩ := at_nm h1
      have e : (⟨#[39]⟩ ++ n : ByteArray).size = n.size + 1 := by rw [ByteArray.size_append]; simp; omega
      have ne := nil_size (s := ⟨#[39]⟩ ++ n) (by omega)
      simp [encT, eForm, eDepth, eSize, eSizes, tSize, tSizes, TSExpr.sz, TSExpr.szLs, a2, ne]; omega
    by_cases k4 : k = 4
    · subst k4
      simp at h1
      obtain ⟨h1, rfl⟩ := h1
      obtain ⟨⟨a1, -⟩, a3, a4⟩ := at_nm h1
      have ne := nil_size a3
      simp [encT, eForm, eForms, eDepth, eDepths, eSize, eSizes, tDepth, tDepths, tSize, tSizes, TSExpr.sz, TSExpr.szLs, a1, ne, nd, tlE, isAt_dyn]; omega
    by_cases k3 : k = 3
    · subst k3
      simp at h1
      obtain ⟨h1, hl⟩ := h1
      obtain ⟨⟨a1, -⟩, a3, a4⟩ := at_nm h1
      have ne := nil_size a3
      simp [encT, eForm, eForms, eDepth, eDepths, eSize, eSizes, tDepth, tSize, TSExpr.sz, TSExpr.szLs, a1, ne, na, tlE, isAt_assoc, g1]; omega
    by_cases k2 : k = 2
    · subst k2
      have hn : (isAt n = true ∧ 1 ≤ n.size ∧ n.size ≤ 8) := by
        simp at h1
        rcases h1 with q | q
        · have := at_nm q.1; exact ⟨this.1.1, this.2⟩
        · exact at_base q.1
      obtain ⟨a1, a3, a4⟩ := hn
      have ne := nil_size a3
      by_cases hl : l = []
      · subst hl
        simp [encT, eForm, eDepth, eSize, eSizes, tSize, tSizes, TSExpr.sz, TSExpr.szLs, a1, ne]; omega
      · simp [encT, eForm, eForms, eDepth, eDepths, eSize, eSizes, tDepth, tSize, TSExpr.sz, TSExpr.szLs, a1, ne, tlE, hl, g1]; omega
    · simp [k1, k2, k3, k4] at h1
theorem encs_ok : ∀ l : List TType, tForms l = true → eForms (encTs l) = true ∧ eDepths (encTs l) ≤ tDepths l ∧ eSizes (encTs l) ≤ 3 * tSizes l ∧ TSExpr.szLs (encTs l) + (encTs l).length ≤ 20 * tSizes l
  | [], _ => by simp [encTs, eForms, eDepths, eSizes, TSExpr.szLs]
  | x :: l, h => by
    simp only [tForms, Bool.and_eq_true] at h
    obtain ⟨a1, a2, a3, a4⟩ := enc_ok x h.1
    obtain ⟨g1, g2, g3, g4⟩ := encs_ok l h.2
    simp only [encTs, eForms, eDepths, eSizes, TSExpr.szLs, tDepths, tSizes, a1, g1, List.length_cons]
    refine ⟨rfl, ?_, ?_, ?_⟩ <;> omega
end
theorem enc_valid {x : TType} (h : tValid x = true) : eValid (encT x) = true ∧ (encT x).sz ≤ 1200 := by
  unfold tValid at h
  simp at h
  obtain ⟨a1, a2, a3, a4⟩ := enc_ok x h.1.1
  unfold eValid
  simp [a1]
  omega
def joinK (b : ByteArray) (l : List ByteArray) : Nat → ByteArray
  | 0 => ⟨#[]⟩
  | k + 1 => joinK b l k ++ (if 0 < k then b else ⟨#[]⟩) ++ l.getD k ⟨#[]⟩
def joinS (b : ByteArray) (l : List ByteArray) : ByteArray := joinK b l l.length
theorem szL_snoc {α : Type} (g : α → Nat) (x : α) : ∀ l : List α, szL g (l ++ [x]) = szL g l + g x
  | [] => by simp [szL]
  | y :: l => by simp only [List.cons_append, szL, szL_snoc g x l]; omega
mutual
def eText : TSExpr → ByteArray
  | ⟨a, l⟩ => if a.toList = [] then ⟨#[40]⟩ ++ joinS ⟨#[32]⟩ (eTexts l) ++ ⟨#[41]⟩ else a
def eTexts : List TSExpr → List ByteArray
  | [] => []
  | x :: l => eText x :: eTexts l
end
theorem eTexts_eq : ∀ l : List TSExpr, eTexts l = l.map eText
  | [] => rfl
  | x :: l => by simp only [eTexts, eTexts_eq l, List.map_cons]
theorem eText_atom {x : TSExpr} (h : ¬ x.fAtom.toList = []) : eText x = x.fAtom := by cases x; simp only [eText]; exact if_neg h
theorem eText_list {x : TSExpr} (h : x.fAtom.toList = []) : eText x = ⟨#[40]⟩ ++ joinS ⟨#[32]⟩ (x.fList.map eText) ++ ⟨#[41]⟩ := by rw [← eTexts_eq]; cases x; simp only [eText]; exact if_pos h
theorem joinK_size (b : ByteArray) (l : List ByteArray) : ∀ k, k ≤ l.length → (joinK b l k).size ≤ szL ByteArray.size (l.take k) + k * b.size
  | 0, _ => by simp [joinK]
  | k + 1, h => by
    have h1 := joinK_size b l k (by omega)
    have h2 : l.getD k ⟨#[]⟩ = l[k] := by simp [List.getD_eq_getElem?_getD, List.getElem?_eq_getElem (show k < l.length by omega)]
    have h3 : szL ByteArray.size (l.take (k + 1)) = szL ByteArray.size (l.take k) + l[k].size := by
      rw [List.take_succ_eq_append_getElem (by omega), szL_snoc]
    have h4 : (if 0 < k then b else (⟨#[]⟩ : ByteArray)).size ≤ b.size := by split <;> simp
    simp only [joinK, ByteArray.size_append, h2, h3, Nat.add_mul]
    omega
theorem joinS_size (b : ByteArray) (l : List ByteArray) : (joinS b l).size ≤ szL ByteArray.size l + l.length * b.size := by
  have := joinK_size b l l.length (Nat.le_refl _)
  rwa [List.take_length] at this
mutual
theorem eText_size : ∀ x : TSExpr, (eText x).size ≤ 2 + 3 * x.sz
  | ⟨a, l⟩ => by
    have h1 := eTexts_size l
    have h2 := joinS_size ⟨#[32]⟩ (eTexts l)
    have h3 : (eTexts l).length = l.length := by rw [eTexts_eq, List.length_map]
    have h4 : (⟨#[32]⟩ : ByteArray).size = 1 := rfl
    rw [h3, h4, Nat.mul_one] at h2
    have h5 : (⟨#[40]⟩ : ByteArray).size = 1 := rfl
    have h6 : (⟨#[41]⟩ : ByteArray).size = 1 := rfl
    simp only [eText, TSExpr.sz]
    split
    · simp only [ByteArray.size_append]; omega
    · omega
theorem eTexts_size : ∀ l : List TSExpr, szL ByteArray.size (eTexts l) ≤ 2 * l.length + 3 * TSExpr.szLs l
  | [] => by simp [eTexts, szL]
  | x :: l => by
    have h1 := eText_size x
    have h2 := eTexts_size l
    simp only [eTexts, szL, TSExpr.szLs, List.length_cons]; omega
end
end Go.Proofs.YtkmiecgcibjkbaaGreat
namespace Go.Proofs.YtkmiecgcibjkbaaGreat
open Go.RowKit
set_option maxRecDepth 10000
set_option linter.unusedSimpArgs false
set_option maxHeartbeats 4000000
def encD (x : TType) : DD := (encT x).dd true
theorem encD_eq (x : TType) : encD x = (encT x).dd true := rfl
attribute [simp] encD_eq
theorem enc_1 {x : TType} (h : x.fKind = 1) : encT x = ⟨⟨#[39]⟩ ++ x.fName, []⟩ := by cases x; simp only [encT]; exact if_pos h
theorem enc_4 {x : TType} (h : x.fKind = 4) : encT x = ⟨⟨#[]⟩, [⟨⟨#[100, 121, 110]⟩, []⟩, ⟨x.fName, []⟩]⟩ := by
  cases x; simp only at h; subst h; simp only [encT]; rfl
theorem enc_3 {x : TType} (h : x.fKind = 3) : encT x = ⟨⟨#[]⟩, ⟨⟨#[97, 115, 115, 111, 99]⟩, []⟩ :: ⟨x.fName, []⟩ :: x.fArgs.map encT⟩ := by
  rw [← encTs_eq]; cases x; simp only at h; subst h; simp only [encT]; rfl
theorem enc_n {x : TType} (h1 : ¬ x.fKind = 1) (h4 : ¬ x.fKind = 4) (h3 : ¬ x.fKind = 3) (h : x.fArgs = []) : encT x = ⟨x.fName, []⟩ := by
  cases x; simp only at h h1 h4 h3; simp only [encT, if_neg h1, if_neg h4, if_neg h3, if_pos h]
theorem enc_a {x : TType} (h1 : ¬ x.fKind = 1) (h4 : ¬ x.fKind = 4) (h3 : ¬ x.fKind = 3) (h : ¬ x.fArgs = []) : encT x = ⟨⟨#[]⟩, ⟨x.fName, []⟩ :: x.fArgs.map encT⟩ := by
  rw [← encTs_eq]; cases x; simp only at h h1 h4 h3; simp only [encT, if_neg h1, if_neg h4, if_neg h3, if_neg h]
theorem form_one {x : TType} (hf : tForm x = true) (h : x.fKind = 3) : x.fArgs.length = 1 := by
  obtain ⟨k, n, l⟩ := x
  simp only at h; subst h
  simp [tForm, hdOk] at hf
  exact hf.1.2
theorem form_enc3 {x : TType} (hf : tForm x = true) (h : x.fKind = 3) (h0 : 0 < x.fArgs.length) : encT x = ⟨⟨#[]⟩, [⟨⟨#[97, 115, 115, 111, 99]⟩, []⟩, ⟨x.fName, []⟩, encT x.fArgs[0]]⟩ := by
  have h1 := form_one hf h
  rw [enc_3 h]
  obtain ⟨k, n, l⟩ := x
  match l, h1 with
  | [y], _ => rfl
theorem form_args {x : TType} (hf : tForm x = true) : ∀ y ∈ x.fArgs, tForm y = true := by
  intro y hy
  have h := tForm_any x
  rw [hf] at h
  have h2 : (x.fArgs.any fun y => !tForm y) = false := by
    cases q : x.fArgs.any fun y => !tForm y with
    | false => rfl
    | true => rw [q] at h; simp at h
  have := List.any_eq_false.1 h2 y hy
  simpa using this
def encP (x : TType) : List TSExpr := if x.fKind = 3 then [⟨⟨#[97, 115, 115, 111, 99]⟩, []⟩] else []
def l5p (x : TType) : List DD := (encP x).map (TSExpr.dd true)
def l5k (x : TType) (k : Nat) : List DD := l5p x ++ [TSExpr.dd true ⟨x.fName, []⟩] ++ tk encD x.fArgs k
theorem l5p_len (x : TType) : (l5p x).length ≤ 1 := by unfold l5p encP; split <;> simp
theorem l5k_zero (x : TType) : l5p x ++ [TSExpr.dd true ⟨x.fName, []⟩] = l5k x 0 := by unfold l5k; rw [tk_zero, List.append_nil]
theorem l5k_snoc {x : TType} {k : Nat} (h : k < x.fArgs.length) : l5k x k ++ [(encT x.fArgs[k]).dd true] = l5k x (k + 1) := by unfold l5k; rw [List.append_assoc, ← encD_eq, tk_snoc h]
theorem l5k_len {x : TType} {k : Nat} (h : k ≤ x.fArgs.length) : (l5k x k).length ≤ k + 2 := by
  have := l5p_len x
  unfold l5k; rw [List.length_append, List.length_append, tk_len h]; simp; omega
theorem l5k_full {x : TType} (hf : tForm x = true) (h1 : ¬ x.fKind = 1) (h4 : ¬ x.fKind = 4) (h2 : x.fKind = 2 → ¬ x.fArgs = []) : encT x = ⟨⟨#[]⟩, encP x ++ [⟨x.fName, []⟩] ++ x.fArgs.map encT⟩ := by
  by_cases h3 : x.fKind = 3
  · rw [enc_3 h3]; simp [encP, h3]
  · have hk : x.fKind = 2 := by
      obtain ⟨k, n, l⟩ := x
      simp only at h1 h4 h3 ⊢
      simp [tForm, hdOk, h1, h4, h3] at hf
      exact hf.1.1
    rw [enc_a h1 h4 h3 (h2 hk)]; simp [encP, h3]
theorem l5k_dd (x : TType) : l5k x x.fArgs.length = (encP x ++ [(⟨x.fName, []⟩ : TSExpr)] ++ x.fArgs.map encT).map (TSExpr.dd true) := by
  unfold l5k l5p; rw [tk_full, List.map_append, List.map_append, List.map_map]; rfl
theorem l5p_yes {x : TType} (h : x.fKind = 3) : l5p x = [TSExpr.dd true ⟨⟨#[97, 115, 115, 111, 99]⟩, []⟩] := by unfold l5p encP; rw [if_pos h]; rfl
theorem l5p_no {x : TType} (h : ¬ x.fKind = 3) : l5p x = [] := by unfold l5p encP; rw [if_neg h]; rfl
theorem encodeTypes_a (l : List TType) (hz : l.length ≤ 1048576) (hc : ∀ y ∈ l, ∀ h, CS cx.P 123 [.d (y.dd false)] h (.d ((encT y).dd true)) h) (h : HP) : CS cx.P 186 [.d (.sl false sh88 (l.map (TType.dd false)))] h (.d (.sl true sh202 (l.map encD))) h := by
  refine CS.run (fn := Tryz.f186) ⟨Tryz.func186, rfl, rfl⟩ _ _ _ _ 20 rfl (by simp) ?_
  refine W.seq ?_
  apply W.regS; intro _ K hK
  refine WL.op [] rfl (by simp <;> omega) rfl ?_; simp
  exact WL.nil hK
  refine W.seq ?_
  apply W.regS; intro _ K hK
  iterate 2 (refine WL.op [] rfl (by simp <;> omega) rfl ?_; simp)
  exact WL.nil hK
  refine W.seq ?_
  refine W.seq ?_
  apply W.regS; intro _ K hK
  iterate 3 (refine WL.op [] rfl (by simp <;> omega) rfl ?_; simp)
  exact WL.nil hK
  refine W.block ?_
  refine W.loopk [7, 8] [] (fun k0 => [(9, .d (.lf (.int .i64 (k0 : Int)))), (3, .d (.sl true sh202 (tk encD l k0)))]) (fun _ => []) l.length rfl (by simp) fun k0 hk0 T hT => ?_
  simp at hT; subst hT
  have hl := tk_len (f := encD) hk0
  refine W.seq ?_
  apply W.regS; intro _ K hK
  refine WL.op [] rfl (by simp [hl] <;> omega) rfl ?_; simp [hl]
  exact WL.nil hK
  refine W.seq ?_
  refine W.condS _ rfl trivial (fun hb0 => ?_) fun hb0 => ?_ <;> try simp at hb0
  · have hx := ixNext hb0 (by omega)
    refine W.skip ?_
    refine W.seq ?_
    refine W.block ?_
    refine W.seq ?_
    apply W.regS; intro _ K hK
    refine WL.op [] rfl (by simp [hl, hb0, hx] <;> omega) rfl ?_; simp [hl, hb0, hx]
    refine WL.op [12] rfl (by simp [hl, hb0, hx] <;> omega) rfl ?_; simp [hl, hb0, hx]
    iterate 2 (refine WL.op [] rfl (by simp [hl, hb0, hx] <;> omega) rfl ?_; simp [hl, hb0, hx])
    exact WL.nil hK
    apply W.regS; intro _ K hK
    refine WL.op [13] rfl (by simp [hl, hb0, hx] <;> omega) rfl ?_; simp [hl, hb0, hx]
    refine WL.op [] rfl (by simp [hl, hb0, hx] <;> omega) rfl ?_; simp [hl, hb0, hx]
    refine WL.call [] _ _ _ rfl rfl (by simp) (g := 123) (caps := []) (by simp) (by simp) (fn := Tryz.f123) ⟨Tryz.func123, rfl, rfl⟩ rfl (by simp [hl, hb0, hx]) (by simp) (by simp [hl, hb0, hx]) (hc l[k0] (List.getElem_mem hb0) _) rfl ?_; simp [hl, hb0, hx]
    iterate 3 (refine WL.op [] rfl (by simp [hl, hb0, hx] <;> omega) rfl ?_; simp [hl, hb0, hx])
    exact WL.nil hK
    apply W.regS; intro _ K hK
    iterate 2 (refine WL.op [] rfl (by simp [hl, hb0, hx] <;> omega) rfl ?_; simp [hl, hb0, hx])
    exact WL.nil hK
    refine ⟨hb0, Wz.to rfl rfl rfl ?_⟩
    have hs := tk_snoc (f := encD) hb0
    simp at hs
    simp [hs]
  · have hkl : k0 = l.length := by omega
    subst hkl
    simp only [tk_full]
    refine W.exit ?_
    refine W.seq ?_
    apply W.regS; intro _ K hK
    refine WL.op [19] rfl (by simp [hl] <;> omega) rfl ?_; simp [hl]
    refine WL.op [] rfl (by simp [hl] <;> omega) rfl ?_; simp [hl]
    exact WL.nil hK
    refine W.ret ⟨.inr rfl, ⟨_, rfl⟩, ?_⟩
    simp [Tryz.f186]
theorem encodeType_a (x : TType) (hz : x.sz ≤ 1048576) (hf : tForm x = true) (hc : ∀ y ∈ x.fArgs, ∀ h, CS cx.P 123 [.d (y.dd false)] h (.d ((encT y).dd true)) h) (h : HP) : CS cx.P 123 [.d (x.dd false)] h (.d ((encT x).dd true)) h := by
  have hz2 := x.sz_eq; unfold szs at hz2
  refine CS.run (fn := Tryz.f123) ⟨Tryz.func123, rfl, rfl⟩ _ _ _ _ 48 rfl (by simp) ?_
  refine W.seq ?_
  apply W.regS; intro _ K hK
  iterate 2 (refine WL.op [] rfl (by simp <;> omega) rfl ?_; simp)
  exact WL.nil hK
  refine W.seq ?_
  refine W.seq ?_
  apply W.regS; intro _ K hK
  iterate 2 (refine WL.op [] rfl (by simp <;> omega) rfl ?_; simp)
  exact WL.nil hK
  refine W.block ?_
  refine W.seq ?_
  apply W.regS; intro _ K hK
  iterate 2 (refine WL.op [] rfl (by simp <;> omega) rfl ?_; simp)
  exact WL.nil hK
  refine W.condS _ rfl trivial (fun hb0 => ?_) fun hb0 => ?_ <;> try simp at hb0
  · have hres := enc_1 hb0
    refine W.seq ?_
    apply W.regS; intro _ K hK
    iterate 3 (refine WL.op [] rfl (by simp <;> omega) rfl ?_; simp)
    refine WL.call [] _ _ _ rfl rfl (by simp) (g := 127) (caps := []) (by simp) (by simp) (fn := Tryz.f127) ⟨Tryz.func127, rfl, rfl⟩ rfl (by simp) (by simp) (by simp) (iAt_d (⟨#[39]⟩ ++ x.fName) _) rfl ?_; simp
    refine WL.op [] rfl (by simp <;> omega) rfl ?_; simp
    exact WL.nil hK
    refine W.ret ⟨.inr rfl, ⟨_, rfl⟩, ?_⟩
    simp [Tryz.f123, hres]
  · refine W.seq ?_
    apply W.regS; intro _ K hK
    iterate 2 (refine WL.op [] rfl (by simp <;> omega) rfl ?_; simp)
    exact WL.nil hK
    refine W.condS _ rfl trivial (fun hb1 => ?_) fun hb1 => ?_ <;> try simp at hb1
    · have hres := enc_4 hb1
      refine W.seq ?_
      apply W.regSD rfl; intro K hK
      refine DL.call [] _ _ _ rfl rfl (by simp) (g := 127) (caps := []) (by simp) (by simp) (fn := Tryz.f127) ⟨Tryz.func127, rfl, rfl⟩ rfl (by simp) (by simp) (by simp) (iAt_d ⟨#[100, 121, 110]⟩) rfl ?_; simp
      iterate 2 (refine DL.op [] rfl (by simp <;> omega) rfl ?_; simp)
      refine DL.call [] _ _ _ rfl rfl (by simp) (g := 127) (caps := []) (by simp) (by simp) (fn := Tryz.f127) ⟨Tryz.func127, rfl, rfl⟩ rfl (by simp) (by simp) (by simp) (iAt_d x.fName) rfl ?_; simp
      refine DL.op [] rfl (by simp <;> omega) rfl ?_; simp
      refine DL.call [17] _ _ _ rfl rfl (by simp) (g := 126) (caps := []) (by simp) (by simp) (fn := Tryz.f126) ⟨Tryz.func126, rfl, rfl⟩ rfl (by simp) (by simp) (by simp) (iList_d [⟨⟨#[100, 121, 110]⟩, []⟩, ⟨x.fName, []⟩]) rfl ?_; simp
      refine DL.op [] rfl (by simp <;> omega) rfl ?_; simp
      exact DL.nil rfl hK
      refine W.ret ⟨.inr rfl, ⟨_, rfl⟩, ?_⟩
      simp [Tryz.f123, hres]
    · refine W.seq ?_
      apply W.regS; intro _ K hK
      iterate 2 (refine WL.op [] rfl (by simp <;> omega) rfl ?_; simp)
      exact WL.nil hK
      refine W.condS _ rfl trivial (fun hb2 => ?_) fun hb2 => ?_ <;> try simp at hb2
      · have h1 := form_one hf hb2
        have h0 : 0 < x.fArgs.length := by omega
        have hres := form_enc3 hf hb2 h0
        refine W.seq ?_
        apply W.regSD rfl; intro K hK
        refine DL.call [] _ _ _ rfl rfl (by simp) (g := 127) (caps := []) (by simp) (by simp) (fn := Tryz.f127) ⟨Tryz.func127, rfl, rfl⟩ rfl (by simp [h1]) (by simp) (by simp [h1]) (iAt_d ⟨#[97, 115, 115, 111, 99]⟩) rfl ?_; simp [h1]
        iterate 2 (refine DL.op [] rfl (by simp [h1] <;> omega) rfl ?_; simp [h1])
        refine DL.call [] _ _ _ rfl rfl (by simp) (g := 127) (caps := []) (by simp) (by simp) (fn := Tryz.f127) ⟨Tryz.func127, rfl, rfl⟩ rfl (by simp [h1]) (by simp) (by simp [h1]) (iAt_d x.fName) rfl ?_; simp [h1]
        iterate 4 (refine DL.op [] rfl (by simp [h1] <;> omega) rfl ?_; simp [h1])
        refine DL.call [] _ _ _ rfl rfl (by simp) (g := 123) (caps := []) (by simp) (by simp) (fn := Tryz.f123) ⟨Tryz.func123, rfl, rfl⟩ rfl (by simp [h1]) (by simp) (by simp [h1]) (hc x.fArgs[0] (List.getElem_mem h0)) rfl ?_; simp [h1]
        refine DL.op [] rfl (by simp [h1] <;> omega) rfl ?_; simp [h1]
        refine DL.call [30] _ _ _ rfl rfl (by simp) (g := 126) (caps := []) (by simp) (by simp) (fn := Tryz.f126) ⟨Tryz.func126, rfl, rfl⟩ rfl (by simp [h1]) (by simp) (by simp [h1]) (iList_d [⟨⟨#[97, 115, 115, 111, 99]⟩, []⟩, ⟨x.fName, []⟩, encT x.fArgs[0]]) rfl ?_; simp [h1]
        refine DL.op [] rfl (by simp [h1] <;> omega) rfl ?_; simp [h1]
        exact DL.nil rfl hK
        refine W.ret ⟨.inr rfl, ⟨_, rfl⟩, ?_⟩
        simp [Tryz.f123, hres]
      · refine W.skip ?_
        refine W.seq ?_
        refine W.seq ?_
        apply W.regS; intro _ K hK
        iterate 4 (refine WL.op [] rfl (by simp <;> omega) rfl ?_; simp)
        exact WL.nil hK
        refine W.condS _ rfl trivial (fun hb3 => ?_) fun hb3 => ?_ <;> try simp at hb3
        · have hres := enc_n hb0 hb1 hb2 hb3
          refine W.seq ?_
          apply W.regS; intro _ K hK
          iterate 2 (refine WL.op [] rfl (by simp <;> omega) rfl ?_; simp)
          refine WL.call [] _ _ _ rfl rfl (by simp) (g := 127) (caps := []) (by simp) (by simp) (fn := Tryz.f127) ⟨Tryz.func127, rfl, rfl⟩ rfl (by simp) (by simp) (by simp) (iAt_d x.fName _) rfl ?_; simp
          refine WL.op [] rfl (by simp <;> omega) rfl ?_; simp
          exact WL.nil hK
          refine W.ret ⟨.inr rfl, ⟨_, rfl⟩, ?_⟩
          simp [Tryz.f123, hres]
        · have hres := enc_a hb0 hb1 hb2 hb3
          refine W.skip ?_
          refine W.seq ?_
          apply W.regSD rfl; intro K hK
          iterate 2 (refine DL.op [] rfl (by simp <;> omega) rfl ?_; simp)
          refine DL.call [] _ _ _ rfl rfl (by simp) (g := 127) (caps := []) (by simp) (by simp) (fn := Tryz.f127) ⟨Tryz.func127, rfl, rfl⟩ rfl (by simp) (by simp) (by simp) (iAt_d x.fName) rfl ?_; simp
          iterate 3 (refine DL.op [] rfl (by simp <;> omega) rfl ?_; simp)
          refine DL.call [] _ _ _ rfl rfl (by simp) (g := 186) (caps := []) (by simp) (by simp) (fn := Tryz.f186) ⟨Tryz.func186, rfl, rfl⟩ rfl (by simp) (by simp) (by simp) (encodeTypes_a x.fArgs (by omega) hc) rfl ?_; simp
          refine DL.op [] rfl (by simp <;> omega) rfl ?_; simp
          refine DL.call [46] _ _ _ rfl rfl (by simp) (g := 126) (caps := []) (by simp) (by simp) (fn := Tryz.f126) ⟨Tryz.func126, rfl, rfl⟩ rfl (by simp) (by simp) (by simp) (iList_d (⟨x.fName, []⟩ :: x.fArgs.map encT)) rfl ?_; simp
          refine DL.op [] rfl (by simp <;> omega) rfl ?_; simp
          exact DL.nil rfl hK
          refine W.ret ⟨.inr rfl, ⟨_, rfl⟩, ?_⟩
          simp [Tryz.f123, hres]
theorem l5Sx_a (x : TType) (hz : x.sz ≤ 1048576) (hf : tForm x = true) (hc : ∀ y ∈ x.fArgs, ∀ h, CS cx.P 114 [.d (y.dd false)] h (.d ((encT y).dd true)) h) (h : HP) : CS cx.P 114 [.d (x.dd false)] h (.d ((encT x).dd true)) h := by
  have hz2 := x.sz_eq; unfold szs at hz2
  have hp := l5p_len x
  have hq := l5k_zero x; simp at hq
  refine CS.run (fn := Tryz.f114) ⟨Tryz.func114, rfl, rfl⟩ _ _ _ _ 73 rfl (by simp) ?_
  refine W.seq ?_
  apply W.regS; intro _ K hK
  iterate 2 (refine WL.op [] rfl (by simp <;> omega) rfl ?_; simp)
  exact WL.nil hK
  refine W.seq ?_
  refine W.block ?_
  refine W.seq ?_
  apply W.regS; intro _ K hK
  iterate 4 (refine WL.op [] rfl (by simp <;> omega) rfl ?_; simp)
  exact WL.nil hK
  refine W.condS _ rfl trivial (fun hb0 => ?_) fun hb0 => ?_ <;> try simp at hb0
  · have hres := enc_1 hb0
    refine W.seq ?_
    apply W.regS; intro _ K hK
    iterate 3 (refine WL.op [] rfl (by simp <;> omega) rfl ?_; simp)
    refine WL.call [] _ _ _ rfl rfl (by simp) (g := 176) (caps := []) (by simp) (by simp) (fn := Tryz.f176) ⟨Tryz.func176, rfl, rfl⟩ rfl (by simp) (by simp) (by simp) (sAt_d (⟨#[39]⟩ ++ x.fName) _) rfl ?_; simp
    refine WL.op [] rfl (by simp <;> omega) rfl ?_; simp
    exact WL.nil hK
    refine W.ret ⟨.inr rfl, ⟨_, rfl⟩, ?_⟩
    simp [Tryz.f114, hres, hd]
  · refine W.seq ?_
    apply W.regS; intro _ K hK
    iterate 4 (refine WL.op [] rfl (by simp <;> omega) rfl ?_; simp)
    exact WL.nil hK
    refine W.condS _ rfl trivial (fun hb1 => ?_) fun hb1 => ?_ <;> try simp at hb1
    · have hres := enc_4 hb1
      refine W.seq ?_
      apply W.regSD rfl; intro K hK
      refine DL.call [] _ _ _ rfl rfl (by simp) (g := 176) (caps := []) (by simp) (by simp) (fn := Tryz.f176) ⟨Tryz.func176, rfl, rfl⟩ rfl (by simp) (by simp) (by simp) (sAt_d ⟨#[100, 121, 110]⟩) rfl ?_; simp
      iterate 2 (refine DL.op [] rfl (by simp <;> omega) rfl ?_; simp)
      refine DL.call [] _ _ _ rfl rfl (by simp) (g := 176) (caps := []) (by simp) (by simp) (fn := Tryz.f176) ⟨Tryz.func176, rfl, rfl⟩ rfl (by simp) (by simp) (by simp) (sAt_d x.fName) rfl ?_; simp
      refine DL.op [] rfl (by simp <;> omega) rfl ?_; simp
      refine DL.call [21] _ _ _ rfl rfl (by simp) (g := 177) (caps := []) (by simp) (by simp) (fn := Tryz.f177) ⟨Tryz.func177, rfl, rfl⟩ rfl (by simp) (by simp) (by simp) (sList_d [⟨⟨#[100, 121, 110]⟩, []⟩, ⟨x.fName, []⟩] (by simp)) rfl ?_; simp
      refine DL.op [] rfl (by simp <;> omega) rfl ?_; simp
      exact DL.nil rfl hK
      refine W.ret ⟨.inr rfl, ⟨_, rfl⟩, ?_⟩
      simp [Tryz.f114, hres, hd]
    · refine W.seq ?_
      refine W.regJ (D := [some 24, some 25, some 26, some 27, some 28, some 29, some 30, some 31, some 32, some 23]) [1, 2] [1, 2] [(23, .d (.lf (.bool (decide (x.fKind = 2) && decide (x.fArgs = [])))))] [] rfl (fun _ K hD hK => ?_) fun T hT => ?_
      iterate 4 (refine WL.op [] rfl (by simp <;> omega) rfl ?_; simp)
      refine WL.split 27 _ rfl (fun g27 => ?_) fun g27 => ?_ <;> try simp at g27
      · simp
        refine WL.opG [] hD 3 27 true rfl rfl (by simp) (by simp <;> omega) rfl ?_; simp
        refine WL.opG [] hD 3 27 true rfl rfl (by simp) (by simp <;> omega) rfl ?_; simp
        refine WL.opG [] hD 3 27 true rfl rfl (by simp) (by simp <;> omega) rfl ?_; simp
        refine WL.opG [] hD 3 27 true rfl rfl (by simp) (by simp <;> omega) rfl ?_; simp
        iterate 2 (refine WL.op [] rfl (by simp <;> omega) rfl ?_; simp)
        refine WL.nil (hK _ (Wz.to rfl rfl rfl ?_))
        simp [g27]
      · simp
        refine WL.no2 hD 3 27 true rfl rfl (by simp) (by simp) rfl ?_; simp
        refine WL.no2 hD 3 27 true rfl rfl (by simp) (by simp) rfl ?_; simp
        refine WL.no2 hD 3 27 true rfl rfl (by simp) (by simp) rfl ?_; simp
        refine WL.no2 hD 3 27 true rfl rfl (by simp) (by simp) rfl ?_; simp
        iterate 2 (refine WL.op [] rfl (by simp <;> omega) rfl ?_; simp)
        refine WL.nil (hK _ (Wz.to rfl rfl rfl ?_))
        simp [g27]
      simp at hT; subst hT
      refine W.condS _ rfl trivial (fun hb2 => ?_) fun hb2 => ?_ <;> try simp at hb2
      · have hres := enc_n hb0 hb1 (by omega) hb2.2
        refine W.seq ?_
        apply W.regS; intro _ K hK
        iterate 2 (refine WL.op [] rfl (by simp <;> omega) rfl ?_; simp)
        refine WL.call [] _ _ _ rfl rfl (by simp) (g := 176) (caps := []) (by simp) (by simp) (fn := Tryz.f176) ⟨Tryz.func176, rfl, rfl⟩ rfl (by simp) (by simp) (by simp) (sAt_d x.fName _) rfl ?_; simp
        refine WL.op [] rfl (by simp <;> omega) rfl ?_; simp
        exact WL.nil hK
        refine W.ret ⟨.inr rfl, ⟨_, rfl⟩, ?_⟩
        simp [Tryz.f114, hres, hd]
      · refine W.skip ?_
        refine W.seq ?_
        apply W.regS; intro _ K hK
        iterate 3 (refine WL.op [] rfl (by simp <;> omega) rfl ?_; simp)
        exact WL.nil hK
        refine W.seq ?_
        refine W.seq ?_
        apply W.regS; intro _ K hK
        iterate 3 (refine WL.op [] rfl (by simp <;> omega) rfl ?_; simp)
        exact WL.nil hK
        refine W.join [1, 2, 3] [1, 2] [] [(3, .d (.st [.lf (.string ⟨#[]⟩), .sl true sh202 (l5p x)]))] ?_ fun T hT => ?_
        · refine W.condS _ rfl trivial (fun hb3 => ?_) fun hb3 => ?_ <;> try simp at hb3
          · apply W.regSD rfl; intro K hK
            refine DL.op [] rfl (by simp <;> omega) rfl ?_; simp
            refine DL.op [41] rfl (by simp <;> omega) rfl ?_; simp
            refine DL.call [] _ _ _ rfl rfl (by simp) (g := 176) (caps := []) (by simp) (by simp) (fn := Tryz.f176) ⟨Tryz.func176, rfl, rfl⟩ rfl (by simp) (by simp) (by simp) (sAt_d ⟨#[97, 115, 115, 111, 99]⟩) rfl ?_; simp
            iterate 4 (refine DL.op [] rfl (by simp <;> omega) rfl ?_; simp)
            exact DL.nil rfl hK
            refine Wz.to rfl rfl rfl ?_
            simp [l5p_yes, l5p_no, hb0, hb1, hb2, hb3]
          · refine W.skip ?_
            refine Wz.to rfl rfl rfl ?_
            simp [l5p_yes, l5p_no, hb0, hb1, hb2, hb3]
        simp at hT; subst hT
        refine W.seq ?_
        apply W.regSD rfl; intro K hK
        refine DL.op [] rfl (by simp <;> omega) rfl ?_; simp
        refine DL.op [47] rfl (by simp <;> omega) rfl ?_; simp
        iterate 2 (refine DL.op [] rfl (by simp <;> omega) rfl ?_; simp)
        refine DL.call [] _ _ _ rfl rfl (by simp) (g := 176) (caps := []) (by simp) (by simp) (fn := Tryz.f176) ⟨Tryz.func176, rfl, rfl⟩ rfl (by simp) (by simp) (by simp) (sAt_d x.fName) rfl ?_; simp
        iterate 4 (refine DL.op [] rfl (by simp <;> omega) rfl ?_; simp)
        exact DL.nil rfl hK
        refine W.seq ?_
        refine W.seq ?_
        apply W.regS; intro _ K hK
        refine WL.op [] rfl (by simp <;> omega) rfl ?_; simp
        exact WL.nil hK
        refine W.block ?_
        refine W.loopk [1, 2, 3] [1, 2] (fun k0 => [(4, .d (.lf (.int .i64 (k0 : Int))))]) (fun k0 => [(3, .d (.st [.lf (.string ⟨#[]⟩), .sl true sh202 (l5k x k0)]))]) x.fArgs.length rfl (by simp [hq]) fun k0 hk0 T hT => ?_
        simp at hT; subst hT
        have hl := l5k_len hk0
        refine W.seq ?_
        refine W.seq ?_
        apply W.regS; intro _ K hK
        iterate 5 (refine WL.op [] rfl (by simp <;> omega) rfl ?_; simp)
        exact WL.nil hK
        refine W.condS _ rfl trivial (fun hb4 => ?_) fun hb4 => ?_ <;> try simp at hb4
        · have hx := ixNext hb4 (by omega)
          refine W.skip ?_
          refine W.seq ?_
          refine W.block ?_
          apply W.regSD rfl; intro K hK
          refine DL.op [] rfl (by simp [hb4, hx] <;> omega) rfl ?_; simp [hb4, hx]
          refine DL.op [62] rfl (by simp [hb4, hx] <;> omega) rfl ?_; simp [hb4, hx]
          iterate 5 (refine DL.op [] rfl (by simp [hb4, hx] <;> omega) rfl ?_; simp [hb4, hx])
          refine DL.call [] _ _ _ rfl rfl (by simp) (g := 114) (caps := []) (by simp) (by simp) (fn := Tryz.f114) ⟨Tryz.func114, rfl, rfl⟩ rfl (by simp [hb4, hx]) (by simp) (by simp [hb4, hx]) (hc x.fArgs[k0] (List.getElem_mem hb4)) rfl ?_; simp [hb4, hx]
          iterate 4 (refine DL.op [] rfl (by simp [hb4, hx] <;> omega) rfl ?_; simp [hb4, hx])
          exact DL.nil rfl hK
          apply W.regS; intro _ K hK
          iterate 3 (refine WL.op [] rfl (by simp [hb4, hx] <;> omega) rfl ?_; simp [hb4, hx])
          exact WL.nil hK
          refine ⟨hb4, Wz.to rfl rfl rfl ?_⟩
          have hs := l5k_snoc hb4
          simp at hs
          simp [hs]
        · have hkl : k0 = x.fArgs.length := by omega
          subst hkl
          have hres := l5k_full hf hb0 hb1 hb2
          have hd := l5k_dd x
          refine W.exit ?_
          refine W.seq ?_
          apply W.regS; intro _ K hK
          refine WL.op [72] rfl (by simp <;> omega) rfl ?_; simp
          refine WL.op [] rfl (by simp <;> omega) rfl ?_; simp
          exact WL.nil hK
          refine W.ret ⟨.inr rfl, ⟨_, rfl⟩, ?_⟩
          simp [Tryz.f114, hres, hd]
theorem encodeType_d (x : TType) (hz : x.sz ≤ 1048576) (hf : tForm x = true) (h : HP) : CS cx.P 123 [.d (x.dd false)] h (.d ((encT x).dd true)) h := encodeType_a x hz hf (fun y hy h => encodeType_d y (by have h1 := szL_le TType.sz hy; have h2 := x.sz_eq; unfold szs at h2; omega) (form_args hf y hy) h) h
termination_by SizeOf.sizeOf x
decreasing_by have := List.sizeOf_lt_of_mem hy; have := x.lt_fArgs; omega
theorem l5Sx_d (x : TType) (hz : x.sz ≤ 1048576) (hf : tForm x = true) (h : HP) : CS cx.P 114 [.d (x.dd false)] h (.d ((encT x).dd true)) h := l5Sx_a x hz hf (fun y hy h => l5Sx_d y (by have h1 := szL_le TType.sz hy; have h2 := x.sz_eq; unfold szs at h2; omega) (form_args hf y hy) h) h
termination_by SizeOf.sizeOf x
decreasing_by have := List.sizeOf_lt_of_mem hy; have := x.lt_fArgs; omega
end Go.Proofs.YtkmiecgcibjkbaaGreat
namespace Go.Proofs.YtkmiecgcibjkbaaGreat
open Go.RowKit
set_option maxRecDepth 10000
set_option linter.unusedSimpArgs false
set_option maxHeartbeats 4000000
def txD (x : TSExpr) : DD := .lf (.string (eText x))
theorem txD_eq (x : TSExpr) : txD x = .lf (.string (eText x)) := rfl
attribute [simp] txD_eq
theorem txD_map (l : List TSExpr) : l.map txD = (l.map eText).map dS := by rw [List.map_map]; rfl
def fmtE (x : TSExpr) : ByteArray := if eValid x = true then eText x else ⟨#[]⟩
def fmtT (x : TType) : ByteArray := if tValid x = true then eText (encT x) else ⟨#[]⟩
def fmtG (b : TBound) : ByteArray := if (isNm b.fTrait && tValid b.fType) = true then ⟨#[40]⟩ ++ b.fTrait ++ ⟨#[32]⟩ ++ eText (encT b.fType) ++ ⟨#[41]⟩ else ⟨#[]⟩
theorem fmtE_enc {x : TType} (h : tValid x = true) : fmtE (encT x) = eText (encT x) := by unfold fmtE; rw [if_pos (enc_valid h).1]
theorem fmtT_size (x : TType) : (fmtT x).size ≤ 4000 := by
  unfold fmtT
  split
  · have h1 := eText_size (encT x)
    have h2 := (enc_valid (x := x) (by assumption)).2
    omega
  · simp
theorem fmtG_size (b : TBound) : (fmtG b).size ≤ 5000 := by
  unfold fmtG
  split
  · rename_i h
    simp only [Bool.and_eq_true] at h
    have h1 := eText_size (encT b.fType)
    have h2 := (enc_valid (x := b.fType) h.2).2
    have h3 := (at_nm h.1).2.2
    have e1 : (⟨#[40]⟩ : ByteArray).size = 1 := rfl
    have e2 : (⟨#[32]⟩ : ByteArray).size = 1 := rfl
    have e3 : (⟨#[41]⟩ : ByteArray).size = 1 := rfl
    simp only [ByteArray.size_append, e1, e2, e3]; omega
  · simp
theorem goal_valid {b : TBound} (h : (isNm b.fTrait && tValid b.fType) = true) : eValid ⟨⟨#[]⟩, [⟨b.fTrait, []⟩, encT b.fType]⟩ = true ∧ TSExpr.sz ⟨⟨#[]⟩, [⟨b.fTrait, []⟩, encT b.fType]⟩ ≤ 4000 := by
  simp only [Bool.and_eq_true] at h
  obtain ⟨h1, h2⟩ := h
  have ⟨g1, g2⟩ := enc_valid h2
  obtain ⟨⟨a1, -⟩, a3, a4⟩ := at_nm h1
  unfold tValid at h2
  simp at h2
  obtain ⟨c1, c2, c3, c4⟩ := enc_ok b.fType h2.1.1
  have ne := nil_size a3
  constructor
  · have e1 : eSize (⟨⟨#[]⟩, [⟨b.fTrait, []⟩, encT b.fType]⟩ : TSExpr) ≤ 900 := by simp [eSize, eSizes]; omega
    have e2 : eDepth (⟨⟨#[]⟩, [⟨b.fTrait, []⟩, encT b.fType]⟩ : TSExpr) ≤ 14 := by simp [eDepth, eDepths, tlE, ne]; omega
    have e3 : eForm (⟨⟨#[]⟩, [⟨b.fTrait, []⟩, encT b.fType]⟩ : TSExpr) = true := by simp [eForm, eForms, tlE, ne, a1, c1]
    unfold eValid; rw [e3, decide_eq_true e1, decide_eq_true e2]; rfl
  · simp [TSExpr.sz, TSExpr.szLs]; omega
theorem emp_app (s : ByteArray) : (⟨#[]⟩ : ByteArray) ++ s = s := ByteArray.empty_append
theorem fmt_goal {b : TBound} (h : (isNm b.fTrait && tValid b.fType) = true) : fmtE ⟨⟨#[]⟩, [⟨b.fTrait, []⟩, encT b.fType]⟩ = ⟨#[40]⟩ ++ b.fTrait ++ ⟨#[32]⟩ ++ eText (encT b.fType) ++ ⟨#[41]⟩ := by
  have hv := (goal_valid h).1
  simp only [Bool.and_eq_true] at h
  have ne := nil_size (at_nm h.1).2.1
  unfold fmtE
  rw [if_pos hv]
  simp only [eText, eTexts, tlE, if_true, if_neg ne, joinS, joinK, List.length_cons, List.length_nil]
  simp [ByteArray.append_assoc, emp_app]
end Go.Proofs.YtkmiecgcibjkbaaGreat
