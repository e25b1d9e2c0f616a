/- Walks by the Den rules. No condition but sizes. -/
import Derived.Test.YtkmiecgcibjkbaaGreatDTy
namespace Go.Proofs.YtkmiecgcibjkbaaGreat
open Go.RowKit
set_option maxRecDepth 10000
set_option linter.unusedSimpArgs false
set_option maxHeartbeats 4000000
def low (n : Int) : Bool := decide (97 ≤ n) && decide (n ≤ 122)
def dig (n : Int) : Bool := decide (48 ≤ n) && decide (n ≤ 57)
def within (x lo hi : Int) : Bool := decide (lo ≤ x) && decide (x ≤ hi)
def base (s : ByteArray) : Bool := s.toList == [105, 110, 116] || s.toList == [98, 111, 111, 108]
theorem isLower_d (n : Int) (h : HP) : CS cx.P 229 [.d (.lf (.int .u8 (n : Int)))] h (.d (.lf (.bool (low n)))) h := by
  refine CS.run (fn := Tryz.f229) ⟨Tryz.func229, rfl, rfl⟩ _ _ _ _ 9 rfl (by simp) ?_
  refine W.seq ?_
  apply W.regS; intro _ K hK
  refine WL.op [] rfl (by simp <;> omega) rfl ?_; simp
  exact WL.nil hK
  refine W.seq ?_
  refine W.regJ0 (D := [some 3, some 4, some 5, some 6, some 7, some 8, some 2]) rfl fun _ K hD hK => ?_
  iterate 3 (refine WL.op [] rfl (by simp <;> omega) rfl ?_; simp)
  refine WL.split 5 _ rfl (fun g5 => ?_) fun g5 => ?_ <;> try simp at g5
  · simp
    refine WL.opG [] hD 2 5 true rfl rfl (by simp) (by simp <;> omega) rfl ?_; simp
    refine WL.opG [] hD 2 5 true rfl rfl (by simp) (by simp <;> omega) rfl ?_; simp
    iterate 2 (refine WL.op [] rfl (by simp <;> omega) rfl ?_; simp)
    refine WL.nil (hK _ ?_)
    refine W.ret ⟨.inr rfl, ⟨_, rfl⟩, ?_⟩
    simp [Tryz.f229, low, g5] <;> omega
  · simp
    refine WL.no2 hD 2 5 true rfl rfl (by simp) (by simp) rfl ?_; simp
    refine WL.no2 hD 2 5 true rfl rfl (by simp) (by simp) rfl ?_; simp
    iterate 2 (refine WL.op [] rfl (by simp <;> omega) rfl ?_; simp)
    refine WL.nil (hK _ ?_)
    refine W.ret ⟨.inr rfl, ⟨_, rfl⟩, ?_⟩
    simp [Tryz.f229, low, g5] <;> omega
theorem isDigit_d (n : Int) (h : HP) : CS cx.P 228 [.d (.lf (.int .u8 (n : Int)))] h (.d (.lf (.bool (dig n)))) h := by
  refine CS.run (fn := Tryz.f228) ⟨Tryz.func228, rfl, rfl⟩ _ _ _ _ 9 rfl (by simp) ?_
  refine W.seq ?_
  apply W.regS; intro _ K hK
  refine WL.op [] rfl (by simp <;> omega) rfl ?_; simp
  exact WL.nil hK
  refine W.seq ?_
  refine W.regJ0 (D := [some 3, some 4, some 5, some 6, some 7, some 8, some 2]) rfl fun _ K hD hK => ?_
  iterate 3 (refine WL.op [] rfl (by simp <;> omega) rfl ?_; simp)
  refine WL.split 5 _ rfl (fun g5 => ?_) fun g5 => ?_ <;> try simp at g5
  · simp
    refine WL.opG [] hD 2 5 true rfl rfl (by simp) (by simp <;> omega) rfl ?_; simp
    refine WL.opG [] hD 2 5 true rfl rfl (by simp) (by simp <;> omega) rfl ?_; simp
    iterate 2 (refine WL.op [] rfl (by simp <;> omega) rfl ?_; simp)
    refine WL.nil (hK _ ?_)
    refine W.ret ⟨.inr rfl, ⟨_, rfl⟩, ?_⟩
    simp [Tryz.f228, dig, g5] <;> omega
  · simp
    refine WL.no2 hD 2 5 true rfl rfl (by simp) (by simp) rfl ?_; simp
    refine WL.no2 hD 2 5 true rfl rfl (by simp) (by simp) rfl ?_; simp
    iterate 2 (refine WL.op [] rfl (by simp <;> omega) rfl ?_; simp)
    refine WL.nil (hK _ ?_)
    refine W.ret ⟨.inr rfl, ⟨_, rfl⟩, ?_⟩
    simp [Tryz.f228, dig, g5] <;> omega
theorem l1In_d (x lo hi : Int) (h : HP) : CS cx.P 93 [.d (.lf (.int .i64 (x))), .d (.lf (.int .i64 (lo))), .d (.lf (.int .i64 (hi)))] h (.d (.lf (.bool (within x lo hi)))) h := by
  refine CS.run (fn := Tryz.f93) ⟨Tryz.func93, rfl, rfl⟩ _ _ _ _ 15 rfl (by simp) ?_
  refine W.seq ?_
  apply W.regS; intro _ K hK
  refine WL.op [] rfl (by simp <;> omega) rfl ?_; simp
  exact WL.nil hK
  refine W.seq ?_
  refine W.regJ0 (D := [some 7, some 8, some 9, some 10, some 11, some 12, some 13, some 14, some 6]) rfl fun _ K hD hK => ?_
  iterate 4 (refine WL.op [] rfl (by simp <;> omega) rfl ?_; simp)
  refine WL.split 10 _ rfl (fun g10 => ?_) fun g10 => ?_ <;> try simp at g10
  · simp
    refine WL.opG [] hD 3 10 true rfl rfl (by simp) (by simp <;> omega) rfl ?_; simp
    refine WL.opG [] hD 3 10 true rfl rfl (by simp) (by simp <;> omega) rfl ?_; simp
    refine WL.opG [] hD 3 10 true rfl rfl (by simp) (by simp <;> omega) rfl ?_; simp
    iterate 2 (refine WL.op [] rfl (by simp <;> omega) rfl ?_; simp)
    refine WL.nil (hK _ ?_)
    refine W.ret ⟨.inr rfl, ⟨_, rfl⟩, ?_⟩
    simp [Tryz.f93, within, g10] <;> omega
  · simp
    refine WL.no2 hD 3 10 true rfl rfl (by simp) (by simp) rfl ?_; simp
    refine WL.no2 hD 3 10 true rfl rfl (by simp) (by simp) rfl ?_; simp
    refine WL.no2 hD 3 10 true rfl rfl (by simp) (by simp) rfl ?_; simp
    iterate 2 (refine WL.op [] rfl (by simp <;> omega) rfl ?_; simp)
    refine WL.nil (hK _ ?_)
    refine W.ret ⟨.inr rfl, ⟨_, rfl⟩, ?_⟩
    simp [Tryz.f93, within, g10] <;> omega
theorem isBuiltIn_d (s : ByteArray) (h : HP) : CS cx.P 220 [.d (.lf (.string s))] h (.d (.lf (.bool (base s)))) h := by
  refine CS.run (fn := Tryz.f220) ⟨Tryz.func220, rfl, rfl⟩ _ _ _ _ 9 rfl (by simp) ?_
  refine W.seq ?_
  apply W.regS; intro _ K hK
  refine WL.op [] rfl (by simp <;> omega) rfl ?_; simp
  exact WL.nil hK
  refine W.seq ?_
  refine W.regJ0 (D := [some 3, some 4, some 5, some 6, some 7, some 8, some 2]) rfl fun _ K hD hK => ?_
  iterate 3 (refine WL.op [] rfl (by simp <;> omega) rfl ?_; simp)
  refine WL.split 5 _ rfl (fun g5 => ?_) fun g5 => ?_ <;> try simp at g5
  · simp
    refine WL.no2 hD 2 5 false rfl rfl (by simp) (by simp) rfl ?_; simp
    refine WL.no2 hD 2 5 false rfl rfl (by simp) (by simp) rfl ?_; simp
    iterate 2 (refine WL.op [] rfl (by simp <;> omega) rfl ?_; simp)
    refine WL.nil (hK _ ?_)
    refine W.ret ⟨.inr rfl, ⟨_, rfl⟩, ?_⟩
    simp [Tryz.f220, base, g5]
  · simp
    refine WL.opG [] hD 2 5 false rfl rfl (by simp) (by simp <;> omega) rfl ?_; simp
    refine WL.opG [] hD 2 5 false rfl rfl (by simp) (by simp <;> omega) rfl ?_; simp
    iterate 2 (refine WL.op [] rfl (by simp <;> omega) rfl ?_; simp)
    refine WL.nil (hK _ ?_)
    refine W.ret ⟨.inr rfl, ⟨_, rfl⟩, ?_⟩
    simp [Tryz.f220, base, g5]
theorem l4Base_d (s : ByteArray) (h : HP) : CS cx.P 214 [.d (.lf (.string s))] h (.d (.lf (.bool (base s)))) h := by
  refine CS.run (fn := Tryz.f214) ⟨Tryz.func214, rfl, rfl⟩ _ _ _ _ 9 rfl (by simp) ?_
  refine W.seq ?_
  apply W.regS; intro _ K hK
  refine WL.op [] rfl (by simp <;> omega) rfl ?_; simp
  exact WL.nil hK
  refine W.seq ?_
  refine W.regJ0 (D := [some 3, some 4, some 5, some 6, some 7, some 8, some 2]) rfl fun _ K hD hK => ?_
  iterate 3 (refine WL.op [] rfl (by simp <;> omega) rfl ?_; simp)
  refine WL.split 5 _ rfl (fun g5 => ?_) fun g5 => ?_ <;> try simp at g5
  · simp
    refine WL.no2 hD 2 5 false rfl rfl (by simp) (by simp) rfl ?_; simp
    refine WL.no2 hD 2 5 false rfl rfl (by simp) (by simp) rfl ?_; simp
    iterate 2 (refine WL.op [] rfl (by simp <;> omega) rfl ?_; simp)
    refine WL.nil (hK _ ?_)
    refine W.ret ⟨.inr rfl, ⟨_, rfl⟩, ?_⟩
    simp [Tryz.f214, base, g5]
  · simp
    refine WL.opG [] hD 2 5 false rfl rfl (by simp) (by simp <;> omega) rfl ?_; simp
    refine WL.opG [] hD 2 5 false rfl rfl (by simp) (by simp <;> omega) rfl ?_; simp
    iterate 2 (refine WL.op [] rfl (by simp <;> omega) rfl ?_; simp)
    refine WL.nil (hK _ ?_)
    refine W.ret ⟨.inr rfl, ⟨_, rfl⟩, ?_⟩
    simp [Tryz.f214, base, g5]
theorem notAt_step {l : List ByteArray} {s : ByteArray} {k : Nat} (h : ∀ j, j < k → l[j]? ≠ some s) (hk : k < l.length) (hn : ¬ l[k] = s) : ∀ j, j < k + 1 → l[j]? ≠ some s := fun j hj => by
  rcases Nat.lt_or_ge j k with q | q
  · exact h j q
  · have : j = k := by omega
    subst this
    rw [List.getElem?_eq_getElem hk]; simpa using hn
theorem notAt_all {l : List ByteArray} {s : ByteArray} (h : ∀ j, j < l.length → l[j]? ≠ some s) : s ∉ l := fun hs => by
  obtain ⟨j, hj⟩ := List.mem_iff_getElem?.1 hs
  exact h j (List.getElem?_eq_some_iff.1 hj).1 hj
theorem l1Has_d (l : List ByteArray) (s : ByteArray) (hm : l.length ≤ 1048576) (h : HP) : CS cx.P 244 [.d (.sl false .one (l.map dS)), .d (.lf (.string s))] h (.d (.lf (.bool (hasS l s)))) h := by
  refine CS.run (fn := Tryz.f244) ⟨Tryz.func244, rfl, rfl⟩ _ _ _ _ 18 rfl (by simp) ?_
  refine W.seq ?_
  apply W.regS; intro _ K hK
  refine WL.op [] rfl (by simp <;> omega) rfl ?_; simp
  exact WL.nil hK
  refine W.seq ?_
  refine W.seq ?_
  apply W.regS; intro _ K hK
  refine WL.op [] rfl (by simp <;> omega) rfl ?_; simp
  exact WL.nil hK
  refine W.block ?_
  refine W.loopI [0, 1] [] (fun k0 => [(5, .d (.lf (.int .i64 (k0 : Int))))]) (fun _ => []) l.length (fun k0 => ∀ j, j < k0 → l[j]? ≠ some s) rfl (by simp) (by simp) fun k0 hk0 hi0 T hT => ?_
  simp at hT; subst hT
  refine W.seq ?_
  refine W.seq ?_
  apply W.regS; intro _ K hK
  iterate 4 (refine WL.op [] rfl (by simp <;> omega) rfl ?_; simp)
  exact WL.nil hK
  refine W.condS _ rfl trivial (fun hb0 => ?_) fun hb0 => ?_ <;> try simp at hb0
  · have hx := ixNext hb0 (by omega)
    refine W.skip ?_
    refine W.seq ?_
    refine W.block ?_
    refine W.seq ?_
    apply W.regS; intro _ K hK
    iterate 6 (refine WL.op [] rfl (by simp [hb0, hx] <;> omega) rfl ?_; simp [hb0, hx])
    exact WL.nil hK
    refine W.condS _ rfl trivial (fun hb1 => ?_) fun hb1 => ?_ <;> try simp at hb1
    · have hres := hasS_true (hb1 ▸ List.getElem_mem hb0 : s ∈ l)
      refine W.seq ?_
      apply W.regS; intro _ K hK
      refine WL.op [] rfl (by simp [hb0, hx] <;> omega) rfl ?_; simp [hb0, hx]
      exact WL.nil hK
      refine W.ret ⟨.inr rfl, ⟨_, rfl⟩, ?_⟩
      simp [Tryz.f244, hres]
    · refine W.skip ?_
      apply W.regS; intro _ K hK
      iterate 3 (refine WL.op [] rfl (by simp [hb0, hx] <;> omega) rfl ?_; simp [hb0, hx])
      exact WL.nil hK
      refine ⟨hb0, notAt_step hi0 hb0 hb1, Wz.to rfl rfl rfl ?_⟩
      simp
  · have hkl : k0 = l.length := by omega
    subst hkl
    have hres := hasS_false (notAt_all hi0)
    refine W.exit ?_
    refine W.seq ?_
    apply W.regS; intro _ K hK
    refine WL.op [] rfl (by simp <;> omega) rfl ?_; simp
    exact WL.nil hK
    refine W.ret ⟨.inr rfl, ⟨_, rfl⟩, ?_⟩
    simp [Tryz.f244, hres]
end Go.Proofs.YtkmiecgcibjkbaaGreat
namespace Go.Proofs.YtkmiecgcibjkbaaGreat
open Go.RowKit
set_option maxRecDepth 10000
set_option linter.unusedSimpArgs false
set_option maxHeartbeats 4000000
def rsv : List ByteArray := [⟨#[105, 110, 116]⟩, ⟨#[98, 111, 111, 108]⟩, ⟨#[97, 115, 115, 111, 99]⟩, ⟨#[100, 121, 110]⟩, ⟨#[105, 102]⟩, ⟨#[108, 101, 116]⟩, ⟨#[99, 97, 115, 101]⟩, ⟨#[110, 101, 119]⟩, ⟨#[109, 101, 116, 104, 111, 100]⟩, ⟨#[112, 97, 99, 107]⟩, ⟨#[116, 114, 117, 101]⟩, ⟨#[102, 97, 108, 115, 101]⟩]
def nameAt (s : ByteArray) (i : Nat) : Bool := low (bt s i) || !(decide (i = 0)) && dig (bt s i)
def isNm (s : ByteArray) : Bool := allB s.size (nameAt s) && within s.size 1 8 && !hasS rsv s
theorem isNm_no {s : ByteArray} {k : Nat} (hk : k < s.size) (h : nameAt s k = false) : isNm s = false := by
  unfold isNm; rw [allB_false hk h]; rfl
theorem sReserved_d (s : ByteArray) (h : HP) : CS cx.P 219 [.d (.lf (.string s))] h (.d (.lf (.bool (hasS rsv s)))) h := by
  refine CS.run (fn := Tryz.f219) ⟨Tryz.func219, rfl, rfl⟩ _ _ _ _ 6 rfl (by simp) ?_
  refine W.seq ?_
  apply W.regS; intro _ K hK
  refine WL.op [] rfl (by simp [rsv] <;> omega) rfl ?_; simp [rsv]
  exact WL.nil hK
  refine W.seq ?_
  apply W.regS; intro _ K hK
  iterate 2 (refine WL.op [] rfl (by simp [rsv] <;> omega) rfl ?_; simp [rsv])
  refine WL.call [] _ _ _ rfl rfl (by simp) (g := 244) (caps := []) (by simp) (by simp) (fn := Tryz.f244) ⟨Tryz.func244, rfl, rfl⟩ rfl (by simp [rsv]) (by simp) (by simp [rsv]) (l1Has_d rsv s (by decide) _) rfl ?_; simp [rsv]
  refine WL.op [] rfl (by simp [rsv] <;> omega) rfl ?_; simp [rsv]
  exact WL.nil hK
  refine W.ret ⟨.inr rfl, ⟨_, rfl⟩, ?_⟩
  simp [Tryz.f219, rsv]
theorem sName_d (s : ByteArray) (hs : s.size ≤ 1048576) (h : HP) : CS cx.P 178 [.d (.lf (.string s))] h (.d (.lf (.bool (isNm s)))) h := by
  refine CS.run (fn := Tryz.f178) ⟨Tryz.func178, rfl, rfl⟩ _ _ _ _ 47 rfl (by simp) ?_
  refine W.seq ?_
  apply W.regS; intro _ K hK
  refine WL.op [] rfl (by simp <;> omega) rfl ?_; simp
  exact WL.nil hK
  refine W.seq ?_
  refine W.seq ?_
  refine W.regJ0 (D := [some 5, some 6, some 7, some 8, some 9, some 10, some 11, some 12]) rfl fun _ K hD hK => ?_
  iterate 2 (refine WL.op [] rfl (by simp <;> omega) rfl ?_; simp)
  refine WL.call [] _ _ _ rfl rfl (by simp) (g := 93) (caps := []) (by simp) (by simp) (fn := Tryz.f93) ⟨Tryz.func93, rfl, rfl⟩ rfl (by simp) (by simp) (by simp) (l1In_d s.size 1 8 _) rfl ?_; simp
  iterate 2 (refine WL.op [] rfl (by simp <;> omega) rfl ?_; simp)
  refine WL.split 9 _ rfl (fun g9 => ?_) fun g9 => ?_ <;> try simp at g9
  · have hres : isNm s = false := by simp [isNm, g9]
    simp
    refine WL.no2 hD 4 9 false rfl rfl (by simp) (by simp) rfl ?_; simp
    refine WL.no2 hD 4 9 false rfl rfl (by simp) (by simp) rfl ?_; simp
    refine WL.op [] rfl (by simp <;> omega) rfl ?_; simp
    refine WL.nil (hK _ ?_)
    refine W.condT rfl trivial ?_
    refine W.seq ?_
    apply W.regS; intro _ K hK
    refine WL.op [] rfl (by simp <;> omega) rfl ?_; simp
    exact WL.nil hK
    refine W.ret ⟨.inr rfl, ⟨_, rfl⟩, ?_⟩
    simp [Tryz.f178, hres]
  · simp
    refine WL.opG [] hD 4 9 false rfl rfl (by simp) (by simp <;> omega) rfl ?_; simp
    refine WL.callG hD 4 9 false rfl rfl (by simp) [] _ _ _ rfl (by simp) (g := 219) (caps := []) (by simp) (by simp) (fn := Tryz.f219) ⟨Tryz.func219, rfl, rfl⟩ rfl (by simp) (by simp) (by simp) (sReserved_d s _) rfl ?_; simp
    refine WL.op [] rfl (by simp <;> omega) rfl ?_; simp
    refine WL.nil (hK _ ?_)
    refine W.condS _ rfl trivial (fun hb0 => ?_) fun hb0 => ?_ <;> try simp at hb0
    · have hres : isNm s = false := by simp [isNm, hb0]
      refine W.seq ?_
      apply W.regS; intro _ K hK
      refine WL.op [] rfl (by simp <;> omega) rfl ?_; simp
      exact WL.nil hK
      refine W.ret ⟨.inr rfl, ⟨_, rfl⟩, ?_⟩
      simp [Tryz.f178, hres]
    · refine W.skip ?_
      refine W.seq ?_
      refine W.seq ?_
      apply W.regS; intro _ K hK
      refine WL.op [] rfl (by simp <;> omega) rfl ?_; simp
      exact WL.nil hK
      refine W.block ?_
      refine W.loopI [0] [] (fun k0 => [(3, .d (.lf (.int .i64 (k0 : Int))))]) (fun _ => []) s.size (fun k0 => ∀ j, j < k0 → nameAt s j = true) rfl (by simp) (by simp) fun k0 hk0 hi0 T hT => ?_
      simp at hT; subst hT
      refine W.seq ?_
      refine W.seq ?_
      apply W.regS; intro _ K hK
      iterate 4 (refine WL.op [] rfl (by simp <;> omega) rfl ?_; simp)
      exact WL.nil hK
      refine W.condS _ rfl trivial (fun hb1 => ?_) fun hb1 => ?_ <;> try simp at hb1
      · have hx := ixNext hb1 (by omega)
        refine W.skip ?_
        refine W.seq ?_
        refine W.block ?_
        refine W.seq ?_
        refine W.regJ (D := [some 19, some 20, some 21, some 22, some 23, some 24, some 25, some 26, some 27, some 28, some 4]) [0, 3] [] [(4, .d (.lf (.bool (low ((bt s k0 : Nat) : Int)))))] [] rfl (fun _ K hD hK => ?_) fun T hT => ?_
        iterate 5 (refine WL.op [] rfl (by simp [hb1, hx] <;> omega) rfl ?_; simp [hb1, hx])
        refine WL.split 23 _ rfl (fun g23 => ?_) fun g23 => ?_ <;> try simp at g23
        · simp [hb1, hx]
          refine WL.opG [] hD 4 23 true rfl rfl (by simp) (by simp [hb1, hx] <;> omega) rfl ?_; simp [hb1, hx]
          refine WL.opG [] hD 4 23 true rfl rfl (by simp) (by simp [hb1, hx] <;> omega) rfl ?_; simp [hb1, hx]
          refine WL.opG [] hD 4 23 true rfl rfl (by simp) (by simp [hb1, hx] <;> omega) rfl ?_; simp [hb1, hx]
          refine WL.opG [] hD 4 23 true rfl rfl (by simp) (by simp [hb1, hx] <;> omega) rfl ?_; simp [hb1, hx]
          iterate 2 (refine WL.op [] rfl (by simp [hb1, hx] <;> omega) rfl ?_; simp [hb1, hx])
          refine WL.nil (hK _ (Wz.to rfl rfl rfl ?_))
          simp [low, g9, g23] <;> omega
        · simp [hb1, hx]
          refine WL.no2 hD 4 23 true rfl rfl (by simp) (by simp) rfl ?_; simp [hb1, hx]
          refine WL.no2 hD 4 23 true rfl rfl (by simp) (by simp) rfl ?_; simp [hb1, hx]
          refine WL.no2 hD 4 23 true rfl rfl (by simp) (by simp) rfl ?_; simp [hb1, hx]
          refine WL.no2 hD 4 23 true rfl rfl (by simp) (by simp) rfl ?_; simp [hb1, hx]
          iterate 2 (refine WL.op [] rfl (by simp [hb1, hx] <;> omega) rfl ?_; simp [hb1, hx])
          refine WL.nil (hK _ (Wz.to rfl rfl rfl ?_))
          simp [low, g9, g23] <;> omega
        simp at hT; subst hT
        refine W.seq ?_
        refine W.regJ (D := [some 29, some 30, some 31, some 32, some 33, some 34, some 35, some 36, some 37, some 38, some 39, some 40, some 41, some 42, some 43, some 44, some 45, some 46]) [0, 3] [] [(46, .d (.lf (.bool (!nameAt s k0))))] [] rfl (fun _ K hD hK => ?_) fun T hT => ?_
        iterate 3 (refine WL.op [] rfl (by simp [hb1, hx] <;> omega) rfl ?_; simp [hb1, hx])
        refine WL.split 31 _ rfl (fun g31 => ?_) fun g31 => ?_ <;> try simp at g31
        · simp [hb1, hx]
          refine WL.opG [] hD 2 31 true rfl rfl (by simp) (by simp [hb1, hx] <;> omega) rfl ?_; simp [hb1, hx]
          refine WL.opG [] hD 2 31 true rfl rfl (by simp) (by simp [hb1, hx] <;> omega) rfl ?_; simp [hb1, hx]
          refine WL.opG [] hD 2 31 true rfl rfl (by simp) (by simp [hb1, hx] <;> omega) rfl ?_; simp [hb1, hx]
          refine WL.split 34 _ rfl (fun g34 => ?_) fun g34 => ?_ <;> try simp at g34
          · have e0 := g34
            subst e0
            simp [hb1, hx]
            refine WL.no2 hD 5 34 false rfl rfl (by simp) (by simp) rfl ?_; simp [hb1, hx]
            refine WL.no2 hD 5 34 false rfl rfl (by simp) (by simp) rfl ?_; simp [hb1, hx]
            refine WL.no2 hD 5 34 false rfl rfl (by simp) (by simp) rfl ?_; simp [hb1, hx]
            refine WL.no2 hD 5 34 false rfl rfl (by simp) (by simp) rfl ?_; simp [hb1, hx]
            refine WL.opG [] hD 2 31 true rfl rfl (by simp) (by simp [hb1, hx] <;> omega) rfl ?_; simp [hb1, hx]
            refine WL.opG [] hD 2 31 true rfl rfl (by simp) (by simp [hb1, hx] <;> omega) rfl ?_; simp [hb1, hx]
            refine WL.no2 hD 11 40 false rfl rfl (by simp) (by simp) rfl ?_; simp [hb1, hx]
            refine WL.no2 hD 11 40 false rfl rfl (by simp) (by simp) rfl ?_; simp [hb1, hx]
            refine WL.no2 hD 11 40 false rfl rfl (by simp) (by simp) rfl ?_; simp [hb1, hx]
            refine WL.no2 hD 11 40 false rfl rfl (by simp) (by simp) rfl ?_; simp [hb1, hx]
            refine WL.opG [] hD 2 31 true rfl rfl (by simp) (by simp [hb1, hx] <;> omega) rfl ?_; simp [hb1, hx]
            refine WL.op [] rfl (by simp [hb1, hx] <;> omega) rfl ?_; simp [hb1, hx]
            refine WL.nil (hK _ (Wz.to rfl rfl rfl ?_))
            simp [nameAt, dig, g9, g31, g34] <;> first | omega | grind
          · simp [hb1, hx]
            refine WL.opG [] hD 5 34 false rfl rfl (by simp) (by simp [hb1, hx] <;> omega) rfl ?_; simp [hb1, hx]
            refine WL.opG [] hD 5 34 false rfl rfl (by simp) (by simp [hb1, hx] <;> omega) rfl ?_; simp [hb1, hx]
            refine WL.opG [] hD 5 34 false rfl rfl (by simp) (by simp [hb1, hx] <;> omega) rfl ?_; simp [hb1, hx]
            refine WL.opG [] hD 5 34 false rfl rfl (by simp) (by simp [hb1, hx] <;> omega) rfl ?_; simp [hb1, hx]
            refine WL.opG [] hD 2 31 true rfl rfl (by simp) (by simp [hb1, hx] <;> omega) rfl ?_; simp [hb1, hx]
            refine WL.opG [] hD 2 31 true rfl rfl (by simp) (by simp [hb1, hx] <;> omega) rfl ?_; simp [hb1, hx]
            refine WL.split 40 _ rfl (fun g40 => ?_) fun g40 => ?_ <;> try simp at g40
            · simp [hb1, hx]
              refine WL.no2 hD 11 40 false rfl rfl (by simp) (by simp) rfl ?_; simp [hb1, hx]
              refine WL.no2 hD 11 40 false rfl rfl (by simp) (by simp) rfl ?_; simp [hb1, hx]
              refine WL.no2 hD 11 40 false rfl rfl (by simp) (by simp) rfl ?_; simp [hb1, hx]
              refine WL.no2 hD 11 40 false rfl rfl (by simp) (by simp) rfl ?_; simp [hb1, hx]
              refine WL.opG [] hD 2 31 true rfl rfl (by simp) (by simp [hb1, hx] <;> omega) rfl ?_; simp [hb1, hx]
              refine WL.op [] rfl (by simp [hb1, hx] <;> omega) rfl ?_; simp [hb1, hx]
              refine WL.nil (hK _ (Wz.to rfl rfl rfl ?_))
              simp [nameAt, dig, g9, g31, g34, g40] <;> first | omega | grind
            · simp [hb1, hx]
              refine WL.opG [] hD 11 40 false rfl rfl (by simp) (by simp [hb1, hx] <;> omega) rfl ?_; simp [hb1, hx]
              refine WL.opG [] hD 11 40 false rfl rfl (by simp) (by simp [hb1, hx] <;> omega) rfl ?_; simp [hb1, hx]
              refine WL.opG [] hD 11 40 false rfl rfl (by simp) (by simp [hb1, hx] <;> omega) rfl ?_; simp [hb1, hx]
              refine WL.opG [] hD 11 40 false rfl rfl (by simp) (by simp [hb1, hx] <;> omega) rfl ?_; simp [hb1, hx]
              refine WL.opG [] hD 2 31 true rfl rfl (by simp) (by simp [hb1, hx] <;> omega) rfl ?_; simp [hb1, hx]
              refine WL.op [] rfl (by simp [hb1, hx] <;> omega) rfl ?_; simp [hb1, hx]
              refine WL.nil (hK _ (Wz.to rfl rfl rfl ?_))
              simp [nameAt, dig, g9, g31, g34, g40] <;> first | omega | grind
        · simp [hb1, hx]
          refine WL.no2 hD 2 31 true rfl rfl (by simp) (by simp) rfl ?_; simp [hb1, hx]
          refine WL.no2 hD 2 31 true rfl rfl (by simp) (by simp) rfl ?_; simp [hb1, hx]
          refine WL.no2 hD 2 31 true rfl rfl (by simp) (by simp) rfl ?_; simp [hb1, hx]
          refine WL.no2 hD 5 34 false rfl rfl (by simp) (by simp) rfl ?_; simp [hb1, hx]
          refine WL.no2 hD 5 34 false rfl rfl (by simp) (by simp) rfl ?_; simp [hb1, hx]
          refine WL.no2 hD 5 34 false rfl rfl (by simp) (by simp) rfl ?_; simp [hb1, hx]
          refine WL.no2 hD 5 34 false rfl rfl (by simp) (by simp) rfl ?_; simp [hb1, hx]
          refine WL.no2 hD 2 31 true rfl rfl (by simp) (by simp) rfl ?_; simp [hb1, hx]
          refine WL.no2 hD 2 31 true rfl rfl (by simp) (by simp) rfl ?_; simp [hb1, hx]
          refine WL.no2 hD 11 40 false rfl rfl (by simp) (by simp) rfl ?_; simp [hb1, hx]
          refine WL.no2 hD 11 40 false rfl rfl (by simp) (by simp) rfl ?_; simp [hb1, hx]
          refine WL.no2 hD 11 40 false rfl rfl (by simp) (by simp) rfl ?_; simp [hb1, hx]
          refine WL.no2 hD 11 40 false rfl rfl (by simp) (by simp) rfl ?_; simp [hb1, hx]
          refine WL.no2 hD 2 31 true rfl rfl (by simp) (by simp) rfl ?_; simp [hb1, hx]
          refine WL.op [] rfl (by simp [hb1, hx] <;> omega) rfl ?_; simp [hb1, hx]
          refine WL.nil (hK _ (Wz.to rfl rfl rfl ?_))
          simp [nameAt, dig, g9, g31] <;> first | omega | grind
        simp at hT; subst hT
        refine W.condS _ rfl trivial (fun hb2 => ?_) fun hb2 => ?_ <;> try simp at hb2
        · have hres := isNm_no hb1 (by simpa using hb2)
          refine W.seq ?_
          apply W.regS; intro _ K hK
          refine WL.op [] rfl (by simp [hb1, hx] <;> omega) rfl ?_; simp [hb1, hx]
          exact WL.nil hK
          refine W.ret ⟨.inr rfl, ⟨_, rfl⟩, ?_⟩
          simp [Tryz.f178, hres]
        · refine W.skip ?_
          apply W.regS; intro _ K hK
          iterate 3 (refine WL.op [] rfl (by simp [hb1, hx] <;> omega) rfl ?_; simp [hb1, hx])
          exact WL.nil hK
          refine ⟨hb1, step_all hi0 (by simpa using hb2), Wz.to rfl rfl rfl ?_⟩
          simp
      · have hkl : k0 = s.size := by omega
        subst hkl
        have hres : isNm s = true := by simp [isNm, allB_true hi0, g9, hb0]
        refine W.exit ?_
        refine W.seq ?_
        apply W.regS; intro _ K hK
        refine WL.op [] rfl (by simp <;> omega) rfl ?_; simp
        exact WL.nil hK
        refine W.ret ⟨.inr rfl, ⟨_, rfl⟩, ?_⟩
        simp [Tryz.f178, hres]
end Go.Proofs.YtkmiecgcibjkbaaGreat
namespace Go.Proofs.YtkmiecgcibjkbaaGreat
open Go.RowKit
set_option maxRecDepth 10000
set_option linter.unusedSimpArgs false
set_option maxHeartbeats 4000000
def atB (n : Int) : Bool := low n || dig n || decide (n = 39) || decide (n = 45) || decide (n = 43) || decide (n = 42) || decide (n = 60) || decide (n = 61) || decide (n = 46)
def isAt (s : ByteArray) : Bool := allB s.size (fun i => atB (bt s i)) && within s.size 1 12
theorem l2Byte_d (n : Int) (h : HP) : CS cx.P 257 [.d (.lf (.int .u8 (n : Int)))] h (.d (.lf (.bool (atB n)))) h := by
  refine CS.run (fn := Tryz.f257) ⟨Tryz.func257, rfl, rfl⟩ _ _ _ _ 45 rfl (by simp) ?_
  refine W.seq ?_
  apply W.regS; intro _ K hK
  refine WL.op [] rfl (by simp <;> omega) rfl ?_; simp
  exact WL.nil hK
  refine W.seq ?_
  refine W.regJ0 (D := [some 3, some 4, some 5, some 6, some 7, some 8, some 9, some 10, some 11, some 12, some 13, some 14, some 15, some 16, some 17, some 18, some 19, some 20, some 21, some 22, some 23, some 24, some 25, some 26, some 27, some 28, some 29, some 30, some 31, some 32, some 33, some 34, some 35, some 36, some 37, some 38, some 39, some 40, some 41, some 42, some 43, some 44, some 2]) rfl fun _ K hD hK => ?_
  refine WL.mid 6 [0] [] [(8, .d (.lf (.bool (low n))))] [] (fun hr => ?_) fun T hT => ?_
  · iterate 3 (refine WL.op [] rfl (by simp <;> omega) rfl ?_; simp)
    refine WL.split 5 _ rfl (fun g5 => ?_) fun g5 => ?_ <;> try simp at g5
    · simp
      refine WL.opG [] hD 2 5 true rfl rfl (by simp) (by simp <;> omega) rfl ?_; simp
      refine WL.opG [] hD 2 5 true rfl rfl (by simp) (by simp <;> omega) rfl ?_; simp
      refine WL.op [] rfl (by simp <;> omega) rfl ?_; simp
      exact hr _ (Wz.to rfl rfl rfl (by simp [low, g5] <;> omega))
    · simp
      refine WL.no2 hD 2 5 true rfl rfl (by simp) (by simp) rfl ?_; simp
      refine WL.no2 hD 2 5 true rfl rfl (by simp) (by simp) rfl ?_; simp
      refine WL.op [] rfl (by simp <;> omega) rfl ?_; simp
      exact hr _ (Wz.to rfl rfl rfl (by simp [low, g5] <;> omega))
  simp at hT; subst hT
  refine WL.mid 8 [0] [] [(16, .d (.lf (.bool (low n || dig n))))] [] (fun hr => ?_) fun T hT => ?_
  · refine WL.op [] rfl (by simp <;> omega) rfl ?_; simp
    refine WL.split 9 _ rfl (fun g9 => ?_) fun g9 => ?_ <;> try simp at g9
    · simp
      refine WL.no2 hD 6 9 false rfl rfl (by simp) (by simp) rfl ?_; simp
      refine WL.no2 hD 6 9 false rfl rfl (by simp) (by simp) rfl ?_; simp
      refine WL.no2 hD 6 9 false rfl rfl (by simp) (by simp) rfl ?_; simp
      refine WL.no2 hD 9 12 true rfl rfl (by simp) (by simp) rfl ?_; simp
      refine WL.no2 hD 9 12 true rfl rfl (by simp) (by simp) rfl ?_; simp
      refine WL.no2 hD 6 9 false rfl rfl (by simp) (by simp) rfl ?_; simp
      refine WL.op [] rfl (by simp <;> omega) rfl ?_; simp
      exact hr _ (Wz.to rfl rfl rfl (by simp [dig, g9] <;> first | omega | grind))
    · simp
      refine WL.opG [] hD 6 9 false rfl rfl (by simp) (by simp <;> omega) rfl ?_; simp
      refine WL.opG [] hD 6 9 false rfl rfl (by simp) (by simp <;> omega) rfl ?_; simp
      refine WL.opG [] hD 6 9 false rfl rfl (by simp) (by simp <;> omega) rfl ?_; simp
      refine WL.split 12 _ rfl (fun g12 => ?_) fun g12 => ?_ <;> try simp at g12
      · simp
        refine WL.opG [] hD 9 12 true rfl rfl (by simp) (by simp <;> omega) rfl ?_; simp
        refine WL.opG [] hD 9 12 true rfl rfl (by simp) (by simp <;> omega) rfl ?_; simp
        refine WL.opG [] hD 6 9 false rfl rfl (by simp) (by simp <;> omega) rfl ?_; simp
        refine WL.op [] rfl (by simp <;> omega) rfl ?_; simp
        exact hr _ (Wz.to rfl rfl rfl (by simp [dig, g9, g12] <;> first | omega | grind))
      · simp
        refine WL.no2 hD 9 12 true rfl rfl (by simp) (by simp) rfl ?_; simp
        refine WL.no2 hD 9 12 true rfl rfl (by simp) (by simp) rfl ?_; simp
        refine WL.opG [] hD 6 9 false rfl rfl (by simp) (by simp <;> omega) rfl ?_; simp
        refine WL.op [] rfl (by simp <;> omega) rfl ?_; simp
        exact hr _ (Wz.to rfl rfl rfl (by simp [dig, g9, g12] <;> first | omega | grind))
  simp at hT; subst hT
  refine WL.mid 4 [0] [] [(20, .d (.lf (.bool (low n || dig n || decide (n = 39)))))] [] (fun hr => ?_) fun T hT => ?_
  · refine WL.op [] rfl (by simp <;> omega) rfl ?_; simp
    refine WL.split 17 _ rfl (fun g17 => ?_) fun g17 => ?_ <;> try simp at g17
    · simp
      refine WL.no2 hD 14 17 false rfl rfl (by simp) (by simp) rfl ?_; simp
      refine WL.no2 hD 14 17 false rfl rfl (by simp) (by simp) rfl ?_; simp
      refine WL.op [] rfl (by simp <;> omega) rfl ?_; simp
      exact hr _ (Wz.to rfl rfl rfl (by simp [g17]))
    · simp
      refine WL.opG [] hD 14 17 false rfl rfl (by simp) (by simp <;> omega) rfl ?_; simp
      refine WL.opG [] hD 14 17 false rfl rfl (by simp) (by simp <;> omega) rfl ?_; simp
      refine WL.op [] rfl (by simp <;> omega) rfl ?_; simp
      exact hr _ (Wz.to rfl rfl rfl (by simp [g17]))
  simp at hT; subst hT
  refine WL.mid 4 [0] [] [(24, .d (.lf (.bool (low n || dig n || decide (n = 39) || decide (n = 45)))))] [] (fun hr => ?_) fun T hT => ?_
  · refine WL.op [] rfl (by simp <;> omega) rfl ?_; simp
    refine WL.split 21 _ rfl (fun g21 => ?_) fun g21 => ?_ <;> try simp at g21
    · simp
      refine WL.no2 hD 18 21 false rfl rfl (by simp) (by simp) rfl ?_; simp
      refine WL.no2 hD 18 21 false rfl rfl (by simp) (by simp) rfl ?_; simp
      refine WL.op [] rfl (by simp <;> omega) rfl ?_; simp
      exact hr _ (Wz.to rfl rfl rfl (by simp [g21]))
    · simp
      refine WL.opG [] hD 18 21 false rfl rfl (by simp) (by simp <;> omega) rfl ?_; simp
      refine WL.opG [] hD 18 21 false rfl rfl (by simp) (by simp <;> omega) rfl ?_; simp
      refine WL.op [] rfl (by simp <;> omega) rfl ?_; simp
      exact hr _ (Wz.to rfl rfl rfl (by simp [g21]))
  simp at hT; subst hT
  refine WL.mid 4 [0] [] [(28, .d (.lf (.bool (low n || dig n || decide (n = 39) || decide (n = 45) || decide (n = 43)))))] [] (fun hr => ?_) fun T hT => ?_
  · refine WL.op [] rfl (by simp <;> omega) rfl ?_; simp
    refine WL.split 25 _ rfl (fun g25 => ?_) fun g25 => ?_ <;> try simp at g25
    · simp
      refine WL.no2 hD 22 25 false rfl rfl (by simp) (by simp) rfl ?_; simp
      refine WL.no2 hD 22 25 false rfl rfl (by simp) (by simp) rfl ?_; simp
      refine WL.op [] rfl (by simp <;> omega) rfl ?_; simp
      exact hr _ (Wz.to rfl rfl rfl (by simp [g25]))
    · simp
      refine WL.opG [] hD 22 25 false rfl rfl (by simp) (by simp <;> omega) rfl ?_; simp
      refine WL.opG [] hD 22 25 false rfl rfl (by simp) (by simp <;> omega) rfl ?_; simp
      refine WL.op [] rfl (by simp <;> omega) rfl ?_; simp
      exact hr _ (Wz.to rfl rfl rfl (by simp [g25]))
  simp at hT; subst hT
  refine WL.mid 4 [0] [] [(32, .d (.lf (.bool (low n || dig n || decide (n = 39) || decide (n = 45) || decide (n = 43) || decide (n = 42)))))] [] (fun hr => ?_) fun T hT => ?_
  · refine WL.op [] rfl (by simp <;> omega) rfl ?_; simp
    refine WL.split 29 _ rfl (fun g29 => ?_) fun g29 => ?_ <;> try simp at g29
    · simp
      refine WL.no2 hD 26 29 false rfl rfl (by simp) (by simp) rfl ?_; simp
      refine WL.no2 hD 26 29 false rfl rfl (by simp) (by simp) rfl ?_; simp
      refine WL.op [] rfl (by simp <;> omega) rfl ?_; simp
      exact hr _ (Wz.to rfl rfl rfl (by simp [g29]))
    · simp
      refine WL.opG [] hD 26 29 false rfl rfl (by simp) (by simp <;> omega) rfl ?_; simp
      refine WL.opG [] hD 26 29 false rfl rfl (by simp) (by simp <;> omega) rfl ?_; simp
      refine WL.op [] rfl (by simp <;> omega) rfl ?_; simp
      exact hr _ (Wz.to rfl rfl rfl (by simp [g29]))
  simp at hT; subst hT
  refine WL.mid 4 [0] [] [(36, .d (.lf (.bool (low n || dig n || decide (n = 39) || decide (n = 45) || decide (n = 43) || decide (n = 42) || decide (n = 60)))))] [] (fun hr => ?_) fun T hT => ?_
  · refine WL.op [] rfl (by simp <;> omega) rfl ?_; simp
    refine WL.split 33 _ rfl (fun g33 => ?_) fun g33 => ?_ <;> try simp at g33
    · simp
      refine WL.no2 hD 30 33 false rfl rfl (by simp) (by simp) rfl ?_; simp
      refine WL.no2 hD 30 33 false rfl rfl (by simp) (by simp) rfl ?_; simp
      refine WL.op [] rfl (by simp <;> omega) rfl ?_; simp
      exact hr _ (Wz.to rfl rfl rfl (by simp [g33]))
    · simp
      refine WL.opG [] hD 30 33 false rfl rfl (by simp) (by simp <;> omega) rfl ?_; simp
      refine WL.opG [] hD 30 33 false rfl rfl (by simp) (by simp <;> omega) rfl ?_; simp
      refine WL.op [] rfl (by simp <;> omega) rfl ?_; simp
      exact hr _ (Wz.to rfl rfl rfl (by simp [g33]))
  simp at hT; subst hT
  refine WL.mid 4 [0] [] [(40, .d (.lf (.bool (low n || dig n || decide (n = 39) || decide (n = 45) || decide (n = 43) || decide (n = 42) || decide (n = 60) || decide (n = 61)))))] [] (fun hr => ?_) fun T hT => ?_
  · refine WL.op [] rfl (by simp <;> omega) rfl ?_; simp
    refine WL.split 37 _ rfl (fun g37 => ?_) fun g37 => ?_ <;> try simp at g37
    · simp
      refine WL.no2 hD 34 37 false rfl rfl (by simp) (by simp) rfl ?_; simp
      refine WL.no2 hD 34 37 false rfl rfl (by simp) (by simp) rfl ?_; simp
      refine WL.op [] rfl (by simp <;> omega) rfl ?_; simp
      exact hr _ (Wz.to rfl rfl rfl (by simp [g37]))
    · simp
      refine WL.opG [] hD 34 37 false rfl rfl (by simp) (by simp <;> omega) rfl ?_; simp
      refine WL.opG [] hD 34 37 false rfl rfl (by simp) (by simp <;> omega) rfl ?_; simp
      refine WL.op [] rfl (by simp <;> omega) rfl ?_; simp
      exact hr _ (Wz.to rfl rfl rfl (by simp [g37]))
  simp at hT; subst hT
  refine WL.mid 4 [] [] [(44, .d (.lf (.bool (low n || dig n || decide (n = 39) || decide (n = 45) || decide (n = 43) || decide (n = 42) || decide (n = 60) || decide (n = 61) || decide (n = 46)))))] [] (fun hr => ?_) fun T hT => ?_
  · refine WL.op [] rfl (by simp <;> omega) rfl ?_; simp
    refine WL.split 41 _ rfl (fun g41 => ?_) fun g41 => ?_ <;> try simp at g41
    · simp
      refine WL.no2 hD 38 41 false rfl rfl (by simp) (by simp) rfl ?_; simp
      refine WL.no2 hD 38 41 false rfl rfl (by simp) (by simp) rfl ?_; simp
      refine WL.op [] rfl (by simp <;> omega) rfl ?_; simp
      exact hr _ (Wz.to rfl rfl rfl (by simp [g41]))
    · simp
      refine WL.opG [] hD 38 41 false rfl rfl (by simp) (by simp <;> omega) rfl ?_; simp
      refine WL.opG [] hD 38 41 false rfl rfl (by simp) (by simp <;> omega) rfl ?_; simp
      refine WL.op [] rfl (by simp <;> omega) rfl ?_; simp
      exact hr _ (Wz.to rfl rfl rfl (by simp [g41]))
  simp at hT; subst hT
  refine WL.op [] rfl (by simp <;> omega) rfl ?_; simp
  refine WL.nil (hK _ ?_)
  refine W.ret ⟨.inr rfl, ⟨_, rfl⟩, ?_⟩
  simp [Tryz.f257, atB]
theorem sAtom_d (s : ByteArray) (hs : s.size ≤ 1048576) (h : HP) : CS cx.P 243 [.d (.lf (.string s))] h (.d (.lf (.bool (isAt s)))) h := by
  refine CS.run (fn := Tryz.f243) ⟨Tryz.func243, rfl, rfl⟩ _ _ _ _ 18 rfl (by simp) ?_
  refine W.seq ?_
  apply W.regS; intro _ K hK
  refine WL.op [] rfl (by simp <;> omega) rfl ?_; simp
  exact WL.nil hK
  refine W.seq ?_
  refine W.seq ?_
  apply W.regS; intro _ K hK
  refine WL.op [] rfl (by simp <;> omega) rfl ?_; simp
  exact WL.nil hK
  refine W.block ?_
  refine W.loopI [0] [] (fun k0 => [(3, .d (.lf (.int .i64 (k0 : Int))))]) (fun _ => []) s.size (fun k0 => ∀ j, j < k0 → (fun i => atB (bt s i)) j = true) rfl (by simp) (by simp) fun k0 hk0 hi0 T hT => ?_
  simp at hT; subst hT
  refine W.seq ?_
  refine W.seq ?_
  apply W.regS; intro _ K hK
  iterate 4 (refine WL.op [] rfl (by simp <;> omega) rfl ?_; simp)
  exact WL.nil hK
  refine W.condS _ rfl trivial (fun hb0 => ?_) fun hb0 => ?_ <;> try simp at hb0
  · have hx := ixNext hb0 (by omega)
    refine W.skip ?_
    refine W.seq ?_
    refine W.block ?_
    refine W.seq ?_
    apply W.regS; intro _ K hK
    iterate 3 (refine WL.op [] rfl (by simp [hb0, hx] <;> omega) rfl ?_; simp [hb0, hx])
    refine WL.call [] _ _ _ rfl rfl (by simp) (g := 257) (caps := []) (by simp) (by simp) (fn := Tryz.f257) ⟨Tryz.func257, rfl, rfl⟩ rfl (by simp [hb0, hx]) (by simp) (by simp [hb0, hx]) (l2Byte_d ((bt s k0 : Nat) : Int) _) rfl ?_; simp [hb0, hx]
    refine WL.op [] rfl (by simp [hb0, hx] <;> omega) rfl ?_; simp [hb0, hx]
    exact WL.nil hK
    refine W.condS _ rfl trivial (fun hb1 => ?_) fun hb1 => ?_ <;> try simp at hb1
    · have hall := allB_false (n := s.size) (p := fun i => atB (bt s i)) hb0 (by simpa using hb1)
      refine W.seq ?_
      apply W.regS; intro _ K hK
      refine WL.op [] rfl (by simp [hb0, hx] <;> omega) rfl ?_; simp [hb0, hx]
      exact WL.nil hK
      refine W.ret ⟨.inr rfl, ⟨_, rfl⟩, ?_⟩
      simp [Tryz.f243, isAt, hall]
    · refine W.skip ?_
      apply W.regS; intro _ K hK
      iterate 3 (refine WL.op [] rfl (by simp [hb0, hx] <;> omega) rfl ?_; simp [hb0, hx])
      exact WL.nil hK
      refine ⟨hb0, step_all hi0 (by simpa using hb1), Wz.to rfl rfl rfl ?_⟩
      simp
  · have hkl : k0 = s.size := by omega
    subst hkl
    have hall := allB_true hi0
    refine W.exit ?_
    refine W.seq ?_
    apply W.regS; intro _ K hK
    iterate 2 (refine WL.op [] rfl (by simp <;> omega) rfl ?_; simp)
    refine WL.call [] _ _ _ rfl rfl (by simp) (g := 93) (caps := []) (by simp) (by simp) (fn := Tryz.f93) ⟨Tryz.func93, rfl, rfl⟩ rfl (by simp) (by simp) (by simp) (l1In_d s.size 1 12 _) rfl ?_; simp
    refine WL.op [] rfl (by simp <;> omega) rfl ?_; simp
    exact WL.nil hK
    refine W.ret ⟨.inr rfl, ⟨_, rfl⟩, ?_⟩
    simp [Tryz.f243, isAt, hall]
def idxS (l : List ByteArray) (s : ByteArray) : Int := match l.findIdx? fun x => decide (x = s) with
  | some i => (i : Int)
  | none => -1
theorem idxS_at {l : List ByteArray} {s : ByteArray} {k : Nat} (h : ∀ j, j < k → l[j]? ≠ some s) (hk : k < l.length) (e : l[k] = s) : idxS l s = (k : Int) := by
  have : l.findIdx? (fun x => decide (x = s)) = some k := by
    rw [List.findIdx?_eq_some_iff_getElem]
    refine ⟨hk, by simp [e], fun j hj => ?_⟩
    have := h j hj
    rw [List.getElem?_eq_getElem (by omega)] at this
    simpa using this
  unfold idxS; rw [this]
theorem idxS_no {l : List ByteArray} {s : ByteArray} (h : s ∉ l) : idxS l s = -1 := by
  have : l.findIdx? (fun x => decide (x = s)) = none := by
    rw [List.findIdx?_eq_none_iff]
    intro x hx
    have : x ≠ s := fun e => h (e ▸ hx)
    simpa using this
  unfold idxS; rw [this]
theorem idxS_has (l : List ByteArray) (s : ByteArray) : decide (0 ≤ idxS l s) = hasS l s := by
  unfold idxS
  cases h : l.findIdx? fun x => decide (x = s) with
  | none =>
    rw [List.findIdx?_eq_none_iff] at h
    rw [hasS_false (fun q => by simpa using h s q)]; rfl
  | some i =>
    rw [List.findIdx?_eq_some_iff_getElem] at h
    obtain ⟨h1, h2, -⟩ := h
    have h3 : l[i] = s := by simpa using h2
    rw [hasS_true (h3 ▸ List.getElem_mem h1)]
    simp
theorem Index_d (l : List ByteArray) (s : ByteArray) (hm : l.length ≤ 1048576) (h : HP) : CS cx.P 261 [.d (.sl false .one (l.map dS)), .d (.lf (.string s))] h (.d (.lf (.int .i64 (idxS l s)))) h := by
  refine CS.run (fn := Tryz.f261) ⟨Tryz.func261, rfl, rfl⟩ _ _ _ _ 19 rfl (by simp) ?_
  refine W.seq ?_
  apply W.regS; intro _ K hK
  refine WL.op [] rfl (by simp <;> omega) rfl ?_; simp
  exact WL.nil hK
  refine W.seq ?_
  refine W.seq ?_
  apply W.regS; intro _ K hK
  iterate 3 (refine WL.op [] rfl (by simp <;> omega) rfl ?_; simp)
  exact WL.nil hK
  refine W.block ?_
  refine W.loopI [0, 1, 7] [] (fun k0 => [(8, .d (.lf (.int .i64 (k0 : Int))))]) (fun _ => []) l.length (fun k0 => ∀ j, j < k0 → l[j]? ≠ some s) rfl (by simp) (by simp) fun k0 hk0 hi0 T hT => ?_
  simp at hT; subst hT
  refine W.seq ?_
  apply W.regS; intro _ K hK
  refine WL.op [] rfl (by simp <;> omega) rfl ?_; simp
  exact WL.nil hK
  refine W.seq ?_
  refine W.condS _ rfl trivial (fun hb0 => ?_) fun hb0 => ?_ <;> try simp at hb0
  · have hx := ixNext hb0 (by omega)
    refine W.skip ?_
    refine W.seq ?_
    refine W.block ?_
    refine W.seq ?_
    apply W.regS; intro _ K hK
    iterate 2 (refine WL.op [] rfl (by simp [hb0, hx] <;> omega) rfl ?_; simp [hb0, hx])
    exact WL.nil hK
    refine W.seq ?_
    apply W.regS; intro _ K hK
    iterate 6 (refine WL.op [] rfl (by simp [hb0, hx] <;> omega) rfl ?_; simp [hb0, hx])
    exact WL.nil hK
    refine W.condS _ rfl trivial (fun hb1 => ?_) fun hb1 => ?_ <;> try simp at hb1
    · have hres := idxS_at hi0 hb0 hb1.symm
      refine W.seq ?_
      apply W.regS; intro _ K hK
      iterate 2 (refine WL.op [] rfl (by simp [hb0, hx] <;> omega) rfl ?_; simp [hb0, hx])
      exact WL.nil hK
      refine W.ret ⟨.inr rfl, ⟨_, rfl⟩, ?_⟩
      simp [Tryz.f261, hres]
    · refine W.skip ?_
      apply W.regS; intro _ K hK
      iterate 2 (refine WL.op [] rfl (by simp [hb0, hx] <;> omega) rfl ?_; simp [hb0, hx])
      exact WL.nil hK
      refine ⟨hb0, notAt_step hi0 hb0 (fun e => hb1 e.symm), Wz.to rfl rfl rfl ?_⟩
      simp
  · have hkl : k0 = l.length := by omega
    subst hkl
    have hres := idxS_no (notAt_all hi0)
    refine W.exit ?_
    refine W.seq ?_
    apply W.regS; intro _ K hK
    refine WL.op [] rfl (by simp <;> omega) rfl ?_; simp
    exact WL.nil hK
    refine W.ret ⟨.inr rfl, ⟨_, rfl⟩, ?_⟩
    simp [Tryz.f261, hres]
theorem Contains_d (l : List ByteArray) (s : ByteArray) (hm : l.length ≤ 1048576) (h : HP) : CS cx.P 250 [.d (.sl false .one (l.map dS)), .d (.lf (.string s))] h (.d (.lf (.bool (hasS l s)))) h := by
  refine CS.run (fn := Tryz.f250) ⟨Tryz.func250, rfl, rfl⟩ _ _ _ _ 9 rfl (by simp) ?_
  refine W.seq ?_
  apply W.regS; intro _ K hK
  refine WL.op [] rfl (by simp <;> omega) rfl ?_; simp
  exact WL.nil hK
  refine W.seq ?_
  apply W.regS; intro _ K hK
  iterate 2 (refine WL.op [] rfl (by simp <;> omega) rfl ?_; simp)
  refine WL.call [] _ _ _ rfl rfl (by simp) (g := 261) (caps := []) (by simp) (by simp) (fn := Tryz.f261) ⟨Tryz.func261, rfl, rfl⟩ rfl (by simp) (by simp) (by simp) (Index_d l s hm _) rfl ?_; simp
  iterate 2 (refine WL.op [] rfl (by simp <;> omega) rfl ?_; simp)
  exact WL.nil hK
  refine W.ret ⟨.inr rfl, ⟨_, rfl⟩, ?_⟩
  simp [Tryz.f250, ← idxS_has]
theorem iReserved_d (s : ByteArray) (h : HP) : CS cx.P 230 [.d (.lf (.string s))] h (.d (.lf (.bool (hasS rsv s)))) h := by
  refine CS.run (fn := Tryz.f230) ⟨Tryz.func230, rfl, rfl⟩ _ _ _ _ 6 rfl (by simp) ?_
  refine W.seq ?_
  apply W.regS; intro _ K hK
  refine WL.op [] rfl (by simp [rsv] <;> omega) rfl ?_; simp [rsv]
  exact WL.nil hK
  refine W.seq ?_
  apply W.regS; intro _ K hK
  iterate 2 (refine WL.op [] rfl (by simp [rsv] <;> omega) rfl ?_; simp [rsv])
  refine WL.call [] _ _ _ rfl rfl (by simp) (g := 250) (caps := []) (by simp) (by simp) (fn := Tryz.f250) ⟨Tryz.func250, rfl, rfl⟩ rfl (by simp [rsv]) (by simp) (by simp [rsv]) (Contains_d rsv s (by decide) _) rfl ?_; simp [rsv]
  refine WL.op [] rfl (by simp [rsv] <;> omega) rfl ?_; simp [rsv]
  exact WL.nil hK
  refine W.ret ⟨.inr rfl, ⟨_, rfl⟩, ?_⟩
  simp [Tryz.f230, rsv]
theorem iName_d (s : ByteArray) (hs : s.size ≤ 1048576) (h : HP) : CS cx.P 188 [.d (.lf (.string s))] h (.d (.lf (.bool (isNm s)))) h := by
  refine CS.run (fn := Tryz.f188) ⟨Tryz.func188, rfl, rfl⟩ _ _ _ _ 39 rfl (by simp) ?_
  refine W.seq ?_
  apply W.regS; intro _ K hK
  refine WL.op [] rfl (by simp <;> omega) rfl ?_; simp
  exact WL.nil hK
  refine W.seq ?_
  refine W.seq ?_
  apply W.regS; intro _ K hK
  iterate 3 (refine WL.op [] rfl (by simp <;> omega) rfl ?_; simp)
  exact WL.nil hK
  refine W.block ?_
  refine W.loopI [0, 5] [] (fun k0 => [(6, .d (.lf (.int .i64 (k0 : Int))))]) (fun _ => []) s.size (fun k0 => ∀ j, j < k0 → nameAt s j = true) rfl (by simp) (by simp) fun k0 hk0 hi0 T hT => ?_
  simp at hT; subst hT
  refine W.seq ?_
  apply W.regS; intro _ K hK
  refine WL.op [] rfl (by simp <;> omega) rfl ?_; simp
  exact WL.nil hK
  refine W.seq ?_
  refine W.condS _ rfl trivial (fun hb0 => ?_) fun hb0 => ?_ <;> try simp at hb0
  · have hx := ixNext hb0 (by omega)
    refine W.skip ?_
    refine W.seq ?_
    refine W.block ?_
    refine W.seq ?_
    apply W.regS; intro _ K hK
    iterate 2 (refine WL.op [] rfl (by simp [hb0, hx] <;> omega) rfl ?_; simp [hb0, hx])
    exact WL.nil hK
    refine W.seq ?_
    refine W.regJ (D := [some 9, some 10, some 11, some 12, some 13, some 14, some 15, some 16, some 17, some 18, some 19, some 20, some 21, some 22, some 23, some 24]) [0, 5, 6] [] [(24, .d (.lf (.bool (!nameAt s k0))))] [] rfl (fun _ K hD hK => ?_) fun T hT => ?_
    iterate 3 (refine WL.op [] rfl (by simp [hb0, hx] <;> omega) rfl ?_; simp [hb0, hx])
    refine WL.call [] _ _ _ rfl rfl (by simp) (g := 229) (caps := []) (by simp) (by simp) (fn := Tryz.f229) ⟨Tryz.func229, rfl, rfl⟩ rfl (by simp [hb0, hx]) (by simp) (by simp [hb0, hx]) (isLower_d ((bt s k0 : Nat) : Int) _) rfl ?_; simp [hb0, hx]
    iterate 2 (refine WL.op [] rfl (by simp [hb0, hx] <;> omega) rfl ?_; simp [hb0, hx])
    refine WL.split 14 _ rfl (fun g14 => ?_) fun g14 => ?_ <;> try simp at g14
    · simp [hb0, hx]
      refine WL.opG [] hD 5 14 true rfl rfl (by simp) (by simp [hb0, hx] <;> omega) rfl ?_; simp [hb0, hx]
      refine WL.opG [] hD 5 14 true rfl rfl (by simp) (by simp [hb0, hx] <;> omega) rfl ?_; simp [hb0, hx]
      refine WL.opG [] hD 5 14 true rfl rfl (by simp) (by simp [hb0, hx] <;> omega) rfl ?_; simp [hb0, hx]
      refine WL.split 17 _ rfl (fun g17 => ?_) fun g17 => ?_ <;> try simp at g17
      · have e0 := g17
        subst e0
        simp [hb0, hx]
        refine WL.no2 hD 8 17 false rfl rfl (by simp) (by simp) rfl ?_; simp [hb0, hx]
        refine WL.no2 hD 8 17 false rfl rfl (by simp) (by simp) rfl ?_; simp [hb0, hx]
        refine WL.no2 hD 8 17 false rfl rfl (by simp) (by simp) rfl ?_; simp [hb0, hx]
        refine WL.no2 hD 8 17 false rfl rfl (by simp) (by simp) rfl ?_; simp [hb0, hx]
        refine WL.no2 hD 8 17 false rfl rfl (by simp) (by simp) rfl ?_; simp [hb0, hx]
        refine WL.opG [] hD 5 14 true rfl rfl (by simp) (by simp [hb0, hx] <;> omega) rfl ?_; simp [hb0, hx]
        refine WL.op [] rfl (by simp [hb0, hx] <;> omega) rfl ?_; simp [hb0, hx]
        refine WL.nil (hK _ (Wz.to rfl rfl rfl ?_))
        simp [nameAt, g14, g17]
      · simp [hb0, hx]
        refine WL.opG [] hD 8 17 false rfl rfl (by simp) (by simp [hb0, hx] <;> omega) rfl ?_; simp [hb0, hx]
        refine WL.opG [] hD 8 17 false rfl rfl (by simp) (by simp [hb0, hx] <;> omega) rfl ?_; simp [hb0, hx]
        refine WL.opG [] hD 8 17 false rfl rfl (by simp) (by simp [hb0, hx] <;> omega) rfl ?_; simp [hb0, hx]
        refine WL.callG hD 8 17 false rfl rfl (by simp) [] _ _ _ rfl (by simp) (g := 228) (caps := []) (by simp) (by simp) (fn := Tryz.f228) ⟨Tryz.func228, rfl, rfl⟩ rfl (by simp [hb0, hx]) (by simp) (by simp [hb0, hx]) (isDigit_d ((bt s k0 : Nat) : Int) _) rfl ?_; simp [hb0, hx]
        refine WL.opG [] hD 8 17 false rfl rfl (by simp) (by simp [hb0, hx] <;> omega) rfl ?_; simp [hb0, hx]
        refine WL.opG [] hD 5 14 true rfl rfl (by simp) (by simp [hb0, hx] <;> omega) rfl ?_; simp [hb0, hx]
        refine WL.op [] rfl (by simp [hb0, hx] <;> omega) rfl ?_; simp [hb0, hx]
        refine WL.nil (hK _ (Wz.to rfl rfl rfl ?_))
        simp [nameAt, g14, g17]
    · simp [hb0, hx]
      refine WL.no2 hD 5 14 true rfl rfl (by simp) (by simp) rfl ?_; simp [hb0, hx]
      refine WL.no2 hD 5 14 true rfl rfl (by simp) (by simp) rfl ?_; simp [hb0, hx]
      refine WL.no2 hD 5 14 true rfl rfl (by simp) (by simp) rfl ?_; simp [hb0, hx]
      refine WL.no2 hD 8 17 false rfl rfl (by simp) (by simp) rfl ?_; simp [hb0, hx]
      refine WL.no2 hD 8 17 false rfl rfl (by simp) (by simp) rfl ?_; simp [hb0, hx]
      refine WL.no2 hD 8 17 false rfl rfl (by simp) (by simp) rfl ?_; simp [hb0, hx]
      refine WL.no2 hD 8 17 false rfl rfl (by simp) (by simp) rfl ?_; simp [hb0, hx]
      refine WL.no2 hD 8 17 false rfl rfl (by simp) (by simp) rfl ?_; simp [hb0, hx]
      refine WL.no2 hD 5 14 true rfl rfl (by simp) (by simp) rfl ?_; simp [hb0, hx]
      refine WL.op [] rfl (by simp [hb0, hx] <;> omega) rfl ?_; simp [hb0, hx]
      refine WL.nil (hK _ (Wz.to rfl rfl rfl ?_))
      simp [nameAt, g14]
    simp at hT; subst hT
    refine W.condS _ rfl trivial (fun hb1 => ?_) fun hb1 => ?_ <;> try simp at hb1
    · have hall := allB_false (n := s.size) hb0 (by simpa using hb1 : nameAt s k0 = false)
      refine W.seq ?_
      apply W.regS; intro _ K hK
      refine WL.op [] rfl (by simp [hb0, hx] <;> omega) rfl ?_; simp [hb0, hx]
      exact WL.nil hK
      refine W.ret ⟨.inr rfl, ⟨_, rfl⟩, ?_⟩
      simp [Tryz.f188, isNm, within, hall] <;> omega
    · refine W.skip ?_
      apply W.regS; intro _ K hK
      iterate 2 (refine WL.op [] rfl (by simp [hb0, hx] <;> omega) rfl ?_; simp [hb0, hx])
      exact WL.nil hK
      refine ⟨hb0, step_all hi0 (by simpa using hb1), Wz.to rfl rfl rfl ?_⟩
      simp
  · have hkl : k0 = s.size := by omega
    subst hkl
    have hall := allB_true hi0
    refine W.exit ?_
    refine W.seq ?_
    refine W.regJ0 (D := [some 26, some 27, some 28, some 29, some 30, some 31, some 32, some 33, some 34, some 35, some 36, some 37, some 38, some 2]) rfl fun _ K hD hK => ?_
    iterate 4 (refine WL.op [] rfl (by simp <;> omega) rfl ?_; simp)
    refine WL.split 29 _ rfl (fun g29 => ?_) fun g29 => ?_ <;> try simp at g29
    · simp
      refine WL.opG [] hD 3 29 true rfl rfl (by simp) (by simp <;> omega) rfl ?_; simp
      refine WL.opG [] hD 3 29 true rfl rfl (by simp) (by simp <;> omega) rfl ?_; simp
      refine WL.opG [] hD 3 29 true rfl rfl (by simp) (by simp <;> omega) rfl ?_; simp
      iterate 2 (refine WL.op [] rfl (by simp <;> omega) rfl ?_; simp)
      refine WL.split 34 _ rfl (fun g34 => ?_) fun g34 => ?_ <;> try simp at g34
      · simp
        refine WL.opG [] hD 8 34 true rfl rfl (by simp) (by simp <;> omega) rfl ?_; simp
        refine WL.callG hD 8 34 true rfl rfl (by simp) [] _ _ _ rfl (by simp) (g := 230) (caps := []) (by simp) (by simp) (fn := Tryz.f230) ⟨Tryz.func230, rfl, rfl⟩ rfl (by simp) (by simp) (by simp) (iReserved_d s _) rfl ?_; simp
        refine WL.opG [] hD 8 34 true rfl rfl (by simp) (by simp <;> omega) rfl ?_; simp
        iterate 2 (refine WL.op [] rfl (by simp <;> omega) rfl ?_; simp)
        refine WL.nil (hK _ ?_)
        refine W.ret ⟨.inr rfl, ⟨_, rfl⟩, ?_⟩
        simp [Tryz.f188, isNm, within, hall, g29, g34] <;> omega
      · simp
        refine WL.no2 hD 8 34 true rfl rfl (by simp) (by simp) rfl ?_; simp
        refine WL.no2 hD 8 34 true rfl rfl (by simp) (by simp) rfl ?_; simp
        refine WL.no2 hD 8 34 true rfl rfl (by simp) (by simp) rfl ?_; simp
        iterate 2 (refine WL.op [] rfl (by simp <;> omega) rfl ?_; simp)
        refine WL.nil (hK _ ?_)
        refine W.ret ⟨.inr rfl, ⟨_, rfl⟩, ?_⟩
        simp [Tryz.f188, isNm, within, hall, g29, g34] <;> omega
    · simp
      refine WL.no2 hD 3 29 true rfl rfl (by simp) (by simp) rfl ?_; simp
      refine WL.no2 hD 3 29 true rfl rfl (by simp) (by simp) rfl ?_; simp
      refine WL.no2 hD 3 29 true rfl rfl (by simp) (by simp) rfl ?_; simp
      iterate 2 (refine WL.op [] rfl (by simp <;> omega) rfl ?_; simp)
      refine WL.no2 hD 8 34 true rfl rfl (by simp) (by simp) rfl ?_; simp
      refine WL.no2 hD 8 34 true rfl rfl (by simp) (by simp) rfl ?_; simp
      refine WL.no2 hD 8 34 true rfl rfl (by simp) (by simp) rfl ?_; simp
      iterate 2 (refine WL.op [] rfl (by simp <;> omega) rfl ?_; simp)
      refine WL.nil (hK _ ?_)
      refine W.ret ⟨.inr rfl, ⟨_, rfl⟩, ?_⟩
      simp [Tryz.f188, isNm, within, hall, g29] <;> omega
end Go.Proofs.YtkmiecgcibjkbaaGreat
namespace Go.Proofs.YtkmiecgcibjkbaaGreat
open Go.RowKit
set_option maxRecDepth 10000
set_option linter.unusedSimpArgs false
set_option maxHeartbeats 4000000
mutual
def tSize : TType → Nat
  | ⟨_, _, l⟩ => 1 + tSizes l
def tSizes : List TType → Nat
  | [] => 0
  | x :: l => tSize x + tSizes l
end
mutual
def tDepth : TType → Nat
  | ⟨_, _, l⟩ => tDepths l
def tDepths : List TType → Nat
  | [] => 0
  | x :: l => max (tDepth x + 1) (tDepths l)
end
theorem tSizes_app : ∀ a b : List TType, tSizes (a ++ b) = tSizes a + tSizes b
  | [], b => by simp [tSizes]
  | x :: a, b => by simp only [List.cons_append, tSizes, tSizes_app a b]; omega
theorem tDepths_app : ∀ a b : List TType, tDepths (a ++ b) = max (tDepths a) (tDepths b)
  | [], b => by simp [tDepths]
  | x :: a, b => by simp only [List.cons_append, tDepths, tDepths_app a b]; exact (Nat.max_assoc _ _ _).symm
mutual
theorem tSize_le : ∀ x : TType, tSize x ≤ 1 + x.sz
  | ⟨_, _, l⟩ => by simp only [tSize, TType.sz]; have := tSizes_le l; omega
theorem tSizes_le : ∀ l : List TType, tSizes l ≤ l.length + TType.szLs l
  | [] => by simp [tSizes, TType.szLs]
  | x :: l => by simp only [tSizes, TType.szLs, List.length_cons]; have := tSize_le x; have := tSizes_le l; omega
end
mutual
theorem tDepth_le : ∀ x : TType, tDepth x ≤ x.sz
  | ⟨_, _, l⟩ => by simp only [tDepth, TType.sz]; have := tDepths_le l; omega
theorem tDepths_le : ∀ l : List TType, tDepths l ≤ l.length + TType.szLs l
  | [] => by simp [tDepths, TType.szLs]
  | x :: l => by simp only [tDepths, TType.szLs, List.length_cons]; have := tDepth_le x; have := tDepths_le l; omega
end
def tSzk (l : List TType) (k : Nat) : Nat := 1 + tSizes (l.take k)
theorem tSzk_zero (l : List TType) : tSzk l 0 = 1 := rfl
theorem tSzk_full (x : TType) : tSzk x.fArgs x.fArgs.length = tSize x := by cases x; simp [tSzk, tSize]
theorem tSzk_step {l : List TType} {k : Nat} (h : k < l.length) (hz : szs TType.sz l ≤ 1048576) : IntKind.i64.wrap ((tSzk l k : Int) + (tSize l[k] : Int)) = (tSzk l (k + 1) : Int) := by
  have h1 : tSzk l (k + 1) = tSzk l k + tSize l[k] := by
    unfold tSzk
    rw [List.take_succ_eq_append_getElem h, tSizes_app]; simp [tSizes]; omega
  have h2 : tSzk l (k + 1) ≤ 1 + tSizes l := by
    unfold tSzk
    have := tSizes_app (l.take (k + 1)) (l.drop (k + 1))
    rw [List.take_append_drop] at this; omega
  have h3 := tSizes_le l
  rw [TType.szLs_eq] at h3
  unfold szs at hz
  rw [i64w (by omega) (by omega)]; omega
def tDpk (l : List TType) (k : Nat) : Nat := tDepths (l.take k)
theorem tDpk_zero (l : List TType) : tDpk l 0 = 0 := rfl
theorem tDpk_full (x : TType) : tDpk x.fArgs x.fArgs.length = tDepth x := by cases x; simp [tDpk, tDepth]
theorem tDpk_step {l : List TType} {k : Nat} (h : k < l.length) : tDpk l (k + 1) = max (tDpk l k) (tDepth l[k] + 1) := by
  unfold tDpk
  rw [List.take_succ_eq_append_getElem h, tDepths_app]; simp [tDepths]
theorem TypeSize_a (x : TType) (hz : x.sz ≤ 1048576) (hc : ∀ y ∈ x.fArgs, ∀ h, CS cx.P 182 [.d (y.dd false)] h (.d (.lf (.int .i64 ((tSize y : Nat) : Int)))) h) (h : HP) : CS cx.P 182 [.d (x.dd false)] h (.d (.lf (.int .i64 ((tSize x : Nat) : Int)))) h := by
  have hz2 := x.sz_eq; unfold szs at hz2
  refine CS.run (fn := Tryz.f182) ⟨Tryz.func182, rfl, rfl⟩ _ _ _ _ 19 rfl (by simp) ?_
  refine W.seq ?_
  apply W.regS; intro _ K hK
  iterate 2 (refine WL.op [] rfl (by simp <;> omega) rfl ?_; simp)
  exact WL.nil hK
  refine W.seq ?_
  apply W.regS; intro _ K hK
  refine WL.op [] rfl (by simp <;> omega) rfl ?_; simp
  exact WL.nil hK
  refine W.seq ?_
  refine W.seq ?_
  apply W.regS; intro _ K hK
  iterate 4 (refine WL.op [] rfl (by simp <;> omega) rfl ?_; simp)
  exact WL.nil hK
  refine W.block ?_
  refine W.loopk [7, 8] [] (fun k0 => [(9, .d (.lf (.int .i64 (k0 : Int)))), (3, .d (.lf (.int .i64 ((tSzk x.fArgs k0 : Nat) : Int))))]) (fun _ => []) x.fArgs.length rfl (by simp [tSzk_zero]) fun k0 hk0 T hT => ?_
  simp at hT; subst hT
  refine W.seq ?_
  apply W.regS; intro _ K hK
  refine WL.op [] rfl (by simp <;> omega) rfl ?_; simp
  exact WL.nil hK
  refine W.seq ?_
  refine W.condS _ rfl trivial (fun hb0 => ?_) fun hb0 => ?_ <;> try simp at hb0
  · have hx := ixNext hb0 (by omega)
    have hw := tSzk_step hb0 (by unfold szs; omega)
    refine W.skip ?_
    refine W.seq ?_
    refine W.block ?_
    refine W.seq ?_
    apply W.regS; intro _ K hK
    refine WL.op [] rfl (by simp [hb0, hx, hw] <;> omega) rfl ?_; simp [hb0, hx, hw]
    refine WL.op [12] rfl (by simp [hb0, hx, hw] <;> omega) rfl ?_; simp [hb0, hx, hw]
    iterate 2 (refine WL.op [] rfl (by simp [hb0, hx, hw] <;> omega) rfl ?_; simp [hb0, hx, hw])
    exact WL.nil hK
    apply W.regS; intro _ K hK
    iterate 2 (refine WL.op [] rfl (by simp [hb0, hx, hw] <;> omega) rfl ?_; simp [hb0, hx, hw])
    refine WL.call [] _ _ _ rfl rfl (by simp) (g := 182) (caps := []) (by simp) (by simp) (fn := Tryz.f182) ⟨Tryz.func182, rfl, rfl⟩ rfl (by simp [hb0, hx, hw]) (by simp) (by simp [hb0, hx, hw]) (hc x.fArgs[k0] (List.getElem_mem hb0) _) rfl ?_; simp [hb0, hx, hw]
    iterate 2 (refine WL.op [] rfl (by simp [hb0, hx, hw] <;> omega) rfl ?_; simp [hb0, hx, hw])
    exact WL.nil hK
    apply W.regS; intro _ K hK
    iterate 2 (refine WL.op [] rfl (by simp [hb0, hx, hw] <;> omega) rfl ?_; simp [hb0, hx, hw])
    exact WL.nil hK
    refine ⟨hb0, Wz.to rfl rfl rfl ?_⟩
    simp
  · have hkl : k0 = x.fArgs.length := by omega
    subst hkl
    refine W.exit ?_
    refine W.seq ?_
    apply W.regS; intro _ K hK
    iterate 2 (refine WL.op [] rfl (by simp <;> omega) rfl ?_; simp)
    exact WL.nil hK
    refine W.ret ⟨.inr rfl, ⟨_, rfl⟩, ?_⟩
    simp [Tryz.f182, tSzk_full]
theorem tDpk_i {l : List TType} {k : Nat} (h : k < l.length) : (if (tDpk l k : Int) < (tDepth l[k] : Int) + 1 then (tDepth l[k] : Int) + 1 else (tDpk l k : Int)) = (tDpk l (k + 1) : Int) := by
  rw [tDpk_step h]; split <;> omega
theorem tDpk_s {l : List TType} {k : Nat} (h : k < l.length) : (if 1 + (tDepth l[k] : Int) < (tDpk l k : Int) then (tDpk l k : Int) else 1 + (tDepth l[k] : Int)) = (tDpk l (k + 1) : Int) := by
  rw [tDpk_step h]; split <;> omega
theorem l1Max_d (x y : Int) (h : HP) : CS cx.P 213 [.d (.lf (.int .i64 (x))), .d (.lf (.int .i64 (y)))] h (.d (.lf (.int .i64 (if y < x then x else y)))) h := by
  refine CS.run (fn := Tryz.f213) ⟨Tryz.func213, rfl, rfl⟩ _ _ _ _ 10 rfl (by simp) ?_
  refine W.seq ?_
  apply W.regS; intro _ K hK
  refine WL.op [] rfl (by simp <;> omega) rfl ?_; simp
  exact WL.nil hK
  refine W.seq ?_
  refine W.seq ?_
  apply W.regS; intro _ K hK
  iterate 3 (refine WL.op [] rfl (by simp <;> omega) rfl ?_; simp)
  exact WL.nil hK
  refine W.condS _ rfl trivial (fun hb0 => ?_) fun hb0 => ?_ <;> try simp at hb0
  · refine W.seq ?_
    apply W.regS; intro _ K hK
    iterate 2 (refine WL.op [] rfl (by simp <;> omega) rfl ?_; simp)
    exact WL.nil hK
    refine W.ret ⟨.inr rfl, ⟨_, rfl⟩, ?_⟩
    simp [Tryz.f213]
    omega
  · refine W.skip ?_
    refine W.seq ?_
    apply W.regS; intro _ K hK
    iterate 2 (refine WL.op [] rfl (by simp <;> omega) rfl ?_; simp)
    exact WL.nil hK
    refine W.ret ⟨.inr rfl, ⟨_, rfl⟩, ?_⟩
    simp [Tryz.f213]
    omega
theorem iDepth_a (x : TType) (hz : x.sz ≤ 1048576) (hc : ∀ y ∈ x.fArgs, ∀ h, CS cx.P 181 [.d (y.dd false)] h (.d (.lf (.int .i64 ((tDepth y : Nat) : Int)))) h) (h : HP) : CS cx.P 181 [.d (x.dd false)] h (.d (.lf (.int .i64 ((tDepth x : Nat) : Int)))) h := by
  have hz2 := x.sz_eq; unfold szs at hz2
  refine CS.run (fn := Tryz.f181) ⟨Tryz.func181, rfl, rfl⟩ _ _ _ _ 20 rfl (by simp) ?_
  refine W.seq ?_
  apply W.regS; intro _ K hK
  iterate 2 (refine WL.op [] rfl (by simp <;> omega) rfl ?_; simp)
  exact WL.nil hK
  refine W.seq ?_
  apply W.regS; intro _ K hK
  refine WL.op [] rfl (by simp <;> omega) rfl ?_; simp
  exact WL.nil hK
  refine W.seq ?_
  refine W.seq ?_
  apply W.regS; intro _ K hK
  iterate 4 (refine WL.op [] rfl (by simp <;> omega) rfl ?_; simp)
  exact WL.nil hK
  refine W.block ?_
  refine W.loopk [7, 8] [] (fun k0 => [(9, .d (.lf (.int .i64 (k0 : Int)))), (3, .d (.lf (.int .i64 ((tDpk x.fArgs k0 : Nat) : Int))))]) (fun _ => []) x.fArgs.length rfl (by simp [tDpk_zero]) fun k0 hk0 T hT => ?_
  simp at hT; subst hT
  refine W.seq ?_
  apply W.regS; intro _ K hK
  refine WL.op [] rfl (by simp <;> omega) rfl ?_; simp
  exact WL.nil hK
  refine W.seq ?_
  refine W.condS _ rfl trivial (fun hb0 => ?_) fun hb0 => ?_ <;> try simp at hb0
  · have hx := ixNext hb0 (by omega)
    have hd := tDepth_le x.fArgs[k0]; have hs := szL_le TType.sz (List.getElem_mem hb0)
    have hv := i64w (n := (tDepth x.fArgs[k0] : Int) + 1) (by omega) (by omega)
    have hw := tDpk_i hb0
    refine W.skip ?_
    refine W.seq ?_
    refine W.block ?_
    refine W.seq ?_
    apply W.regS; intro _ K hK
    refine WL.op [] rfl (by simp [hb0, hx, hw, hv] <;> omega) rfl ?_; simp [hb0, hx, hw, hv]
    refine WL.op [12] rfl (by simp [hb0, hx, hw, hv] <;> omega) rfl ?_; simp [hb0, hx, hw, hv]
    iterate 2 (refine WL.op [] rfl (by simp [hb0, hx, hw, hv] <;> omega) rfl ?_; simp [hb0, hx, hw, hv])
    exact WL.nil hK
    apply W.regS; intro _ K hK
    iterate 2 (refine WL.op [] rfl (by simp [hb0, hx, hw, hv] <;> omega) rfl ?_; simp [hb0, hx, hw, hv])
    refine WL.call [] _ _ _ rfl rfl (by simp) (g := 181) (caps := []) (by simp) (by simp) (fn := Tryz.f181) ⟨Tryz.func181, rfl, rfl⟩ rfl (by simp [hb0, hx, hw, hv]) (by simp) (by simp [hb0, hx, hw, hv]) (hc x.fArgs[k0] (List.getElem_mem hb0) _) rfl ?_; simp [hb0, hx, hw, hv]
    iterate 3 (refine WL.op [] rfl (by simp [hb0, hx, hw, hv] <;> omega) rfl ?_; simp [hb0, hx, hw, hv])
    exact WL.nil hK
    apply W.regS; intro _ K hK
    iterate 2 (refine WL.op [] rfl (by simp [hb0, hx, hw, hv] <;> omega) rfl ?_; simp [hb0, hx, hw, hv])
    exact WL.nil hK
    refine ⟨hb0, Wz.to rfl rfl rfl ?_⟩
    simp
  · have hkl : k0 = x.fArgs.length := by omega
    subst hkl
    refine W.exit ?_
    refine W.seq ?_
    apply W.regS; intro _ K hK
    iterate 2 (refine WL.op [] rfl (by simp <;> omega) rfl ?_; simp)
    exact WL.nil hK
    refine W.ret ⟨.inr rfl, ⟨_, rfl⟩, ?_⟩
    simp [Tryz.f181, tDpk_full]
theorem sDepth_a (x : TType) (hz : x.sz ≤ 1048576) (hc : ∀ y ∈ x.fArgs, ∀ h, CS cx.P 172 [.d (y.dd false)] h (.d (.lf (.int .i64 ((tDepth y : Nat) : Int)))) h) (h : HP) : CS cx.P 172 [.d (x.dd false)] h (.d (.lf (.int .i64 ((tDepth x : Nat) : Int)))) h := by
  have hz2 := x.sz_eq; unfold szs at hz2
  refine CS.run (fn := Tryz.f172) ⟨Tryz.func172, rfl, rfl⟩ _ _ _ _ 22 rfl (by simp) ?_
  refine W.seq ?_
  apply W.regS; intro _ K hK
  iterate 2 (refine WL.op [] rfl (by simp <;> omega) rfl ?_; simp)
  exact WL.nil hK
  refine W.seq ?_
  apply W.regS; intro _ K hK
  refine WL.op [] rfl (by simp <;> omega) rfl ?_; simp
  exact WL.nil hK
  refine W.seq ?_
  refine W.seq ?_
  apply W.regS; intro _ K hK
  refine WL.op [] rfl (by simp <;> omega) rfl ?_; simp
  exact WL.nil hK
  refine W.block ?_
  refine W.loopk [1] [1] (fun k0 => [(4, .d (.lf (.int .i64 (k0 : Int)))), (3, .d (.lf (.int .i64 ((tDpk x.fArgs k0 : Nat) : Int))))]) (fun _ => []) x.fArgs.length rfl (by simp [tDpk_zero]) fun k0 hk0 T hT => ?_
  simp at hT; subst hT
  refine W.seq ?_
  refine W.seq ?_
  apply W.regS; intro _ K hK
  iterate 5 (refine WL.op [] rfl (by simp <;> omega) rfl ?_; simp)
  exact WL.nil hK
  refine W.condS _ rfl trivial (fun hb0 => ?_) fun hb0 => ?_ <;> try simp at hb0
  · have hx := ixNext hb0 (by omega)
    have hd := tDepth_le x.fArgs[k0]; have hs := szL_le TType.sz (List.getElem_mem hb0)
    have hv := i64w (n := 1 + (tDepth x.fArgs[k0] : Int)) (by omega) (by omega)
    have hw := tDpk_s hb0
    refine W.skip ?_
    refine W.seq ?_
    refine W.block ?_
    apply W.regS; intro _ K hK
    iterate 6 (refine WL.op [] rfl (by simp [hb0, hx, hw, hv] <;> omega) rfl ?_; simp [hb0, hx, hw, hv])
    refine WL.call [] _ _ _ rfl rfl (by simp) (g := 172) (caps := []) (by simp) (by simp) (fn := Tryz.f172) ⟨Tryz.func172, rfl, rfl⟩ rfl (by simp [hb0, hx, hw, hv]) (by simp) (by simp [hb0, hx, hw, hv]) (hc x.fArgs[k0] (List.getElem_mem hb0) _) rfl ?_; simp [hb0, hx, hw, hv]
    refine WL.op [] rfl (by simp [hb0, hx, hw, hv] <;> omega) rfl ?_; simp [hb0, hx, hw, hv]
    refine WL.call [] _ _ _ rfl rfl (by simp) (g := 213) (caps := []) (by simp) (by simp) (fn := Tryz.f213) ⟨Tryz.func213, rfl, rfl⟩ rfl (by simp [hb0, hx, hw, hv]) (by simp) (by simp [hb0, hx, hw, hv]) (l1Max_d (tDpk x.fArgs k0) (1 + (tDepth x.fArgs[k0] : Int)) _) rfl ?_; simp [hb0, hx, hw, hv]
    refine WL.op [] rfl (by simp [hb0, hx, hw, hv] <;> omega) rfl ?_; simp [hb0, hx, hw, hv]
    exact WL.nil hK
    apply W.regS; intro _ K hK
    iterate 3 (refine WL.op [] rfl (by simp [hb0, hx, hw, hv] <;> omega) rfl ?_; simp [hb0, hx, hw, hv])
    exact WL.nil hK
    refine ⟨hb0, Wz.to rfl rfl rfl ?_⟩
    simp
  · have hkl : k0 = x.fArgs.length := by omega
    subst hkl
    refine W.exit ?_
    refine W.seq ?_
    apply W.regS; intro _ K hK
    iterate 2 (refine WL.op [] rfl (by simp <;> omega) rfl ?_; simp)
    exact WL.nil hK
    refine W.ret ⟨.inr rfl, ⟨_, rfl⟩, ?_⟩
    simp [Tryz.f172, tDpk_full]
end Go.Proofs.YtkmiecgcibjkbaaGreat
namespace Go.Proofs.YtkmiecgcibjkbaaGreat
open Go.RowKit
set_option maxRecDepth 10000
set_option linter.unusedSimpArgs false
set_option maxHeartbeats 4000000
theorem sAt_d (s : ByteArray) (h : HP) : CS cx.P 176 [.d (.lf (.string s))] h (.d (TSExpr.dd true ⟨s, []⟩)) h := by
  refine CS.run (fn := Tryz.f176) ⟨Tryz.func176, rfl, rfl⟩ _ _ _ _ 5 rfl (by simp) ?_
  refine W.seq ?_
  apply W.regS; intro _ K hK
  refine WL.op [] rfl (by simp <;> omega) rfl ?_; simp
  exact WL.nil hK
  refine W.seq ?_
  apply W.regS; intro _ K hK
  iterate 3 (refine WL.op [] rfl (by simp <;> omega) rfl ?_; simp)
  exact WL.nil hK
  refine W.ret ⟨.inr rfl, ⟨_, rfl⟩, ?_⟩
  simp [Tryz.f176]
theorem iAt_d (s : ByteArray) (h : HP) : CS cx.P 127 [.d (.lf (.string s))] h (.d (TSExpr.dd true ⟨s, []⟩)) h := by
  refine CS.run (fn := Tryz.f127) ⟨Tryz.func127, rfl, rfl⟩ _ _ _ _ 5 rfl (by simp) ?_
  refine W.seq ?_
  apply W.regS; intro _ K hK
  refine WL.op [] rfl (by simp <;> omega) rfl ?_; simp
  exact WL.nil hK
  refine W.seq ?_
  apply W.regS; intro _ K hK
  iterate 3 (refine WL.op [] rfl (by simp <;> omega) rfl ?_; simp)
  exact WL.nil hK
  refine W.ret ⟨.inr rfl, ⟨_, rfl⟩, ?_⟩
  simp [Tryz.f127]
theorem iList_d (l : List TSExpr) (h : HP) : CS cx.P 126 [.d (.sl true sh202 (l.map (TSExpr.dd true)))] h (.d (TSExpr.dd true ⟨⟨#[]⟩, l⟩)) h := by
  refine CS.run (fn := Tryz.f126) ⟨Tryz.func126, rfl, rfl⟩ _ _ _ _ 5 rfl (by simp) ?_
  refine W.seq ?_
  apply W.regS; intro _ K hK
  refine WL.op [] rfl (by simp <;> omega) rfl ?_; simp
  exact WL.nil hK
  refine W.seq ?_
  apply W.regS; intro _ K hK
  refine WL.op [3] rfl (by simp <;> omega) rfl ?_; simp
  iterate 2 (refine WL.op [] rfl (by simp <;> omega) rfl ?_; simp)
  exact WL.nil hK
  refine W.ret ⟨.inr rfl, ⟨_, rfl⟩, ?_⟩
  simp [Tryz.f126]
theorem sList_d (l : List TSExpr) (hm : l.length ≤ 1048576) (h : HP) : CS cx.P 177 [.d (.sl true sh202 (l.map (TSExpr.dd true)))] h (.d (TSExpr.dd true ⟨⟨#[]⟩, l⟩)) h := by
  refine CS.run (fn := Tryz.f177) ⟨Tryz.func177, rfl, rfl⟩ _ _ _ _ 7 rfl (by simp) ?_
  refine W.seq ?_
  apply W.regS; intro _ K hK
  refine WL.op [] rfl (by simp <;> omega) rfl ?_; simp
  exact WL.nil hK
  refine W.seq ?_
  apply W.regS; intro _ K hK
  refine WL.op [] rfl (by simp <;> omega) rfl ?_; simp
  refine WL.op [4] rfl (by simp <;> omega) rfl ?_; simp
  iterate 3 (refine WL.op [] rfl (by simp <;> omega) rfl ?_; simp)
  exact WL.nil hK
  refine W.ret ⟨.inr rfl, ⟨_, rfl⟩, ?_⟩
  simp [Tryz.f177]
theorem sCon_d (s : ByteArray) (h : HP) : CS cx.P 116 [.d (.lf (.string s)), .d (.sl true sh88 [])] h (.d (TType.dd true ⟨2, s, []⟩)) h := by
  refine CS.run (fn := Tryz.f116) ⟨Tryz.func116, rfl, rfl⟩ _ _ _ _ 10 rfl (by simp) ?_
  refine W.seq ?_
  apply W.regS; intro _ K hK
  refine WL.op [] rfl (by simp <;> omega) rfl ?_; simp
  exact WL.nil hK
  refine W.seq ?_
  apply W.regS; intro _ K hK
  iterate 2 (refine WL.op [] rfl (by simp <;> omega) rfl ?_; simp)
  refine WL.op [7] rfl (by simp <;> omega) rfl ?_; simp
  iterate 3 (refine WL.op [] rfl (by simp <;> omega) rfl ?_; simp)
  exact WL.nil hK
  refine W.ret ⟨.inr rfl, ⟨_, rfl⟩, ?_⟩
  simp [Tryz.f116]
end Go.Proofs.YtkmiecgcibjkbaaGreat
