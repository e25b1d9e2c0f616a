/- The functions mark.. of the laws. Conditions: the numbers begin at 0 or above and stay at or below 2 ^ 62. -/
import Derived.Test.YtkmiecgcibjkbaaGreatMkFlat
namespace Go.Proofs.YtkmiecgcibjkbaaGreat
open Go.RowKit
theorem infoM3 : (Tryz.prog.info? 3).map (·.size) = some 1 := by kernel_rfl
theorem infoM9 : (Tryz.prog.info? 9).map (·.size) = some 1 := by kernel_rfl
theorem infoM4 : (Tryz.prog.info? 4).map (·.size) = some 1 := by kernel_rfl
set_option maxRecDepth 100000 in
set_option maxHeartbeats 1000000 in
theorem markStringS_c (l : List ByteArray) : ∀ (w : World) (k : Int) (v : Value) (bs : List Nat) (_ : Own w (.sl (l.map encS)) [v] bs) (_ : bs.Nodup) (_ : 0 ≤ k) (_ : k + (cnts (l.map encS) : Nat) ≤ 4611686018427387904),
    Calls Tryz.prog 22 #[v, .int .i64 k] w fun e w' => e = .returned (.int .i64 (k + (cnts (l.map encS) : Nat))) ∧ Own w' (.sl (mks k (l.map encS))) [v] bs ∧ Kept w w' bs := by
  intro w k v bs h nd h0 hlim
  obtain ⟨a, cap, rfl, hcp, hm⟩ := own_valT h
  unfold maxLen at hm
  have H := Lib.hid (mark_start (k := k) h)
  clear h
  have Hlim := Lib.hid hlim
  have Hnd := Lib.hid nd
  clear nd hlim
  go_enter Tryz.func22, Tryz.ntmps22
  go_wp2
  go_loopw [5, 1] (fun i kk wr => ∃ (n : Nat) (c : Int), n ≤ l.length ∧ i = .int .i64 n ∧ kk = .int .i64 c ∧ 0 ≤ c ∧ Hid (c = k + (cnts ((l.map encS).take n) : Nat) ∧ Own wr (.sl (mks k ((l.map encS).take n) ++ (l.map encS).drop n)) [.slice a l.length cap] bs) ∧ Hid (Kept w wr bs)) (fun i _ _ => l.length - (intOf i).toNat)
  case atStart => exact ⟨0, k, Nat.zero_le _, rfl, rfl, h0, H, Lib.hid (Kept.refl _ _)⟩
  case round =>
    clear H
    obtain ⟨n, c, hn, rfl, rfl, hc0, Hs, Hk⟩ := hrel
    by_cases hlt : n < l.length
    · obtain ⟨b, off, t, rA, rd, rB, pre, cs, post, rfl, hbs, hr, hp, -, ho, hb, hd, hM, hN, hback⟩ := mark_at encS_w (by decide) hlt Hs.out.1 Hlim.out Hs.out.2 Hnd.out
      have HB := Lib.hid hback
      clear hback Hs Hlim Hnd
      generalize l[n] = x at *
      rw [cntS_flat] at hM hN
      obtain ⟨rfl, rfl⟩ := ownS_flat ho
      have HR := Lib.hid hr; have HP := Lib.hid hp; have HN := Lib.hid hN; have HD := Lib.hid hbs
      have HK : Hid (Kept wr wr (b :: ([]))) := Lib.hid (Kept.refl _ _)
      have HS : Hid (Kept wr wr [b]) := Lib.hid (Kept.refl _ _)
      clear hr hp hN hbs ho hd hb
      go_wp2_with fail
      refine (markText_c _ (by omega) _).mono ?_
      rintro e w1 ⟨rfl, hB1⟩
      replace HR := Lib.hid (HR.out.kept (Kept.of_below hB1 []) (by simp))
      replace HS := Lib.hid (HS.out.trans (Kept.of_below hB1 _))
      clear hB1
      go_wp2_with (with_reducible refine stW rfl 9 _ _ rfl b (off + n) rfl (.string (mtext (c))) rfl infoM9 rfl HR.out 0 (by have := HP.out; omega) (by simp) ?_)
      intro w2 hr hw
      replace HR := Lib.hid hr
      replace HS := Lib.hid (HS.out.trans (hw.kept (by simp)))
      clear hr hw
      replace HK := Lib.hid (HK.out.trans (HS.out.mono (fun x h => by simp only [List.mem_singleton] at h; simp [h])))
      have OF := Lib.hid (HB.out _ _ HR.out rfl HK.out (mkS_flat (by omega)))
      have KF := Lib.hid (Hk.out.trans (HK.out.mono (fun x h => sub_mid HD.out h)))
      rw [← HD.out] at OF
      clear HB HR HK HS HD HP Hk
      go_wp2
      go_roundw
      case rel => exact ⟨n + 1, _, hlt, by go_num, rfl, by omega, Lib.hid ⟨by have := HN.out; omega, OF.out⟩, KF⟩
      case measure => simp [intOf]; omega
    · obtain rfl : n = l.length := by omega
      have HE := Lib.hid (mark_end Hs.out.1 Hs.out.2)
      go_wp2
      go_ret
      exact ⟨ret_int HE.out.1, HE.out.2, Hk.out⟩
def MarkEvidenceS (N : Nat) : Prop := ∀ (l : List TEvidence), SizeOf.sizeOf l < N → ∀ (w : World) (k : Int) (v : Value) (bs : List Nat) (_ : Own w (.sl (l.map TEvidence.enc)) [v] bs) (_ : bs.Nodup) (_ : 0 ≤ k) (_ : k + (cnts (l.map TEvidence.enc) : Nat) ≤ 4611686018427387904),
    Calls Tryz.prog 79 #[v, .int .i64 k] w fun e w' => e = .returned (.int .i64 (k + (cnts (l.map TEvidence.enc) : Nat))) ∧ Own w' (.sl (mks k (l.map TEvidence.enc))) [v] bs ∧ Kept w w' bs
set_option maxRecDepth 100000 in
set_option maxHeartbeats 1000000 in
theorem stepMarkEvidenceS (N : Nat) (iMarkEvidenceS : MarkEvidenceS N) : MarkEvidenceS (N + 1) := by
  intro l hN w k v bs h nd h0 hlim
  obtain ⟨a, cap, rfl, hcp, hm⟩ := own_valT h
  unfold maxLen at hm
  have H := Lib.hid (mark_start (k := k) h)
  clear h
  have Hlim := Lib.hid hlim
  have Hnd := Lib.hid nd
  clear nd hlim
  go_enter Tryz.func79, Tryz.ntmps79
  go_wp2
  go_loopw [5, 1] (fun i kk wr => ∃ (n : Nat) (c : Int), n ≤ l.length ∧ i = .int .i64 n ∧ kk = .int .i64 c ∧ 0 ≤ c ∧ Hid (c = k + (cnts ((l.map TEvidence.enc).take n) : Nat) ∧ Own wr (.sl (mks k ((l.map TEvidence.enc).take n) ++ (l.map TEvidence.enc).drop n)) [.slice a l.length cap] bs) ∧ Hid (Kept w wr bs)) (fun i _ _ => l.length - (intOf i).toNat)
  case atStart => exact ⟨0, k, Nat.zero_le _, rfl, rfl, h0, H, Lib.hid (Kept.refl _ _)⟩
  case round =>
    clear H
    obtain ⟨n, c, hn, rfl, rfl, hc0, Hs, Hk⟩ := hrel
    by_cases hlt : n < l.length
    · obtain ⟨b, off, t, rA, rd, rB, pre, cs, post, rfl, hbs, hr, hp, -, ho, hb, hd, hM, hN, hback⟩ := mark_at TEvidence.width (by decide) hlt Hs.out.1 Hlim.out Hs.out.2 Hnd.out
      have HB := Lib.hid hback
      have hz : SizeOf.sizeOf l[n] < SizeOf.sizeOf l := List.sizeOf_lt_of_mem (List.getElem_mem hlt)
      clear hback Hs Hlim Hnd
      generalize l[n] = x at *
      rw [TEvidence.cnt_flat] at hM hN
      obtain ⟨c4, r4, rfl, rfl, o4⟩ := TEvidence.own_flat ho
      obtain ⟨n4, hd, y4⟩ := nd2 hd
      have b4 : b ∉ r4 := fun q => hb (by simp [q])
      have e4 : ∀ x ∈ r4, x ∉ [b] := fun x h1 h2 => b4 (by simp only [List.mem_singleton] at h2; exact h2 ▸ h1)
      have O4 := Lib.hid o4
      have HR := Lib.hid hr; have HP := Lib.hid hp; have HN := Lib.hid hN; have HD := Lib.hid hbs
      have HK : Hid (Kept wr wr (b :: (r4 ++ ([])))) := Lib.hid (Kept.refl _ _)
      have HS : Hid (Kept wr wr [b]) := Lib.hid (Kept.refl _ _)
      clear hr hp hN hbs ho hd hb o4 y4
      go_wp2_with (with_reducible refine stW rfl 3 _ _ rfl b (off + n * 5) rfl (.int .i64 (c)) rfl infoM3 rfl HR.out 0 (by have := HP.out; omega) (by simp) ?_)
      intro w1 hr hw
      replace HR := Lib.hid hr
      replace HS := Lib.hid (HS.out.trans (hw.kept (by simp)))
      clear hr hw
      go_wp2_with (with_reducible refine stW rfl 3 _ _ rfl b (off + n * 5 + 1) rfl (.int .i64 (c + 1)) rfl infoM3 rfl HR.out 1 (by have := HP.out; omega) (by simp) ?_)
      intro w2 hr hw
      replace HR := Lib.hid hr
      replace HS := Lib.hid (HS.out.trans (hw.kept (by simp)))
      clear hr hw
      go_wp2_with (with_reducible refine stW rfl 3 _ _ rfl b (off + n * 5 + 2) rfl (.int .i64 (c + 1 + 1)) rfl infoM3 rfl HR.out 2 (by have := HP.out; omega) (by simp) ?_)
      intro w3 hr hw
      replace HR := Lib.hid hr
      replace HS := Lib.hid (HS.out.trans (hw.kept (by simp)))
      clear hr hw
      go_wp2_with (with_reducible refine stW rfl 3 _ _ rfl b (off + n * 5 + 3) rfl (.int .i64 (c + 1 + 1 + 1)) rfl infoM3 rfl HR.out 3 (by have := HP.out; omega) (by simp) ?_)
      intro w4 hr hw
      replace HR := Lib.hid hr
      replace HS := Lib.hid (HS.out.trans (hw.kept (by simp)))
      clear hr hw
      replace HK := Lib.hid (HK.out.trans (HS.out.mono (fun x h => by simp only [List.mem_singleton] at h; simp [h])))
      replace O4 := Lib.hid (O4.out.kept HS.out e4)
      have g := (HR.out.cells HP.out) 4 _ rfl
      go_wp2_with fail
      refine (iMarkEvidenceS x.fArgs (by have := TEvidence.lt_fArgs x; omega) _ _ _ _ O4.out n4 (by omega) (by omega)).mono ?_
      rintro e w5 ⟨rfl, o4, hk⟩
      clear g
      replace O4 := Lib.hid o4
      replace HR := Lib.hid (HR.out.kept hk b4)
      replace HK := Lib.hid (HK.out.trans (hk.mono (fun x h => by simp [h])))
      replace HS : Hid (Kept w5 w5 [b]) := Lib.hid (Kept.refl _ _)
      clear o4 hk
      replace HK := Lib.hid (HK.out.trans (HS.out.mono (fun x h => by simp only [List.mem_singleton] at h; simp [h])))
      replace O4 := Lib.hid (O4.out.kept HS.out e4)
      have OF := Lib.hid (HB.out _ _ HR.out rfl HK.out (TEvidence.mk_flat hc0 (by rw [TEvidence.cnt_flat]; omega) O4.out))
      have KF := Lib.hid (Hk.out.trans (HK.out.mono (fun x h => sub_mid HD.out h)))
      rw [← HD.out] at OF
      clear HB HR HK HS HD HP Hk O4
      go_wp2
      go_roundw
      case rel => exact ⟨n + 1, _, hlt, by go_num, rfl, by omega, Lib.hid ⟨by have := HN.out; omega, OF.out⟩, KF⟩
      case measure => simp [intOf]; omega
    · obtain rfl : n = l.length := by omega
      have HE := Lib.hid (mark_end Hs.out.1 Hs.out.2)
      go_wp2
      go_ret
      exact ⟨ret_int HE.out.1, HE.out.2, Hk.out⟩
theorem MarkEvidenceS_all : ∀ N : Nat, MarkEvidenceS N
  | 0 => fun _ h => absurd h (Nat.not_lt_zero _)
  | N + 1 => by
    have i0 := MarkEvidenceS_all N
    exact stepMarkEvidenceS N i0
theorem markEvidenceS_c (l : List TEvidence) : ∀ (w : World) (k : Int) (v : Value) (bs : List Nat) (_ : Own w (.sl (l.map TEvidence.enc)) [v] bs) (_ : bs.Nodup) (_ : 0 ≤ k) (_ : k + (cnts (l.map TEvidence.enc) : Nat) ≤ 4611686018427387904),
    Calls Tryz.prog 79 #[v, .int .i64 k] w fun e w' => e = .returned (.int .i64 (k + (cnts (l.map TEvidence.enc) : Nat))) ∧ Own w' (.sl (mks k (l.map TEvidence.enc))) [v] bs ∧ Kept w w' bs := (MarkEvidenceS_all (SizeOf.sizeOf l + 1)) l (Nat.lt_succ_self _)
def MarkTypeS (N : Nat) : Prop := ∀ (l : List TType), SizeOf.sizeOf l < N → ∀ (w : World) (k : Int) (v : Value) (bs : List Nat) (_ : Own w (.sl (l.map TType.enc)) [v] bs) (_ : bs.Nodup) (_ : 0 ≤ k) (_ : k + (cnts (l.map TType.enc) : Nat) ≤ 4611686018427387904),
    Calls Tryz.prog 78 #[v, .int .i64 k] w fun e w' => e = .returned (.int .i64 (k + (cnts (l.map TType.enc) : Nat))) ∧ Own w' (.sl (mks k (l.map TType.enc))) [v] bs ∧ Kept w w' bs
set_option maxRecDepth 100000 in
set_option maxHeartbeats 1000000 in
theorem stepMarkTypeS (N : Nat) (iMarkTypeS : MarkTypeS N) : MarkTypeS (N + 1) := by
  intro l hN w k v bs h nd h0 hlim
  obtain ⟨a, cap, rfl, hcp, hm⟩ := own_valT h
  unfold maxLen at hm
  have H := Lib.hid (mark_start (k := k) h)
  clear h
  have Hlim := Lib.hid hlim
  have Hnd := Lib.hid nd
  clear nd hlim
  go_enter Tryz.func78, Tryz.ntmps78
  go_wp2
  go_loopw [5, 1] (fun i kk wr => ∃ (n : Nat) (c : Int), n ≤ l.length ∧ i = .int .i64 n ∧ kk = .int .i64 c ∧ 0 ≤ c ∧ Hid (c = k + (cnts ((l.map TType.enc).take n) : Nat) ∧ Own wr (.sl (mks k ((l.map TType.enc).take n) ++ (l.map TType.enc).drop n)) [.slice a l.length cap] bs) ∧ Hid (Kept w wr bs)) (fun i _ _ => l.length - (intOf i).toNat)
  case atStart => exact ⟨0, k, Nat.zero_le _, rfl, rfl, h0, H, Lib.hid (Kept.refl _ _)⟩
  case round =>
    clear H
    obtain ⟨n, c, hn, rfl, rfl, hc0, Hs, Hk⟩ := hrel
    by_cases hlt : n < l.length
    · obtain ⟨b, off, t, rA, rd, rB, pre, cs, post, rfl, hbs, hr, hp, -, ho, hb, hd, hM, hN, hback⟩ := mark_at TType.width (by decide) hlt Hs.out.1 Hlim.out Hs.out.2 Hnd.out
      have HB := Lib.hid hback
      have hz : SizeOf.sizeOf l[n] < SizeOf.sizeOf l := List.sizeOf_lt_of_mem (List.getElem_mem hlt)
      clear hback Hs Hlim Hnd
      generalize l[n] = x at *
      rw [TType.cnt_flat] at hM hN
      obtain ⟨c2, r2, rfl, rfl, o2⟩ := TType.own_flat ho
      obtain ⟨n2, hd, y2⟩ := nd2 hd
      have b2 : b ∉ r2 := fun q => hb (by simp [q])
      have e2 : ∀ x ∈ r2, x ∉ [b] := fun x h1 h2 => b2 (by simp only [List.mem_singleton] at h2; exact h2 ▸ h1)
      have O2 := Lib.hid o2
      have HR := Lib.hid hr; have HP := Lib.hid hp; have HN := Lib.hid hN; have HD := Lib.hid hbs
      have HK : Hid (Kept wr wr (b :: (r2 ++ ([])))) := Lib.hid (Kept.refl _ _)
      have HS : Hid (Kept wr wr [b]) := Lib.hid (Kept.refl _ _)
      clear hr hp hN hbs ho hd hb o2 y2
      go_wp2_with (with_reducible refine stW rfl 3 _ _ rfl b (off + n * 3) rfl (.int .i64 (c)) rfl infoM3 rfl HR.out 0 (by have := HP.out; omega) (by simp) ?_)
      intro w1 hr hw
      replace HR := Lib.hid hr
      replace HS := Lib.hid (HS.out.trans (hw.kept (by simp)))
      clear hr hw
      go_wp2_with fail
      refine (markText_c _ (by omega) _).mono ?_
      rintro e w2 ⟨rfl, hB2⟩
      replace HR := Lib.hid (HR.out.kept (Kept.of_below hB2 []) (by simp))
      replace HS := Lib.hid (HS.out.trans (Kept.of_below hB2 _))
      clear hB2
      go_wp2_with (with_reducible refine stW rfl 9 _ _ rfl b (off + n * 3 + 1) rfl (.string (mtext (c + 1))) rfl infoM9 rfl HR.out 1 (by have := HP.out; omega) (by simp) ?_)
      intro w3 hr hw
      replace HR := Lib.hid hr
      replace HS := Lib.hid (HS.out.trans (hw.kept (by simp)))
      clear hr hw
      replace HK := Lib.hid (HK.out.trans (HS.out.mono (fun x h => by simp only [List.mem_singleton] at h; simp [h])))
      replace O2 := Lib.hid (O2.out.kept HS.out e2)
      have g := (HR.out.cells HP.out) 2 _ rfl
      go_wp2_with fail
      refine (iMarkTypeS x.fArgs (by have := TType.lt_fArgs x; omega) _ _ _ _ O2.out n2 (by omega) (by omega)).mono ?_
      rintro e w4 ⟨rfl, o2, hk⟩
      clear g
      replace O2 := Lib.hid o2
      replace HR := Lib.hid (HR.out.kept hk b2)
      replace HK := Lib.hid (HK.out.trans (hk.mono (fun x h => by simp [h])))
      replace HS : Hid (Kept w4 w4 [b]) := Lib.hid (Kept.refl _ _)
      clear o2 hk
      replace HK := Lib.hid (HK.out.trans (HS.out.mono (fun x h => by simp only [List.mem_singleton] at h; simp [h])))
      replace O2 := Lib.hid (O2.out.kept HS.out e2)
      have OF := Lib.hid (HB.out _ _ HR.out rfl HK.out (TType.mk_flat hc0 (by rw [TType.cnt_flat]; omega) O2.out))
      have KF := Lib.hid (Hk.out.trans (HK.out.mono (fun x h => sub_mid HD.out h)))
      rw [← HD.out] at OF
      clear HB HR HK HS HD HP Hk O2
      go_wp2
      go_roundw
      case rel => exact ⟨n + 1, _, hlt, by go_num, rfl, by omega, Lib.hid ⟨by have := HN.out; omega, OF.out⟩, KF⟩
      case measure => simp [intOf]; omega
    · obtain rfl : n = l.length := by omega
      have HE := Lib.hid (mark_end Hs.out.1 Hs.out.2)
      go_wp2
      go_ret
      exact ⟨ret_int HE.out.1, HE.out.2, Hk.out⟩
theorem MarkTypeS_all : ∀ N : Nat, MarkTypeS N
  | 0 => fun _ h => absurd h (Nat.not_lt_zero _)
  | N + 1 => by
    have i0 := MarkTypeS_all N
    exact stepMarkTypeS N i0
theorem markTypeS_c (l : List TType) : ∀ (w : World) (k : Int) (v : Value) (bs : List Nat) (_ : Own w (.sl (l.map TType.enc)) [v] bs) (_ : bs.Nodup) (_ : 0 ≤ k) (_ : k + (cnts (l.map TType.enc) : Nat) ≤ 4611686018427387904),
    Calls Tryz.prog 78 #[v, .int .i64 k] w fun e w' => e = .returned (.int .i64 (k + (cnts (l.map TType.enc) : Nat))) ∧ Own w' (.sl (mks k (l.map TType.enc))) [v] bs ∧ Kept w w' bs := (MarkTypeS_all (SizeOf.sizeOf l + 1)) l (Nat.lt_succ_self _)
set_option maxRecDepth 100000 in
set_option maxHeartbeats 1000000 in
theorem markBoundS_c (l : List TBound) : ∀ (w : World) (k : Int) (v : Value) (bs : List Nat) (_ : Own w (.sl (l.map TBound.enc)) [v] bs) (_ : bs.Nodup) (_ : 0 ≤ k) (_ : k + (cnts (l.map TBound.enc) : Nat) ≤ 4611686018427387904),
    Calls Tryz.prog 76 #[v, .int .i64 k] w fun e w' => e = .returned (.int .i64 (k + (cnts (l.map TBound.enc) : Nat))) ∧ Own w' (.sl (mks k (l.map TBound.enc))) [v] bs ∧ Kept w w' bs := by
  intro w k v bs h nd h0 hlim
  obtain ⟨a, cap, rfl, hcp, hm⟩ := own_valT h
  unfold maxLen at hm
  have H := Lib.hid (mark_start (k := k) h)
  clear h
  have Hlim := Lib.hid hlim
  have Hnd := Lib.hid nd
  clear nd hlim
  go_enter Tryz.func76, Tryz.ntmps76
  go_wp2
  go_loopw [5, 1] (fun i kk wr => ∃ (n : Nat) (c : Int), n ≤ l.length ∧ i = .int .i64 n ∧ kk = .int .i64 c ∧ 0 ≤ c ∧ Hid (c = k + (cnts ((l.map TBound.enc).take n) : Nat) ∧ Own wr (.sl (mks k ((l.map TBound.enc).take n) ++ (l.map TBound.enc).drop n)) [.slice a l.length cap] bs) ∧ Hid (Kept w wr bs)) (fun i _ _ => l.length - (intOf i).toNat)
  case atStart => exact ⟨0, k, Nat.zero_le _, rfl, rfl, h0, H, Lib.hid (Kept.refl _ _)⟩
  case round =>
    clear H
    obtain ⟨n, c, hn, rfl, rfl, hc0, Hs, Hk⟩ := hrel
    by_cases hlt : n < l.length
    · obtain ⟨b, off, t, rA, rd, rB, pre, cs, post, rfl, hbs, hr, hp, -, ho, hb, hd, hM, hN, hback⟩ := mark_at TBound.width (by decide) hlt Hs.out.1 Hlim.out Hs.out.2 Hnd.out
      have HB := Lib.hid hback
      clear hback Hs Hlim Hnd
      generalize l[n] = x at *
      rw [TBound.cnt_flat] at hM hN
      obtain ⟨c3, r3, rfl, rfl, o3⟩ := TBound.own_flat ho
      obtain ⟨n3, hd, y3⟩ := nd2 hd
      have b3 : b ∉ r3 := fun q => hb (by simp [q])
      have e3 : ∀ x ∈ r3, x ∉ [b] := fun x h1 h2 => b3 (by simp only [List.mem_singleton] at h2; exact h2 ▸ h1)
      have O3 := Lib.hid o3
      have HR := Lib.hid hr; have HP := Lib.hid hp; have HN := Lib.hid hN; have HD := Lib.hid hbs
      have HK : Hid (Kept wr wr (b :: (r3 ++ ([])))) := Lib.hid (Kept.refl _ _)
      have HS : Hid (Kept wr wr [b]) := Lib.hid (Kept.refl _ _)
      clear hr hp hN hbs ho hd hb o3 y3
      go_wp2_with fail
      refine (markText_c _ (by omega) _).mono ?_
      rintro e w1 ⟨rfl, hB1⟩
      replace HR := Lib.hid (HR.out.kept (Kept.of_below hB1 []) (by simp))
      replace HS := Lib.hid (HS.out.trans (Kept.of_below hB1 _))
      clear hB1
      go_wp2_with (with_reducible refine stW rfl 9 _ _ rfl b (off + n * 4) rfl (.string (mtext (c))) rfl infoM9 rfl HR.out 0 (by have := HP.out; omega) (by simp) ?_)
      intro w2 hr hw
      replace HR := Lib.hid hr
      replace HS := Lib.hid (HS.out.trans (hw.kept (by simp)))
      clear hr hw
      go_wp2_with (with_reducible refine stW rfl 3 _ _ rfl b (off + n * 4 + 1) rfl (.int .i64 (c + 1)) rfl infoM3 rfl HR.out 1 (by have := HP.out; omega) (by simp) ?_)
      intro w3 hr hw
      replace HR := Lib.hid hr
      replace HS := Lib.hid (HS.out.trans (hw.kept (by simp)))
      clear hr hw
      go_wp2_with fail
      refine (markText_c _ (by omega) _).mono ?_
      rintro e w4 ⟨rfl, hB4⟩
      replace HR := Lib.hid (HR.out.kept (Kept.of_below hB4 []) (by simp))
      replace HS := Lib.hid (HS.out.trans (Kept.of_below hB4 _))
      clear hB4
      go_wp2_with (with_reducible refine stW rfl 9 _ _ rfl b (off + n * 4 + 2) rfl (.string (mtext (c + 1 + 1))) rfl infoM9 rfl HR.out 2 (by have := HP.out; omega) (by simp) ?_)
      intro w5 hr hw
      replace HR := Lib.hid hr
      replace HS := Lib.hid (HS.out.trans (hw.kept (by simp)))
      clear hr hw
      replace HK := Lib.hid (HK.out.trans (HS.out.mono (fun x h => by simp only [List.mem_singleton] at h; simp [h])))
      replace O3 := Lib.hid (O3.out.kept HS.out e3)
      have g := (HR.out.cells HP.out) 3 _ rfl
      go_wp2_with fail
      refine (markTypeS_c x.fType.fArgs _ _ _ _ O3.out n3 (by omega) (by omega)).mono ?_
      rintro e w6 ⟨rfl, o3, hk⟩
      clear g
      replace O3 := Lib.hid o3
      replace HR := Lib.hid (HR.out.kept hk b3)
      replace HK := Lib.hid (HK.out.trans (hk.mono (fun x h => by simp [h])))
      replace HS : Hid (Kept w6 w6 [b]) := Lib.hid (Kept.refl _ _)
      clear o3 hk
      replace HK := Lib.hid (HK.out.trans (HS.out.mono (fun x h => by simp only [List.mem_singleton] at h; simp [h])))
      replace O3 := Lib.hid (O3.out.kept HS.out e3)
      have OF := Lib.hid (HB.out _ _ HR.out rfl HK.out (TBound.mk_flat hc0 (by rw [TBound.cnt_flat]; omega) O3.out))
      have KF := Lib.hid (Hk.out.trans (HK.out.mono (fun x h => sub_mid HD.out h)))
      rw [← HD.out] at OF
      clear HB HR HK HS HD HP Hk O3
      go_wp2
      go_roundw
      case rel => exact ⟨n + 1, _, hlt, by go_num, rfl, by omega, Lib.hid ⟨by have := HN.out; omega, OF.out⟩, KF⟩
      case measure => simp [intOf]; omega
    · obtain rfl : n = l.length := by omega
      have HE := Lib.hid (mark_end Hs.out.1 Hs.out.2)
      go_wp2
      go_ret
      exact ⟨ret_int HE.out.1, HE.out.2, Hk.out⟩
def MarkCoreArmS (N : Nat) : Prop := ∀ (l : List TCoreArm), SizeOf.sizeOf l < N → ∀ (w : World) (k : Int) (v : Value) (bs : List Nat) (_ : Own w (.sl (l.map TCoreArm.enc)) [v] bs) (_ : bs.Nodup) (_ : 0 ≤ k) (_ : k + (cnts (l.map TCoreArm.enc) : Nat) ≤ 4611686018427387904),
    Calls Tryz.prog 81 #[v, .int .i64 k] w fun e w' => e = .returned (.int .i64 (k + (cnts (l.map TCoreArm.enc) : Nat))) ∧ Own w' (.sl (mks k (l.map TCoreArm.enc))) [v] bs ∧ Kept w w' bs
def MarkCoreS (N : Nat) : Prop := ∀ (l : List TCore), SizeOf.sizeOf l < N → ∀ (w : World) (k : Int) (v : Value) (bs : List Nat) (_ : Own w (.sl (l.map TCore.enc)) [v] bs) (_ : bs.Nodup) (_ : 0 ≤ k) (_ : k + (cnts (l.map TCore.enc) : Nat) ≤ 4611686018427387904),
    Calls Tryz.prog 80 #[v, .int .i64 k] w fun e w' => e = .returned (.int .i64 (k + (cnts (l.map TCore.enc) : Nat))) ∧ Own w' (.sl (mks k (l.map TCore.enc))) [v] bs ∧ Kept w w' bs
set_option maxRecDepth 100000 in
set_option maxHeartbeats 1000000 in
theorem stepMarkCoreArmS (N : Nat) (iMarkCoreArmS : MarkCoreArmS N) (iMarkCoreS : MarkCoreS N) : MarkCoreArmS (N + 1) := by
  intro l hN w k v bs h nd h0 hlim
  obtain ⟨a, cap, rfl, hcp, hm⟩ := own_valT h
  unfold maxLen at hm
  have H := Lib.hid (mark_start (k := k) h)
  clear h
  have Hlim := Lib.hid hlim
  have Hnd := Lib.hid nd
  clear nd hlim
  go_enter Tryz.func81, Tryz.ntmps81
  go_wp2
  go_loopw [5, 1] (fun i kk wr => ∃ (n : Nat) (c : Int), n ≤ l.length ∧ i = .int .i64 n ∧ kk = .int .i64 c ∧ 0 ≤ c ∧ Hid (c = k + (cnts ((l.map TCoreArm.enc).take n) : Nat) ∧ Own wr (.sl (mks k ((l.map TCoreArm.enc).take n) ++ (l.map TCoreArm.enc).drop n)) [.slice a l.length cap] bs) ∧ Hid (Kept w wr bs)) (fun i _ _ => l.length - (intOf i).toNat)
  case atStart => exact ⟨0, k, Nat.zero_le _, rfl, rfl, h0, H, Lib.hid (Kept.refl _ _)⟩
  case round =>
    clear H
    obtain ⟨n, c, hn, rfl, rfl, hc0, Hs, Hk⟩ := hrel
    by_cases hlt : n < l.length
    · obtain ⟨b, off, t, rA, rd, rB, pre, cs, post, rfl, hbs, hr, hp, -, ho, hb, hd, hM, hN, hback⟩ := mark_at TCoreArm.width (by decide) hlt Hs.out.1 Hlim.out Hs.out.2 Hnd.out
      have HB := Lib.hid hback
      have hz : SizeOf.sizeOf l[n] < SizeOf.sizeOf l := List.sizeOf_lt_of_mem (List.getElem_mem hlt)
      clear hback Hs Hlim Hnd
      generalize l[n] = x at *
      rw [TCoreArm.cnt_flat] at hM hN
      obtain ⟨c1, c8, c9, c10, c11, c12, r1, r8, r9, r10, r11, r12, rfl, rfl, o1, o8, o9, o10, o11, o12⟩ := TCoreArm.own_flat ho
      obtain ⟨n1, hd, y1⟩ := nd2 hd
      have d1_8 : ∀ x ∈ r1, x ∉ r8 := fun x h1 h2 => y1 x h1 (by simp [h2])
      have d8_1 : ∀ x ∈ r8, x ∉ r1 := fun x h1 h2 => y1 x h2 (by simp [h1])
      have d1_9 : ∀ x ∈ r1, x ∉ r9 := fun x h1 h2 => y1 x h1 (by simp [h2])
      have d9_1 : ∀ x ∈ r9, x ∉ r1 := fun x h1 h2 => y1 x h2 (by simp [h1])
      have d1_10 : ∀ x ∈ r1, x ∉ r10 := fun x h1 h2 => y1 x h1 (by simp [h2])
      have d10_1 : ∀ x ∈ r10, x ∉ r1 := fun x h1 h2 => y1 x h2 (by simp [h1])
      have d1_11 : ∀ x ∈ r1, x ∉ r11 := fun x h1 h2 => y1 x h1 (by simp [h2])
      have d11_1 : ∀ x ∈ r11, x ∉ r1 := fun x h1 h2 => y1 x h2 (by simp [h1])
      have d1_12 : ∀ x ∈ r1, x ∉ r12 := fun x h1 h2 => y1 x h1 (by simp [h2])
      have d12_1 : ∀ x ∈ r12, x ∉ r1 := fun x h1 h2 => y1 x h2 (by simp [h1])
      obtain ⟨n8, hd, y8⟩ := nd2 hd
      have d8_9 : ∀ x ∈ r8, x ∉ r9 := fun x h1 h2 => y8 x h1 (by simp [h2])
      have d9_8 : ∀ x ∈ r9, x ∉ r8 := fun x h1 h2 => y8 x h2 (by simp [h1])
      have d8_10 : ∀ x ∈ r8, x ∉ r10 := fun x h1 h2 => y8 x h1 (by simp [h2])
      have d10_8 : ∀ x ∈ r10, x ∉ r8 := fun x h1 h2 => y8 x h2 (by simp [h1])
      have d8_11 : ∀ x ∈ r8, x ∉ r11 := fun x h1 h2 => y8 x h1 (by simp [h2])
      have d11_8 : ∀ x ∈ r11, x ∉ r8 := fun x h1 h2 => y8 x h2 (by simp [h1])
      have d8_12 : ∀ x ∈ r8, x ∉ r12 := fun x h1 h2 => y8 x h1 (by simp [h2])
      have d12_8 : ∀ x ∈ r12, x ∉ r8 := fun x h1 h2 => y8 x h2 (by simp [h1])
      obtain ⟨n9, hd, y9⟩ := nd2 hd
      have d9_10 : ∀ x ∈ r9, x ∉ r10 := fun x h1 h2 => y9 x h1 (by simp [h2])
      have d10_9 : ∀ x ∈ r10, x ∉ r9 := fun x h1 h2 => y9 x h2 (by simp [h1])
      have d9_11 : ∀ x ∈ r9, x ∉ r11 := fun x h1 h2 => y9 x h1 (by simp [h2])
      have d11_9 : ∀ x ∈ r11, x ∉ r9 := fun x h1 h2 => y9 x h2 (by simp [h1])
      have d9_12 : ∀ x ∈ r9, x ∉ r12 := fun x h1 h2 => y9 x h1 (by simp [h2])
      have d12_9 : ∀ x ∈ r12, x ∉ r9 := fun x h1 h2 => y9 x h2 (by simp [h1])
      obtain ⟨n10, hd, y10⟩ := nd2 hd
      have d10_11 : ∀ x ∈ r10, x ∉ r11 := fun x h1 h2 => y10 x h1 (by simp [h2])
      have d11_10 : ∀ x ∈ r11, x ∉ r10 := fun x h1 h2 => y10 x h2 (by simp [h1])
      have d10_12 : ∀ x ∈ r10, x ∉ r12 := fun x h1 h2 => y10 x h1 (by simp [h2])
      have d12_10 : ∀ x ∈ r12, x ∉ r10 := fun x h1 h2 => y10 x h2 (by simp [h1])
      obtain ⟨n11, hd, y11⟩ := nd2 hd
      have d11_12 : ∀ x ∈ r11, x ∉ r12 := fun x h1 h2 => y11 x h1 (by simp [h2])
      have d12_11 : ∀ x ∈ r12, x ∉ r11 := fun x h1 h2 => y11 x h2 (by simp [h1])
      obtain ⟨n12, hd, y12⟩ := nd2 hd
      have b1 : b ∉ r1 := fun q => hb (by simp [q])
      have e1 : ∀ x ∈ r1, x ∉ [b] := fun x h1 h2 => b1 (by simp only [List.mem_singleton] at h2; exact h2 ▸ h1)
      have b8 : b ∉ r8 := fun q => hb (by simp [q])
      have e8 : ∀ x ∈ r8, x ∉ [b] := fun x h1 h2 => b8 (by simp only [List.mem_singleton] at h2; exact h2 ▸ h1)
      have b9 : b ∉ r9 := fun q => hb (by simp [q])
      have e9 : ∀ x ∈ r9, x ∉ [b] := fun x h1 h2 => b9 (by simp only [List.mem_singleton] at h2; exact h2 ▸ h1)
      have b10 : b ∉ r10 := fun q => hb (by simp [q])
      have e10 : ∀ x ∈ r10, x ∉ [b] := fun x h1 h2 => b10 (by simp only [List.mem_singleton] at h2; exact h2 ▸ h1)
      have b11 : b ∉ r11 := fun q => hb (by simp [q])
      have e11 : ∀ x ∈ r11, x ∉ [b] := fun x h1 h2 => b11 (by simp only [List.mem_singleton] at h2; exact h2 ▸ h1)
      have b12 : b ∉ r12 := fun q => hb (by simp [q])
      have e12 : ∀ x ∈ r12, x ∉ [b] := fun x h1 h2 => b12 (by simp only [List.mem_singleton] at h2; exact h2 ▸ h1)
      have O1 := Lib.hid o1
      have O8 := Lib.hid o8
      have O9 := Lib.hid o9
      have O10 := Lib.hid o10
      have O11 := Lib.hid o11
      have O12 := Lib.hid o12
      have HR := Lib.hid hr; have HP := Lib.hid hp; have HN := Lib.hid hN; have HD := Lib.hid hbs
      have HK : Hid (Kept wr wr (b :: (r1 ++ (r8 ++ (r9 ++ (r10 ++ (r11 ++ (r12 ++ ([]))))))))) := Lib.hid (Kept.refl _ _)
      have HS : Hid (Kept wr wr [b]) := Lib.hid (Kept.refl _ _)
      clear hr hp hN hbs ho hd hb o1 o8 o9 o10 o11 o12 y1 y8 y9 y10 y11 y12
      go_wp2_with fail
      refine (markText_c _ (by omega) _).mono ?_
      rintro e w1 ⟨rfl, hB1⟩
      replace HR := Lib.hid (HR.out.kept (Kept.of_below hB1 []) (by simp))
      replace HS := Lib.hid (HS.out.trans (Kept.of_below hB1 _))
      clear hB1
      go_wp2_with (with_reducible refine stW rfl 9 _ _ rfl b (off + n * 13) rfl (.string (mtext (c))) rfl infoM9 rfl HR.out 0 (by have := HP.out; omega) (by simp) ?_)
      intro w2 hr hw
      replace HR := Lib.hid hr
      replace HS := Lib.hid (HS.out.trans (hw.kept (by simp)))
      clear hr hw
      replace HK := Lib.hid (HK.out.trans (HS.out.mono (fun x h => by simp only [List.mem_singleton] at h; simp [h])))
      replace O1 := Lib.hid (O1.out.kept HS.out e1)
      replace O8 := Lib.hid (O8.out.kept HS.out e8)
      replace O9 := Lib.hid (O9.out.kept HS.out e9)
      replace O10 := Lib.hid (O10.out.kept HS.out e10)
      replace O11 := Lib.hid (O11.out.kept HS.out e11)
      replace O12 := Lib.hid (O12.out.kept HS.out e12)
      have g := (HR.out.cells HP.out) 1 _ rfl
      go_wp2_with fail
      refine (markStringS_c x.fVars _ _ _ _ O1.out n1 (by omega) (by omega)).mono ?_
      rintro e w3 ⟨rfl, o1, hk⟩
      clear g
      replace O1 := Lib.hid o1
      replace O8 := Lib.hid (O8.out.kept hk d8_1)
      replace O9 := Lib.hid (O9.out.kept hk d9_1)
      replace O10 := Lib.hid (O10.out.kept hk d10_1)
      replace O11 := Lib.hid (O11.out.kept hk d11_1)
      replace O12 := Lib.hid (O12.out.kept hk d12_1)
      replace HR := Lib.hid (HR.out.kept hk b1)
      replace HK := Lib.hid (HK.out.trans (hk.mono (fun x h => by simp [h])))
      replace HS : Hid (Kept w3 w3 [b]) := Lib.hid (Kept.refl _ _)
      clear o1 hk
      go_wp2_with (with_reducible refine stW rfl 3 _ _ rfl b (off + n * 13 + 2) rfl (.int .i64 (c + 1 + (cnts (x.fVars.map encS) : Nat))) rfl infoM3 rfl HR.out 2 (by have := HP.out; omega) (by simp) ?_)
      intro w4 hr hw
      replace HR := Lib.hid hr
      replace HS := Lib.hid (HS.out.trans (hw.kept (by simp)))
      clear hr hw
      go_wp2_with fail
      refine (markText_c _ (by omega) _).mono ?_
      rintro e w5 ⟨rfl, hB5⟩
      replace HR := Lib.hid (HR.out.kept (Kept.of_below hB5 []) (by simp))
      replace HS := Lib.hid (HS.out.trans (Kept.of_below hB5 _))
      clear hB5
      go_wp2_with (with_reducible refine stW rfl 9 _ _ rfl b (off + n * 13 + 3) rfl (.string (mtext (c + 1 + (cnts (x.fVars.map encS) : Nat) + 1))) rfl infoM9 rfl HR.out 3 (by have := HP.out; omega) (by simp) ?_)
      intro w6 hr hw
      replace HR := Lib.hid hr
      replace HS := Lib.hid (HS.out.trans (hw.kept (by simp)))
      clear hr hw
      go_wp2_with fail
      refine (markText_c _ (by omega) _).mono ?_
      rintro e w7 ⟨rfl, hB7⟩
      replace HR := Lib.hid (HR.out.kept (Kept.of_below hB7 []) (by simp))
      replace HS := Lib.hid (HS.out.trans (Kept.of_below hB7 _))
      clear hB7
      go_wp2_with (with_reducible refine stW rfl 9 _ _ rfl b (off + n * 13 + 4) rfl (.string (mtext (c + 1 + (cnts (x.fVars.map encS) : Nat) + 1 + 1))) rfl infoM9 rfl HR.out 4 (by have := HP.out; omega) (by simp) ?_)
      intro w8 hr hw
      replace HR := Lib.hid hr
      replace HS := Lib.hid (HS.out.trans (hw.kept (by simp)))
      clear hr hw
      go_wp2_with (with_reducible refine stW rfl 3 _ _ rfl b (off + n * 13 + 5) rfl (.int .i64 (c + 1 + (cnts (x.fVars.map encS) : Nat) + 1 + 1 + 1)) rfl infoM3 rfl HR.out 5 (by have := HP.out; omega) (by simp) ?_)
      intro w9 hr hw
      replace HR := Lib.hid hr
      replace HS := Lib.hid (HS.out.trans (hw.kept (by simp)))
      clear hr hw
      go_wp2_with (with_reducible refine stW rfl 3 _ _ rfl b (off + n * 13 + 6) rfl (.int .i64 (c + 1 + (cnts (x.fVars.map encS) : Nat) + 1 + 1 + 1 + 1)) rfl infoM3 rfl HR.out 6 (by have := HP.out; omega) (by simp) ?_)
      intro w10 hr hw
      replace HR := Lib.hid hr
      replace HS := Lib.hid (HS.out.trans (hw.kept (by simp)))
      clear hr hw
      go_wp2_with fail
      refine (markText_c _ (by omega) _).mono ?_
      rintro e w11 ⟨rfl, hB11⟩
      replace HR := Lib.hid (HR.out.kept (Kept.of_below hB11 []) (by simp))
      replace HS := Lib.hid (HS.out.trans (Kept.of_below hB11 _))
      clear hB11
      go_wp2_with (with_reducible refine stW rfl 9 _ _ rfl b (off + n * 13 + 7) rfl (.string (mtext (c + 1 + (cnts (x.fVars.map encS) : Nat) + 1 + 1 + 1 + 1 + 1))) rfl infoM9 rfl HR.out 7 (by have := HP.out; omega) (by simp) ?_)
      intro w12 hr hw
      replace HR := Lib.hid hr
      replace HS := Lib.hid (HS.out.trans (hw.kept (by simp)))
      clear hr hw
      replace HK := Lib.hid (HK.out.trans (HS.out.mono (fun x h => by simp only [List.mem_singleton] at h; simp [h])))
      replace O1 := Lib.hid (O1.out.kept HS.out e1)
      replace O8 := Lib.hid (O8.out.kept HS.out e8)
      replace O9 := Lib.hid (O9.out.kept HS.out e9)
      replace O10 := Lib.hid (O10.out.kept HS.out e10)
      replace O11 := Lib.hid (O11.out.kept HS.out e11)
      replace O12 := Lib.hid (O12.out.kept HS.out e12)
      have g := (HR.out.cells HP.out) 8 _ rfl
      go_wp2_with fail
      refine (markTypeS_c x.fBody.fType.fArgs _ _ _ _ O8.out n8 (by omega) (by omega)).mono ?_
      rintro e w13 ⟨rfl, o8, hk⟩
      clear g
      replace O8 := Lib.hid o8
      replace O1 := Lib.hid (O1.out.kept hk d1_8)
      replace O9 := Lib.hid (O9.out.kept hk d9_8)
      replace O10 := Lib.hid (O10.out.kept hk d10_8)
      replace O11 := Lib.hid (O11.out.kept hk d11_8)
      replace O12 := Lib.hid (O12.out.kept hk d12_8)
      replace HR := Lib.hid (HR.out.kept hk b8)
      replace HK := Lib.hid (HK.out.trans (hk.mono (fun x h => by simp [h])))
      replace HS : Hid (Kept w13 w13 [b]) := Lib.hid (Kept.refl _ _)
      clear o8 hk
      replace HK := Lib.hid (HK.out.trans (HS.out.mono (fun x h => by simp only [List.mem_singleton] at h; simp [h])))
      replace O1 := Lib.hid (O1.out.kept HS.out e1)
      replace O8 := Lib.hid (O8.out.kept HS.out e8)
      replace O9 := Lib.hid (O9.out.kept HS.out e9)
      replace O10 := Lib.hid (O10.out.kept HS.out e10)
      replace O11 := Lib.hid (O11.out.kept HS.out e11)
      replace O12 := Lib.hid (O12.out.kept HS.out e12)
      have g := (HR.out.cells HP.out) 9 _ rfl
      go_wp2_with fail
      refine (markTypeS_c x.fBody.fTypeArgs _ _ _ _ O9.out n9 (by omega) (by omega)).mono ?_
      rintro e w14 ⟨rfl, o9, hk⟩
      clear g
      replace O9 := Lib.hid o9
      replace O1 := Lib.hid (O1.out.kept hk d1_9)
      replace O8 := Lib.hid (O8.out.kept hk d8_9)
      replace O10 := Lib.hid (O10.out.kept hk d10_9)
      replace O11 := Lib.hid (O11.out.kept hk d11_9)
      replace O12 := Lib.hid (O12.out.kept hk d12_9)
      replace HR := Lib.hid (HR.out.kept hk b9)
      replace HK := Lib.hid (HK.out.trans (hk.mono (fun x h => by simp [h])))
      replace HS : Hid (Kept w14 w14 [b]) := Lib.hid (Kept.refl _ _)
      clear o9 hk
      replace HK := Lib.hid (HK.out.trans (HS.out.mono (fun x h => by simp only [List.mem_singleton] at h; simp [h])))
      replace O1 := Lib.hid (O1.out.kept HS.out e1)
      replace O8 := Lib.hid (O8.out.kept HS.out e8)
      replace O9 := Lib.hid (O9.out.kept HS.out e9)
      replace O10 := Lib.hid (O10.out.kept HS.out e10)
      replace O11 := Lib.hid (O11.out.kept HS.out e11)
      replace O12 := Lib.hid (O12.out.kept HS.out e12)
      have g := (HR.out.cells HP.out) 10 _ rfl
      go_wp2_with fail
      refine (markEvidenceS_c x.fBody.fEvidence _ _ _ _ O10.out n10 (by omega) (by omega)).mono ?_
      rintro e w15 ⟨rfl, o10, hk⟩
      clear g
      replace O10 := Lib.hid o10
      replace O1 := Lib.hid (O1.out.kept hk d1_10)
      replace O8 := Lib.hid (O8.out.kept hk d8_10)
      replace O9 := Lib.hid (O9.out.kept hk d9_10)
      replace O11 := Lib.hid (O11.out.kept hk d11_10)
      replace O12 := Lib.hid (O12.out.kept hk d12_10)
      replace HR := Lib.hid (HR.out.kept hk b10)
      replace HK := Lib.hid (HK.out.trans (hk.mono (fun x h => by simp [h])))
      replace HS : Hid (Kept w15 w15 [b]) := Lib.hid (Kept.refl _ _)
      clear o10 hk
      replace HK := Lib.hid (HK.out.trans (HS.out.mono (fun x h => by simp only [List.mem_singleton] at h; simp [h])))
      replace O1 := Lib.hid (O1.out.kept HS.out e1)
      replace O8 := Lib.hid (O8.out.kept HS.out e8)
      replace O9 := Lib.hid (O9.out.kept HS.out e9)
      replace O10 := Lib.hid (O10.out.kept HS.out e10)
      replace O11 := Lib.hid (O11.out.kept HS.out e11)
      replace O12 := Lib.hid (O12.out.kept HS.out e12)
      have g := (HR.out.cells HP.out) 11 _ rfl
      go_wp2_with fail
      refine (iMarkCoreS x.fBody.fArgs (by have := TCoreArm.lt_fBody x; have := TCore.lt_fArgs x.fBody; omega) _ _ _ _ O11.out n11 (by omega) (by omega)).mono ?_
      rintro e w16 ⟨rfl, o11, hk⟩
      clear g
      replace O11 := Lib.hid o11
      replace O1 := Lib.hid (O1.out.kept hk d1_11)
      replace O8 := Lib.hid (O8.out.kept hk d8_11)
      replace O9 := Lib.hid (O9.out.kept hk d9_11)
      replace O10 := Lib.hid (O10.out.kept hk d10_11)
      replace O12 := Lib.hid (O12.out.kept hk d12_11)
      replace HR := Lib.hid (HR.out.kept hk b11)
      replace HK := Lib.hid (HK.out.trans (hk.mono (fun x h => by simp [h])))
      replace HS : Hid (Kept w16 w16 [b]) := Lib.hid (Kept.refl _ _)
      clear o11 hk
      replace HK := Lib.hid (HK.out.trans (HS.out.mono (fun x h => by simp only [List.mem_singleton] at h; simp [h])))
      replace O1 := Lib.hid (O1.out.kept HS.out e1)
      replace O8 := Lib.hid (O8.out.kept HS.out e8)
      replace O9 := Lib.hid (O9.out.kept HS.out e9)
      replace O10 := Lib.hid (O10.out.kept HS.out e10)
      replace O11 := Lib.hid (O11.out.kept HS.out e11)
      replace O12 := Lib.hid (O12.out.kept HS.out e12)
      have g := (HR.out.cells HP.out) 12 _ rfl
      go_wp2_with fail
      refine (iMarkCoreArmS x.fBody.fArms (by have := TCoreArm.lt_fBody x; have := TCore.lt_fArms x.fBody; omega) _ _ _ _ O12.out n12 (by omega) (by omega)).mono ?_
      rintro e w17 ⟨rfl, o12, hk⟩
      clear g
      replace O12 := Lib.hid o12
      replace O1 := Lib.hid (O1.out.kept hk d1_12)
      replace O8 := Lib.hid (O8.out.kept hk d8_12)
      replace O9 := Lib.hid (O9.out.kept hk d9_12)
      replace O10 := Lib.hid (O10.out.kept hk d10_12)
      replace O11 := Lib.hid (O11.out.kept hk d11_12)
      replace HR := Lib.hid (HR.out.kept hk b12)
      replace HK := Lib.hid (HK.out.trans (hk.mono (fun x h => by simp [h])))
      replace HS : Hid (Kept w17 w17 [b]) := Lib.hid (Kept.refl _ _)
      clear o12 hk
      replace HK := Lib.hid (HK.out.trans (HS.out.mono (fun x h => by simp only [List.mem_singleton] at h; simp [h])))
      replace O1 := Lib.hid (O1.out.kept HS.out e1)
      replace O8 := Lib.hid (O8.out.kept HS.out e8)
      replace O9 := Lib.hid (O9.out.kept HS.out e9)
      replace O10 := Lib.hid (O10.out.kept HS.out e10)
      replace O11 := Lib.hid (O11.out.kept HS.out e11)
      replace O12 := Lib.hid (O12.out.kept HS.out e12)
      have OF := Lib.hid (HB.out _ _ HR.out rfl HK.out (TCoreArm.mk_flat hc0 (by rw [TCoreArm.cnt_flat]; omega) O1.out O8.out O9.out O10.out O11.out O12.out))
      have KF := Lib.hid (Hk.out.trans (HK.out.mono (fun x h => sub_mid HD.out h)))
      rw [← HD.out] at OF
      clear HB HR HK HS HD HP Hk O1 O8 O9 O10 O11 O12
      go_wp2
      go_roundw
      case rel => exact ⟨n + 1, _, hlt, by go_num, rfl, by omega, Lib.hid ⟨by have := HN.out; omega, OF.out⟩, KF⟩
      case measure => simp [intOf]; omega
    · obtain rfl : n = l.length := by omega
      have HE := Lib.hid (mark_end Hs.out.1 Hs.out.2)
      go_wp2
      go_ret
      exact ⟨ret_int HE.out.1, HE.out.2, Hk.out⟩
set_option maxRecDepth 100000 in
set_option maxHeartbeats 1000000 in
theorem stepMarkCoreS (N : Nat) (iMarkCoreArmS : MarkCoreArmS N) (iMarkCoreS : MarkCoreS N) : MarkCoreS (N + 1) := by
  intro l hN w k v bs h nd h0 hlim
  obtain ⟨a, cap, rfl, hcp, hm⟩ := own_valT h
  unfold maxLen at hm
  have H := Lib.hid (mark_start (k := k) h)
  clear h
  have Hlim := Lib.hid hlim
  have Hnd := Lib.hid nd
  clear nd hlim
  go_enter Tryz.func80, Tryz.ntmps80
  go_wp2
  go_loopw [5, 1] (fun i kk wr => ∃ (n : Nat) (c : Int), n ≤ l.length ∧ i = .int .i64 n ∧ kk = .int .i64 c ∧ 0 ≤ c ∧ Hid (c = k + (cnts ((l.map TCore.enc).take n) : Nat) ∧ Own wr (.sl (mks k ((l.map TCore.enc).take n) ++ (l.map TCore.enc).drop n)) [.slice a l.length cap] bs) ∧ Hid (Kept w wr bs)) (fun i _ _ => l.length - (intOf i).toNat)
  case atStart => exact ⟨0, k, Nat.zero_le _, rfl, rfl, h0, H, Lib.hid (Kept.refl _ _)⟩
  case round =>
    clear H
    obtain ⟨n, c, hn, rfl, rfl, hc0, Hs, Hk⟩ := hrel
    by_cases hlt : n < l.length
    · obtain ⟨b, off, t, rA, rd, rB, pre, cs, post, rfl, hbs, hr, hp, -, ho, hb, hd, hM, hN, hback⟩ := mark_at TCore.width (by decide) hlt Hs.out.1 Hlim.out Hs.out.2 Hnd.out
      have HB := Lib.hid hback
      have hz : SizeOf.sizeOf l[n] < SizeOf.sizeOf l := List.sizeOf_lt_of_mem (List.getElem_mem hlt)
      clear hback Hs Hlim Hnd
      generalize l[n] = x at *
      rw [TCore.cnt_flat] at hM hN
      obtain ⟨c6, c7, c8, c9, c10, r6, r7, r8, r9, r10, rfl, rfl, o6, o7, o8, o9, o10⟩ := TCore.own_flat ho
      obtain ⟨n6, hd, y6⟩ := nd2 hd
      have d6_7 : ∀ x ∈ r6, x ∉ r7 := fun x h1 h2 => y6 x h1 (by simp [h2])
      have d7_6 : ∀ x ∈ r7, x ∉ r6 := fun x h1 h2 => y6 x h2 (by simp [h1])
      have d6_8 : ∀ x ∈ r6, x ∉ r8 := fun x h1 h2 => y6 x h1 (by simp [h2])
      have d8_6 : ∀ x ∈ r8, x ∉ r6 := fun x h1 h2 => y6 x h2 (by simp [h1])
      have d6_9 : ∀ x ∈ r6, x ∉ r9 := fun x h1 h2 => y6 x h1 (by simp [h2])
      have d9_6 : ∀ x ∈ r9, x ∉ r6 := fun x h1 h2 => y6 x h2 (by simp [h1])
      have d6_10 : ∀ x ∈ r6, x ∉ r10 := fun x h1 h2 => y6 x h1 (by simp [h2])
      have d10_6 : ∀ x ∈ r10, x ∉ r6 := fun x h1 h2 => y6 x h2 (by simp [h1])
      obtain ⟨n7, hd, y7⟩ := nd2 hd
      have d7_8 : ∀ x ∈ r7, x ∉ r8 := fun x h1 h2 => y7 x h1 (by simp [h2])
      have d8_7 : ∀ x ∈ r8, x ∉ r7 := fun x h1 h2 => y7 x h2 (by simp [h1])
      have d7_9 : ∀ x ∈ r7, x ∉ r9 := fun x h1 h2 => y7 x h1 (by simp [h2])
      have d9_7 : ∀ x ∈ r9, x ∉ r7 := fun x h1 h2 => y7 x h2 (by simp [h1])
      have d7_10 : ∀ x ∈ r7, x ∉ r10 := fun x h1 h2 => y7 x h1 (by simp [h2])
      have d10_7 : ∀ x ∈ r10, x ∉ r7 := fun x h1 h2 => y7 x h2 (by simp [h1])
      obtain ⟨n8, hd, y8⟩ := nd2 hd
      have d8_9 : ∀ x ∈ r8, x ∉ r9 := fun x h1 h2 => y8 x h1 (by simp [h2])
      have d9_8 : ∀ x ∈ r9, x ∉ r8 := fun x h1 h2 => y8 x h2 (by simp [h1])
      have d8_10 : ∀ x ∈ r8, x ∉ r10 := fun x h1 h2 => y8 x h1 (by simp [h2])
      have d10_8 : ∀ x ∈ r10, x ∉ r8 := fun x h1 h2 => y8 x h2 (by simp [h1])
      obtain ⟨n9, hd, y9⟩ := nd2 hd
      have d9_10 : ∀ x ∈ r9, x ∉ r10 := fun x h1 h2 => y9 x h1 (by simp [h2])
      have d10_9 : ∀ x ∈ r10, x ∉ r9 := fun x h1 h2 => y9 x h2 (by simp [h1])
      obtain ⟨n10, hd, y10⟩ := nd2 hd
      have b6 : b ∉ r6 := fun q => hb (by simp [q])
      have e6 : ∀ x ∈ r6, x ∉ [b] := fun x h1 h2 => b6 (by simp only [List.mem_singleton] at h2; exact h2 ▸ h1)
      have b7 : b ∉ r7 := fun q => hb (by simp [q])
      have e7 : ∀ x ∈ r7, x ∉ [b] := fun x h1 h2 => b7 (by simp only [List.mem_singleton] at h2; exact h2 ▸ h1)
      have b8 : b ∉ r8 := fun q => hb (by simp [q])
      have e8 : ∀ x ∈ r8, x ∉ [b] := fun x h1 h2 => b8 (by simp only [List.mem_singleton] at h2; exact h2 ▸ h1)
      have b9 : b ∉ r9 := fun q => hb (by simp [q])
      have e9 : ∀ x ∈ r9, x ∉ [b] := fun x h1 h2 => b9 (by simp only [List.mem_singleton] at h2; exact h2 ▸ h1)
      have b10 : b ∉ r10 := fun q => hb (by simp [q])
      have e10 : ∀ x ∈ r10, x ∉ [b] := fun x h1 h2 => b10 (by simp only [List.mem_singleton] at h2; exact h2 ▸ h1)
      have O6 := Lib.hid o6
      have O7 := Lib.hid o7
      have O8 := Lib.hid o8
      have O9 := Lib.hid o9
      have O10 := Lib.hid o10
      have HR := Lib.hid hr; have HP := Lib.hid hp; have HN := Lib.hid hN; have HD := Lib.hid hbs
      have HK : Hid (Kept wr wr (b :: (r6 ++ (r7 ++ (r8 ++ (r9 ++ (r10 ++ ([])))))))) := Lib.hid (Kept.refl _ _)
      have HS : Hid (Kept wr wr [b]) := Lib.hid (Kept.refl _ _)
      clear hr hp hN hbs ho hd hb o6 o7 o8 o9 o10 y6 y7 y8 y9 y10
      go_wp2_with (with_reducible refine stW rfl 3 _ _ rfl b (off + n * 11) rfl (.int .i64 (c)) rfl infoM3 rfl HR.out 0 (by have := HP.out; omega) (by simp) ?_)
      intro w1 hr hw
      replace HR := Lib.hid hr
      replace HS := Lib.hid (HS.out.trans (hw.kept (by simp)))
      clear hr hw
      go_wp2_with fail
      refine (markText_c _ (by omega) _).mono ?_
      rintro e w2 ⟨rfl, hB2⟩
      replace HR := Lib.hid (HR.out.kept (Kept.of_below hB2 []) (by simp))
      replace HS := Lib.hid (HS.out.trans (Kept.of_below hB2 _))
      clear hB2
      go_wp2_with (with_reducible refine stW rfl 9 _ _ rfl b (off + n * 11 + 1) rfl (.string (mtext (c + 1))) rfl infoM9 rfl HR.out 1 (by have := HP.out; omega) (by simp) ?_)
      intro w3 hr hw
      replace HR := Lib.hid hr
      replace HS := Lib.hid (HS.out.trans (hw.kept (by simp)))
      clear hr hw
      go_wp2_with fail
      refine (markText_c _ (by omega) _).mono ?_
      rintro e w4 ⟨rfl, hB4⟩
      replace HR := Lib.hid (HR.out.kept (Kept.of_below hB4 []) (by simp))
      replace HS := Lib.hid (HS.out.trans (Kept.of_below hB4 _))
      clear hB4
      go_wp2_with (with_reducible refine stW rfl 9 _ _ rfl b (off + n * 11 + 2) rfl (.string (mtext (c + 1 + 1))) rfl infoM9 rfl HR.out 2 (by have := HP.out; omega) (by simp) ?_)
      intro w5 hr hw
      replace HR := Lib.hid hr
      replace HS := Lib.hid (HS.out.trans (hw.kept (by simp)))
      clear hr hw
      go_wp2_with (with_reducible refine stW rfl 3 _ _ rfl b (off + n * 11 + 3) rfl (.int .i64 (c + 1 + 1 + 1)) rfl infoM3 rfl HR.out 3 (by have := HP.out; omega) (by simp) ?_)
      intro w6 hr hw
      replace HR := Lib.hid hr
      replace HS := Lib.hid (HS.out.trans (hw.kept (by simp)))
      clear hr hw
      go_wp2_with (with_reducible refine stW rfl 3 _ _ rfl b (off + n * 11 + 4) rfl (.int .i64 (c + 1 + 1 + 1 + 1)) rfl infoM3 rfl HR.out 4 (by have := HP.out; omega) (by simp) ?_)
      intro w7 hr hw
      replace HR := Lib.hid hr
      replace HS := Lib.hid (HS.out.trans (hw.kept (by simp)))
      clear hr hw
      go_wp2_with fail
      refine (markText_c _ (by omega) _).mono ?_
      rintro e w8 ⟨rfl, hB8⟩
      replace HR := Lib.hid (HR.out.kept (Kept.of_below hB8 []) (by simp))
      replace HS := Lib.hid (HS.out.trans (Kept.of_below hB8 _))
      clear hB8
      go_wp2_with (with_reducible refine stW rfl 9 _ _ rfl b (off + n * 11 + 5) rfl (.string (mtext (c + 1 + 1 + 1 + 1 + 1))) rfl infoM9 rfl HR.out 5 (by have := HP.out; omega) (by simp) ?_)
      intro w9 hr hw
      replace HR := Lib.hid hr
      replace HS := Lib.hid (HS.out.trans (hw.kept (by simp)))
      clear hr hw
      replace HK := Lib.hid (HK.out.trans (HS.out.mono (fun x h => by simp only [List.mem_singleton] at h; simp [h])))
      replace O6 := Lib.hid (O6.out.kept HS.out e6)
      replace O7 := Lib.hid (O7.out.kept HS.out e7)
      replace O8 := Lib.hid (O8.out.kept HS.out e8)
      replace O9 := Lib.hid (O9.out.kept HS.out e9)
      replace O10 := Lib.hid (O10.out.kept HS.out e10)
      have g := (HR.out.cells HP.out) 6 _ rfl
      go_wp2_with fail
      refine (markTypeS_c x.fType.fArgs _ _ _ _ O6.out n6 (by omega) (by omega)).mono ?_
      rintro e w10 ⟨rfl, o6, hk⟩
      clear g
      replace O6 := Lib.hid o6
      replace O7 := Lib.hid (O7.out.kept hk d7_6)
      replace O8 := Lib.hid (O8.out.kept hk d8_6)
      replace O9 := Lib.hid (O9.out.kept hk d9_6)
      replace O10 := Lib.hid (O10.out.kept hk d10_6)
      replace HR := Lib.hid (HR.out.kept hk b6)
      replace HK := Lib.hid (HK.out.trans (hk.mono (fun x h => by simp [h])))
      replace HS : Hid (Kept w10 w10 [b]) := Lib.hid (Kept.refl _ _)
      clear o6 hk
      replace HK := Lib.hid (HK.out.trans (HS.out.mono (fun x h => by simp only [List.mem_singleton] at h; simp [h])))
      replace O6 := Lib.hid (O6.out.kept HS.out e6)
      replace O7 := Lib.hid (O7.out.kept HS.out e7)
      replace O8 := Lib.hid (O8.out.kept HS.out e8)
      replace O9 := Lib.hid (O9.out.kept HS.out e9)
      replace O10 := Lib.hid (O10.out.kept HS.out e10)
      have g := (HR.out.cells HP.out) 7 _ rfl
      go_wp2_with fail
      refine (markTypeS_c x.fTypeArgs _ _ _ _ O7.out n7 (by omega) (by omega)).mono ?_
      rintro e w11 ⟨rfl, o7, hk⟩
      clear g
      replace O7 := Lib.hid o7
      replace O6 := Lib.hid (O6.out.kept hk d6_7)
      replace O8 := Lib.hid (O8.out.kept hk d8_7)
      replace O9 := Lib.hid (O9.out.kept hk d9_7)
      replace O10 := Lib.hid (O10.out.kept hk d10_7)
      replace HR := Lib.hid (HR.out.kept hk b7)
      replace HK := Lib.hid (HK.out.trans (hk.mono (fun x h => by simp [h])))
      replace HS : Hid (Kept w11 w11 [b]) := Lib.hid (Kept.refl _ _)
      clear o7 hk
      replace HK := Lib.hid (HK.out.trans (HS.out.mono (fun x h => by simp only [List.mem_singleton] at h; simp [h])))
      replace O6 := Lib.hid (O6.out.kept HS.out e6)
      replace O7 := Lib.hid (O7.out.kept HS.out e7)
      replace O8 := Lib.hid (O8.out.kept HS.out e8)
      replace O9 := Lib.hid (O9.out.kept HS.out e9)
      replace O10 := Lib.hid (O10.out.kept HS.out e10)
      have g := (HR.out.cells HP.out) 8 _ rfl
      go_wp2_with fail
      refine (markEvidenceS_c x.fEvidence _ _ _ _ O8.out n8 (by omega) (by omega)).mono ?_
      rintro e w12 ⟨rfl, o8, hk⟩
      clear g
      replace O8 := Lib.hid o8
      replace O6 := Lib.hid (O6.out.kept hk d6_8)
      replace O7 := Lib.hid (O7.out.kept hk d7_8)
      replace O9 := Lib.hid (O9.out.kept hk d9_8)
      replace O10 := Lib.hid (O10.out.kept hk d10_8)
      replace HR := Lib.hid (HR.out.kept hk b8)
      replace HK := Lib.hid (HK.out.trans (hk.mono (fun x h => by simp [h])))
      replace HS : Hid (Kept w12 w12 [b]) := Lib.hid (Kept.refl _ _)
      clear o8 hk
      replace HK := Lib.hid (HK.out.trans (HS.out.mono (fun x h => by simp only [List.mem_singleton] at h; simp [h])))
      replace O6 := Lib.hid (O6.out.kept HS.out e6)
      replace O7 := Lib.hid (O7.out.kept HS.out e7)
      replace O8 := Lib.hid (O8.out.kept HS.out e8)
      replace O9 := Lib.hid (O9.out.kept HS.out e9)
      replace O10 := Lib.hid (O10.out.kept HS.out e10)
      have g := (HR.out.cells HP.out) 9 _ rfl
      go_wp2_with fail
      refine (iMarkCoreS x.fArgs (by have := TCore.lt_fArgs x; omega) _ _ _ _ O9.out n9 (by omega) (by omega)).mono ?_
      rintro e w13 ⟨rfl, o9, hk⟩
      clear g
      replace O9 := Lib.hid o9
      replace O6 := Lib.hid (O6.out.kept hk d6_9)
      replace O7 := Lib.hid (O7.out.kept hk d7_9)
      replace O8 := Lib.hid (O8.out.kept hk d8_9)
      replace O10 := Lib.hid (O10.out.kept hk d10_9)
      replace HR := Lib.hid (HR.out.kept hk b9)
      replace HK := Lib.hid (HK.out.trans (hk.mono (fun x h => by simp [h])))
      replace HS : Hid (Kept w13 w13 [b]) := Lib.hid (Kept.refl _ _)
      clear o9 hk
      replace HK := Lib.hid (HK.out.trans (HS.out.mono (fun x h => by simp only [List.mem_singleton] at h; simp [h])))
      replace O6 := Lib.hid (O6.out.kept HS.out e6)
      replace O7 := Lib.hid (O7.out.kept HS.out e7)
      replace O8 := Lib.hid (O8.out.kept HS.out e8)
      replace O9 := Lib.hid (O9.out.kept HS.out e9)
      replace O10 := Lib.hid (O10.out.kept HS.out e10)
      have g := (HR.out.cells HP.out) 10 _ rfl
      go_wp2_with fail
      refine (iMarkCoreArmS x.fArms (by have := TCore.lt_fArms x; omega) _ _ _ _ O10.out n10 (by omega) (by omega)).mono ?_
      rintro e w14 ⟨rfl, o10, hk⟩
      clear g
      replace O10 := Lib.hid o10
      replace O6 := Lib.hid (O6.out.kept hk d6_10)
      replace O7 := Lib.hid (O7.out.kept hk d7_10)
      replace O8 := Lib.hid (O8.out.kept hk d8_10)
      replace O9 := Lib.hid (O9.out.kept hk d9_10)
      replace HR := Lib.hid (HR.out.kept hk b10)
      replace HK := Lib.hid (HK.out.trans (hk.mono (fun x h => by simp [h])))
      replace HS : Hid (Kept w14 w14 [b]) := Lib.hid (Kept.refl _ _)
      clear o10 hk
      replace HK := Lib.hid (HK.out.trans (HS.out.mono (fun x h => by simp only [List.mem_singleton] at h; simp [h])))
      replace O6 := Lib.hid (O6.out.kept HS.out e6)
      replace O7 := Lib.hid (O7.out.kept HS.out e7)
      replace O8 := Lib.hid (O8.out.kept HS.out e8)
      replace O9 := Lib.hid (O9.out.kept HS.out e9)
      replace O10 := Lib.hid (O10.out.kept HS.out e10)
      have OF := Lib.hid (HB.out _ _ HR.out rfl HK.out (TCore.mk_flat hc0 (by rw [TCore.cnt_flat]; omega) O6.out O7.out O8.out O9.out O10.out))
      have KF := Lib.hid (Hk.out.trans (HK.out.mono (fun x h => sub_mid HD.out h)))
      rw [← HD.out] at OF
      clear HB HR HK HS HD HP Hk O6 O7 O8 O9 O10
      go_wp2
      go_roundw
      case rel => exact ⟨n + 1, _, hlt, by go_num, rfl, by omega, Lib.hid ⟨by have := HN.out; omega, OF.out⟩, KF⟩
      case measure => simp [intOf]; omega
    · obtain rfl : n = l.length := by omega
      have HE := Lib.hid (mark_end Hs.out.1 Hs.out.2)
      go_wp2
      go_ret
      exact ⟨ret_int HE.out.1, HE.out.2, Hk.out⟩
theorem MarkCoreArmS_all : ∀ N : Nat, MarkCoreArmS N ∧ MarkCoreS N
  | 0 => ⟨fun _ h => absurd h (Nat.not_lt_zero _), fun _ h => absurd h (Nat.not_lt_zero _)⟩
  | N + 1 => by
    obtain ⟨i0, i1⟩ := MarkCoreArmS_all N
    exact ⟨stepMarkCoreArmS N i0 i1, stepMarkCoreS N i0 i1⟩
theorem markCoreArmS_c (l : List TCoreArm) : ∀ (w : World) (k : Int) (v : Value) (bs : List Nat) (_ : Own w (.sl (l.map TCoreArm.enc)) [v] bs) (_ : bs.Nodup) (_ : 0 ≤ k) (_ : k + (cnts (l.map TCoreArm.enc) : Nat) ≤ 4611686018427387904),
    Calls Tryz.prog 81 #[v, .int .i64 k] w fun e w' => e = .returned (.int .i64 (k + (cnts (l.map TCoreArm.enc) : Nat))) ∧ Own w' (.sl (mks k (l.map TCoreArm.enc))) [v] bs ∧ Kept w w' bs := (MarkCoreArmS_all (SizeOf.sizeOf l + 1)).1 l (Nat.lt_succ_self _)
theorem markCoreS_c (l : List TCore) : ∀ (w : World) (k : Int) (v : Value) (bs : List Nat) (_ : Own w (.sl (l.map TCore.enc)) [v] bs) (_ : bs.Nodup) (_ : 0 ≤ k) (_ : k + (cnts (l.map TCore.enc) : Nat) ≤ 4611686018427387904),
    Calls Tryz.prog 80 #[v, .int .i64 k] w fun e w' => e = .returned (.int .i64 (k + (cnts (l.map TCore.enc) : Nat))) ∧ Own w' (.sl (mks k (l.map TCore.enc))) [v] bs ∧ Kept w w' bs := (MarkCoreArmS_all (SizeOf.sizeOf l + 1)).2 l (Nat.lt_succ_self _)
set_option maxRecDepth 100000 in
set_option maxHeartbeats 1000000 in
theorem markParamS_c (l : List TParam) : ∀ (w : World) (k : Int) (v : Value) (bs : List Nat) (_ : Own w (.sl (l.map TParam.enc)) [v] bs) (_ : bs.Nodup) (_ : 0 ≤ k) (_ : k + (cnts (l.map TParam.enc) : Nat) ≤ 4611686018427387904),
    Calls Tryz.prog 77 #[v, .int .i64 k] w fun e w' => e = .returned (.int .i64 (k + (cnts (l.map TParam.enc) : Nat))) ∧ Own w' (.sl (mks k (l.map TParam.enc))) [v] bs ∧ Kept w w' bs := by
  intro w k v bs h nd h0 hlim
  obtain ⟨a, cap, rfl, hcp, hm⟩ := own_valT h
  unfold maxLen at hm
  have H := Lib.hid (mark_start (k := k) h)
  clear h
  have Hlim := Lib.hid hlim
  have Hnd := Lib.hid nd
  clear nd hlim
  go_enter Tryz.func77, Tryz.ntmps77
  go_wp2
  go_loopw [5, 1] (fun i kk wr => ∃ (n : Nat) (c : Int), n ≤ l.length ∧ i = .int .i64 n ∧ kk = .int .i64 c ∧ 0 ≤ c ∧ Hid (c = k + (cnts ((l.map TParam.enc).take n) : Nat) ∧ Own wr (.sl (mks k ((l.map TParam.enc).take n) ++ (l.map TParam.enc).drop n)) [.slice a l.length cap] bs) ∧ Hid (Kept w wr bs)) (fun i _ _ => l.length - (intOf i).toNat)
  case atStart => exact ⟨0, k, Nat.zero_le _, rfl, rfl, h0, H, Lib.hid (Kept.refl _ _)⟩
  case round =>
    clear H
    obtain ⟨n, c, hn, rfl, rfl, hc0, Hs, Hk⟩ := hrel
    by_cases hlt : n < l.length
    · obtain ⟨b, off, t, rA, rd, rB, pre, cs, post, rfl, hbs, hr, hp, -, ho, hb, hd, hM, hN, hback⟩ := mark_at TParam.width (by decide) hlt Hs.out.1 Hlim.out Hs.out.2 Hnd.out
      have HB := Lib.hid hback
      clear hback Hs Hlim Hnd
      generalize l[n] = x at *
      rw [TParam.cnt_flat] at hM hN
      obtain ⟨c3, r3, rfl, rfl, o3⟩ := TParam.own_flat ho
      obtain ⟨n3, hd, y3⟩ := nd2 hd
      have b3 : b ∉ r3 := fun q => hb (by simp [q])
      have e3 : ∀ x ∈ r3, x ∉ [b] := fun x h1 h2 => b3 (by simp only [List.mem_singleton] at h2; exact h2 ▸ h1)
      have O3 := Lib.hid o3
      have HR := Lib.hid hr; have HP := Lib.hid hp; have HN := Lib.hid hN; have HD := Lib.hid hbs
      have HK : Hid (Kept wr wr (b :: (r3 ++ ([])))) := Lib.hid (Kept.refl _ _)
      have HS : Hid (Kept wr wr [b]) := Lib.hid (Kept.refl _ _)
      clear hr hp hN hbs ho hd hb o3 y3
      go_wp2_with fail
      refine (markText_c _ (by omega) _).mono ?_
      rintro e w1 ⟨rfl, hB1⟩
      replace HR := Lib.hid (HR.out.kept (Kept.of_below hB1 []) (by simp))
      replace HS := Lib.hid (HS.out.trans (Kept.of_below hB1 _))
      clear hB1
      go_wp2_with (with_reducible refine stW rfl 9 _ _ rfl b (off + n * 4) rfl (.string (mtext (c))) rfl infoM9 rfl HR.out 0 (by have := HP.out; omega) (by simp) ?_)
      intro w2 hr hw
      replace HR := Lib.hid hr
      replace HS := Lib.hid (HS.out.trans (hw.kept (by simp)))
      clear hr hw
      go_wp2_with (with_reducible refine stW rfl 3 _ _ rfl b (off + n * 4 + 1) rfl (.int .i64 (c + 1)) rfl infoM3 rfl HR.out 1 (by have := HP.out; omega) (by simp) ?_)
      intro w3 hr hw
      replace HR := Lib.hid hr
      replace HS := Lib.hid (HS.out.trans (hw.kept (by simp)))
      clear hr hw
      go_wp2_with fail
      refine (markText_c _ (by omega) _).mono ?_
      rintro e w4 ⟨rfl, hB4⟩
      replace HR := Lib.hid (HR.out.kept (Kept.of_below hB4 []) (by simp))
      replace HS := Lib.hid (HS.out.trans (Kept.of_below hB4 _))
      clear hB4
      go_wp2_with (with_reducible refine stW rfl 9 _ _ rfl b (off + n * 4 + 2) rfl (.string (mtext (c + 1 + 1))) rfl infoM9 rfl HR.out 2 (by have := HP.out; omega) (by simp) ?_)
      intro w5 hr hw
      replace HR := Lib.hid hr
      replace HS := Lib.hid (HS.out.trans (hw.kept (by simp)))
      clear hr hw
      replace HK := Lib.hid (HK.out.trans (HS.out.mono (fun x h => by simp only [List.mem_singleton] at h; simp [h])))
      replace O3 := Lib.hid (O3.out.kept HS.out e3)
      have g := (HR.out.cells HP.out) 3 _ rfl
      go_wp2_with fail
      refine (markTypeS_c x.fType.fArgs _ _ _ _ O3.out n3 (by omega) (by omega)).mono ?_
      rintro e w6 ⟨rfl, o3, hk⟩
      clear g
      replace O3 := Lib.hid o3
      replace HR := Lib.hid (HR.out.kept hk b3)
      replace HK := Lib.hid (HK.out.trans (hk.mono (fun x h => by simp [h])))
      replace HS : Hid (Kept w6 w6 [b]) := Lib.hid (Kept.refl _ _)
      clear o3 hk
      replace HK := Lib.hid (HK.out.trans (HS.out.mono (fun x h => by simp only [List.mem_singleton] at h; simp [h])))
      replace O3 := Lib.hid (O3.out.kept HS.out e3)
      have OF := Lib.hid (HB.out _ _ HR.out rfl HK.out (TParam.mk_flat hc0 (by rw [TParam.cnt_flat]; omega) O3.out))
      have KF := Lib.hid (Hk.out.trans (HK.out.mono (fun x h => sub_mid HD.out h)))
      rw [← HD.out] at OF
      clear HB HR HK HS HD HP Hk O3
      go_wp2
      go_roundw
      case rel => exact ⟨n + 1, _, hlt, by go_num, rfl, by omega, Lib.hid ⟨by have := HN.out; omega, OF.out⟩, KF⟩
      case measure => simp [intOf]; omega
    · obtain rfl : n = l.length := by omega
      have HE := Lib.hid (mark_end Hs.out.1 Hs.out.2)
      go_wp2
      go_ret
      exact ⟨ret_int HE.out.1, HE.out.2, Hk.out⟩
set_option maxRecDepth 100000 in
set_option maxHeartbeats 1000000 in
theorem markUnitS_c (l : List TUnit) : ∀ (w : World) (k : Int) (v : Value) (bs : List Nat) (_ : Own w (.sl (l.map TUnit.enc)) [v] bs) (_ : bs.Nodup) (_ : 0 ≤ k) (_ : k + (cnts (l.map TUnit.enc) : Nat) ≤ 4611686018427387904),
    Calls Tryz.prog 31 #[v, .int .i64 k] w fun e w' => e = .returned (.int .i64 (k + (cnts (l.map TUnit.enc) : Nat))) ∧ Own w' (.sl (mks k (l.map TUnit.enc))) [v] bs ∧ Kept w w' bs := by
  intro w k v bs h nd h0 hlim
  obtain ⟨a, cap, rfl, hcp, hm⟩ := own_valT h
  unfold maxLen at hm
  have H := Lib.hid (mark_start (k := k) h)
  clear h
  have Hlim := Lib.hid hlim
  have Hnd := Lib.hid nd
  clear nd hlim
  go_enter Tryz.func31, Tryz.ntmps31
  go_wp2
  go_loopw [5, 1] (fun i kk wr => ∃ (n : Nat) (c : Int), n ≤ l.length ∧ i = .int .i64 n ∧ kk = .int .i64 c ∧ 0 ≤ c ∧ Hid (c = k + (cnts ((l.map TUnit.enc).take n) : Nat) ∧ Own wr (.sl (mks k ((l.map TUnit.enc).take n) ++ (l.map TUnit.enc).drop n)) [.slice a l.length cap] bs) ∧ Hid (Kept w wr bs)) (fun i _ _ => l.length - (intOf i).toNat)
  case atStart => exact ⟨0, k, Nat.zero_le _, rfl, rfl, h0, H, Lib.hid (Kept.refl _ _)⟩
  case round =>
    clear H
    obtain ⟨n, c, hn, rfl, rfl, hc0, Hs, Hk⟩ := hrel
    by_cases hlt : n < l.length
    · obtain ⟨b, off, t, rA, rd, rB, pre, cs, post, rfl, hbs, hr, hp, -, ho, hb, hd, hM, hN, hback⟩ := mark_at TUnit.width (by decide) hlt Hs.out.1 Hlim.out Hs.out.2 Hnd.out
      have HB := Lib.hid hback
      clear hback Hs Hlim Hnd
      generalize l[n] = x at *
      rw [TUnit.cnt_flat] at hM hN
      obtain ⟨c4, c5, c6, c9, c16, c17, c18, c19, c20, r4, r5, r6, r9, r16, r17, r18, r19, r20, rfl, rfl, o4, o5, o6, o9, o16, o17, o18, o19, o20⟩ := TUnit.own_flat ho
      obtain ⟨n4, hd, y4⟩ := nd2 hd
      have d4_5 : ∀ x ∈ r4, x ∉ r5 := fun x h1 h2 => y4 x h1 (by simp [h2])
      have d5_4 : ∀ x ∈ r5, x ∉ r4 := fun x h1 h2 => y4 x h2 (by simp [h1])
      have d4_6 : ∀ x ∈ r4, x ∉ r6 := fun x h1 h2 => y4 x h1 (by simp [h2])
      have d6_4 : ∀ x ∈ r6, x ∉ r4 := fun x h1 h2 => y4 x h2 (by simp [h1])
      have d4_9 : ∀ x ∈ r4, x ∉ r9 := fun x h1 h2 => y4 x h1 (by simp [h2])
      have d9_4 : ∀ x ∈ r9, x ∉ r4 := fun x h1 h2 => y4 x h2 (by simp [h1])
      have d4_16 : ∀ x ∈ r4, x ∉ r16 := fun x h1 h2 => y4 x h1 (by simp [h2])
      have d16_4 : ∀ x ∈ r16, x ∉ r4 := fun x h1 h2 => y4 x h2 (by simp [h1])
      have d4_17 : ∀ x ∈ r4, x ∉ r17 := fun x h1 h2 => y4 x h1 (by simp [h2])
      have d17_4 : ∀ x ∈ r17, x ∉ r4 := fun x h1 h2 => y4 x h2 (by simp [h1])
      have d4_18 : ∀ x ∈ r4, x ∉ r18 := fun x h1 h2 => y4 x h1 (by simp [h2])
      have d18_4 : ∀ x ∈ r18, x ∉ r4 := fun x h1 h2 => y4 x h2 (by simp [h1])
      have d4_19 : ∀ x ∈ r4, x ∉ r19 := fun x h1 h2 => y4 x h1 (by simp [h2])
      have d19_4 : ∀ x ∈ r19, x ∉ r4 := fun x h1 h2 => y4 x h2 (by simp [h1])
      have d4_20 : ∀ x ∈ r4, x ∉ r20 := fun x h1 h2 => y4 x h1 (by simp [h2])
      have d20_4 : ∀ x ∈ r20, x ∉ r4 := fun x h1 h2 => y4 x h2 (by simp [h1])
      obtain ⟨n5, hd, y5⟩ := nd2 hd
      have d5_6 : ∀ x ∈ r5, x ∉ r6 := fun x h1 h2 => y5 x h1 (by simp [h2])
      have d6_5 : ∀ x ∈ r6, x ∉ r5 := fun x h1 h2 => y5 x h2 (by simp [h1])
      have d5_9 : ∀ x ∈ r5, x ∉ r9 := fun x h1 h2 => y5 x h1 (by simp [h2])
      have d9_5 : ∀ x ∈ r9, x ∉ r5 := fun x h1 h2 => y5 x h2 (by simp [h1])
      have d5_16 : ∀ x ∈ r5, x ∉ r16 := fun x h1 h2 => y5 x h1 (by simp [h2])
      have d16_5 : ∀ x ∈ r16, x ∉ r5 := fun x h1 h2 => y5 x h2 (by simp [h1])
      have d5_17 : ∀ x ∈ r5, x ∉ r17 := fun x h1 h2 => y5 x h1 (by simp [h2])
      have d17_5 : ∀ x ∈ r17, x ∉ r5 := fun x h1 h2 => y5 x h2 (by simp [h1])
      have d5_18 : ∀ x ∈ r5, x ∉ r18 := fun x h1 h2 => y5 x h1 (by simp [h2])
      have d18_5 : ∀ x ∈ r18, x ∉ r5 := fun x h1 h2 => y5 x h2 (by simp [h1])
      have d5_19 : ∀ x ∈ r5, x ∉ r19 := fun x h1 h2 => y5 x h1 (by simp [h2])
      have d19_5 : ∀ x ∈ r19, x ∉ r5 := fun x h1 h2 => y5 x h2 (by simp [h1])
      have d5_20 : ∀ x ∈ r5, x ∉ r20 := fun x h1 h2 => y5 x h1 (by simp [h2])
      have d20_5 : ∀ x ∈ r20, x ∉ r5 := fun x h1 h2 => y5 x h2 (by simp [h1])
      obtain ⟨n6, hd, y6⟩ := nd2 hd
      have d6_9 : ∀ x ∈ r6, x ∉ r9 := fun x h1 h2 => y6 x h1 (by simp [h2])
      have d9_6 : ∀ x ∈ r9, x ∉ r6 := fun x h1 h2 => y6 x h2 (by simp [h1])
      have d6_16 : ∀ x ∈ r6, x ∉ r16 := fun x h1 h2 => y6 x h1 (by simp [h2])
      have d16_6 : ∀ x ∈ r16, x ∉ r6 := fun x h1 h2 => y6 x h2 (by simp [h1])
      have d6_17 : ∀ x ∈ r6, x ∉ r17 := fun x h1 h2 => y6 x h1 (by simp [h2])
      have d17_6 : ∀ x ∈ r17, x ∉ r6 := fun x h1 h2 => y6 x h2 (by simp [h1])
      have d6_18 : ∀ x ∈ r6, x ∉ r18 := fun x h1 h2 => y6 x h1 (by simp [h2])
      have d18_6 : ∀ x ∈ r18, x ∉ r6 := fun x h1 h2 => y6 x h2 (by simp [h1])
      have d6_19 : ∀ x ∈ r6, x ∉ r19 := fun x h1 h2 => y6 x h1 (by simp [h2])
      have d19_6 : ∀ x ∈ r19, x ∉ r6 := fun x h1 h2 => y6 x h2 (by simp [h1])
      have d6_20 : ∀ x ∈ r6, x ∉ r20 := fun x h1 h2 => y6 x h1 (by simp [h2])
      have d20_6 : ∀ x ∈ r20, x ∉ r6 := fun x h1 h2 => y6 x h2 (by simp [h1])
      obtain ⟨n9, hd, y9⟩ := nd2 hd
      have d9_16 : ∀ x ∈ r9, x ∉ r16 := fun x h1 h2 => y9 x h1 (by simp [h2])
      have d16_9 : ∀ x ∈ r16, x ∉ r9 := fun x h1 h2 => y9 x h2 (by simp [h1])
      have d9_17 : ∀ x ∈ r9, x ∉ r17 := fun x h1 h2 => y9 x h1 (by simp [h2])
      have d17_9 : ∀ x ∈ r17, x ∉ r9 := fun x h1 h2 => y9 x h2 (by simp [h1])
      have d9_18 : ∀ x ∈ r9, x ∉ r18 := fun x h1 h2 => y9 x h1 (by simp [h2])
      have d18_9 : ∀ x ∈ r18, x ∉ r9 := fun x h1 h2 => y9 x h2 (by simp [h1])
      have d9_19 : ∀ x ∈ r9, x ∉ r19 := fun x h1 h2 => y9 x h1 (by simp [h2])
      have d19_9 : ∀ x ∈ r19, x ∉ r9 := fun x h1 h2 => y9 x h2 (by simp [h1])
      have d9_20 : ∀ x ∈ r9, x ∉ r20 := fun x h1 h2 => y9 x h1 (by simp [h2])
      have d20_9 : ∀ x ∈ r20, x ∉ r9 := fun x h1 h2 => y9 x h2 (by simp [h1])
      obtain ⟨n16, hd, y16⟩ := nd2 hd
      have d16_17 : ∀ x ∈ r16, x ∉ r17 := fun x h1 h2 => y16 x h1 (by simp [h2])
      have d17_16 : ∀ x ∈ r17, x ∉ r16 := fun x h1 h2 => y16 x h2 (by simp [h1])
      have d16_18 : ∀ x ∈ r16, x ∉ r18 := fun x h1 h2 => y16 x h1 (by simp [h2])
      have d18_16 : ∀ x ∈ r18, x ∉ r16 := fun x h1 h2 => y16 x h2 (by simp [h1])
      have d16_19 : ∀ x ∈ r16, x ∉ r19 := fun x h1 h2 => y16 x h1 (by simp [h2])
      have d19_16 : ∀ x ∈ r19, x ∉ r16 := fun x h1 h2 => y16 x h2 (by simp [h1])
      have d16_20 : ∀ x ∈ r16, x ∉ r20 := fun x h1 h2 => y16 x h1 (by simp [h2])
      have d20_16 : ∀ x ∈ r20, x ∉ r16 := fun x h1 h2 => y16 x h2 (by simp [h1])
      obtain ⟨n17, hd, y17⟩ := nd2 hd
      have d17_18 : ∀ x ∈ r17, x ∉ r18 := fun x h1 h2 => y17 x h1 (by simp [h2])
      have d18_17 : ∀ x ∈ r18, x ∉ r17 := fun x h1 h2 => y17 x h2 (by simp [h1])
      have d17_19 : ∀ x ∈ r17, x ∉ r19 := fun x h1 h2 => y17 x h1 (by simp [h2])
      have d19_17 : ∀ x ∈ r19, x ∉ r17 := fun x h1 h2 => y17 x h2 (by simp [h1])
      have d17_20 : ∀ x ∈ r17, x ∉ r20 := fun x h1 h2 => y17 x h1 (by simp [h2])
      have d20_17 : ∀ x ∈ r20, x ∉ r17 := fun x h1 h2 => y17 x h2 (by simp [h1])
      obtain ⟨n18, hd, y18⟩ := nd2 hd
      have d18_19 : ∀ x ∈ r18, x ∉ r19 := fun x h1 h2 => y18 x h1 (by simp [h2])
      have d19_18 : ∀ x ∈ r19, x ∉ r18 := fun x h1 h2 => y18 x h2 (by simp [h1])
      have d18_20 : ∀ x ∈ r18, x ∉ r20 := fun x h1 h2 => y18 x h1 (by simp [h2])
      have d20_18 : ∀ x ∈ r20, x ∉ r18 := fun x h1 h2 => y18 x h2 (by simp [h1])
      obtain ⟨n19, hd, y19⟩ := nd2 hd
      have d19_20 : ∀ x ∈ r19, x ∉ r20 := fun x h1 h2 => y19 x h1 (by simp [h2])
      have d20_19 : ∀ x ∈ r20, x ∉ r19 := fun x h1 h2 => y19 x h2 (by simp [h1])
      obtain ⟨n20, hd, y20⟩ := nd2 hd
      have b4 : b ∉ r4 := fun q => hb (by simp [q])
      have e4 : ∀ x ∈ r4, x ∉ [b] := fun x h1 h2 => b4 (by simp only [List.mem_singleton] at h2; exact h2 ▸ h1)
      have b5 : b ∉ r5 := fun q => hb (by simp [q])
      have e5 : ∀ x ∈ r5, x ∉ [b] := fun x h1 h2 => b5 (by simp only [List.mem_singleton] at h2; exact h2 ▸ h1)
      have b6 : b ∉ r6 := fun q => hb (by simp [q])
      have e6 : ∀ x ∈ r6, x ∉ [b] := fun x h1 h2 => b6 (by simp only [List.mem_singleton] at h2; exact h2 ▸ h1)
      have b9 : b ∉ r9 := fun q => hb (by simp [q])
      have e9 : ∀ x ∈ r9, x ∉ [b] := fun x h1 h2 => b9 (by simp only [List.mem_singleton] at h2; exact h2 ▸ h1)
      have b16 : b ∉ r16 := fun q => hb (by simp [q])
      have e16 : ∀ x ∈ r16, x ∉ [b] := fun x h1 h2 => b16 (by simp only [List.mem_singleton] at h2; exact h2 ▸ h1)
      have b17 : b ∉ r17 := fun q => hb (by simp [q])
      have e17 : ∀ x ∈ r17, x ∉ [b] := fun x h1 h2 => b17 (by simp only [List.mem_singleton] at h2; exact h2 ▸ h1)
      have b18 : b ∉ r18 := fun q => hb (by simp [q])
      have e18 : ∀ x ∈ r18, x ∉ [b] := fun x h1 h2 => b18 (by simp only [List.mem_singleton] at h2; exact h2 ▸ h1)
      have b19 : b ∉ r19 := fun q => hb (by simp [q])
      have e19 : ∀ x ∈ r19, x ∉ [b] := fun x h1 h2 => b19 (by simp only [List.mem_singleton] at h2; exact h2 ▸ h1)
      have b20 : b ∉ r20 := fun q => hb (by simp [q])
      have e20 : ∀ x ∈ r20, x ∉ [b] := fun x h1 h2 => b20 (by simp only [List.mem_singleton] at h2; exact h2 ▸ h1)
      have O4 := Lib.hid o4
      have O5 := Lib.hid o5
      have O6 := Lib.hid o6
      have O9 := Lib.hid o9
      have O16 := Lib.hid o16
      have O17 := Lib.hid o17
      have O18 := Lib.hid o18
      have O19 := Lib.hid o19
      have O20 := Lib.hid o20
      have HR := Lib.hid hr; have HP := Lib.hid hp; have HN := Lib.hid hN; have HD := Lib.hid hbs
      have HK : Hid (Kept wr wr (b :: (r4 ++ (r5 ++ (r6 ++ (r9 ++ (r16 ++ (r17 ++ (r18 ++ (r19 ++ (r20 ++ ([])))))))))))) := Lib.hid (Kept.refl _ _)
      have HS : Hid (Kept wr wr [b]) := Lib.hid (Kept.refl _ _)
      clear hr hp hN hbs ho hd hb o4 o5 o6 o9 o16 o17 o18 o19 o20 y4 y5 y6 y9 y16 y17 y18 y19 y20
      go_wp2_with (with_reducible refine stW rfl 3 _ _ rfl b (off + n * 21) rfl (.int .i64 (c)) rfl infoM3 rfl HR.out 0 (by have := HP.out; omega) (by simp) ?_)
      intro w1 hr hw
      replace HR := Lib.hid hr
      replace HS := Lib.hid (HS.out.trans (hw.kept (by simp)))
      clear hr hw
      go_wp2_with (with_reducible refine stW rfl 3 _ _ rfl b (off + n * 21 + 1) rfl (.int .i64 (c + 1)) rfl infoM3 rfl HR.out 1 (by have := HP.out; omega) (by simp) ?_)
      intro w2 hr hw
      replace HR := Lib.hid hr
      replace HS := Lib.hid (HS.out.trans (hw.kept (by simp)))
      clear hr hw
      go_wp2_with (with_reducible refine stW rfl 3 _ _ rfl b (off + n * 21 + 2) rfl (.int .i64 (c + 1 + 1)) rfl infoM3 rfl HR.out 2 (by have := HP.out; omega) (by simp) ?_)
      intro w3 hr hw
      replace HR := Lib.hid hr
      replace HS := Lib.hid (HS.out.trans (hw.kept (by simp)))
      clear hr hw
      go_wp2_with (with_reducible refine stW rfl 3 _ _ rfl b (off + n * 21 + 3) rfl (.int .i64 (c + 1 + 1 + 1)) rfl infoM3 rfl HR.out 3 (by have := HP.out; omega) (by simp) ?_)
      intro w4 hr hw
      replace HR := Lib.hid hr
      replace HS := Lib.hid (HS.out.trans (hw.kept (by simp)))
      clear hr hw
      replace HK := Lib.hid (HK.out.trans (HS.out.mono (fun x h => by simp only [List.mem_singleton] at h; simp [h])))
      replace O4 := Lib.hid (O4.out.kept HS.out e4)
      replace O5 := Lib.hid (O5.out.kept HS.out e5)
      replace O6 := Lib.hid (O6.out.kept HS.out e6)
      replace O9 := Lib.hid (O9.out.kept HS.out e9)
      replace O16 := Lib.hid (O16.out.kept HS.out e16)
      replace O17 := Lib.hid (O17.out.kept HS.out e17)
      replace O18 := Lib.hid (O18.out.kept HS.out e18)
      replace O19 := Lib.hid (O19.out.kept HS.out e19)
      replace O20 := Lib.hid (O20.out.kept HS.out e20)
      have g := (HR.out.cells HP.out) 4 _ rfl
      go_wp2_with fail
      refine (markStringS_c x.fVars _ _ _ _ O4.out n4 (by omega) (by omega)).mono ?_
      rintro e w5 ⟨rfl, o4, hk⟩
      clear g
      replace O4 := Lib.hid o4
      replace O5 := Lib.hid (O5.out.kept hk d5_4)
      replace O6 := Lib.hid (O6.out.kept hk d6_4)
      replace O9 := Lib.hid (O9.out.kept hk d9_4)
      replace O16 := Lib.hid (O16.out.kept hk d16_4)
      replace O17 := Lib.hid (O17.out.kept hk d17_4)
      replace O18 := Lib.hid (O18.out.kept hk d18_4)
      replace O19 := Lib.hid (O19.out.kept hk d19_4)
      replace O20 := Lib.hid (O20.out.kept hk d20_4)
      replace HR := Lib.hid (HR.out.kept hk b4)
      replace HK := Lib.hid (HK.out.trans (hk.mono (fun x h => by simp [h])))
      replace HS : Hid (Kept w5 w5 [b]) := Lib.hid (Kept.refl _ _)
      clear o4 hk
      replace HK := Lib.hid (HK.out.trans (HS.out.mono (fun x h => by simp only [List.mem_singleton] at h; simp [h])))
      replace O4 := Lib.hid (O4.out.kept HS.out e4)
      replace O5 := Lib.hid (O5.out.kept HS.out e5)
      replace O6 := Lib.hid (O6.out.kept HS.out e6)
      replace O9 := Lib.hid (O9.out.kept HS.out e9)
      replace O16 := Lib.hid (O16.out.kept HS.out e16)
      replace O17 := Lib.hid (O17.out.kept HS.out e17)
      replace O18 := Lib.hid (O18.out.kept HS.out e18)
      replace O19 := Lib.hid (O19.out.kept HS.out e19)
      replace O20 := Lib.hid (O20.out.kept HS.out e20)
      have g := (HR.out.cells HP.out) 5 _ rfl
      go_wp2_with fail
      refine (markBoundS_c x.fWhere _ _ _ _ O5.out n5 (by omega) (by omega)).mono ?_
      rintro e w6 ⟨rfl, o5, hk⟩
      clear g
      replace O5 := Lib.hid o5
      replace O4 := Lib.hid (O4.out.kept hk d4_5)
      replace O6 := Lib.hid (O6.out.kept hk d6_5)
      replace O9 := Lib.hid (O9.out.kept hk d9_5)
      replace O16 := Lib.hid (O16.out.kept hk d16_5)
      replace O17 := Lib.hid (O17.out.kept hk d17_5)
      replace O18 := Lib.hid (O18.out.kept hk d18_5)
      replace O19 := Lib.hid (O19.out.kept hk d19_5)
      replace O20 := Lib.hid (O20.out.kept hk d20_5)
      replace HR := Lib.hid (HR.out.kept hk b5)
      replace HK := Lib.hid (HK.out.trans (hk.mono (fun x h => by simp [h])))
      replace HS : Hid (Kept w6 w6 [b]) := Lib.hid (Kept.refl _ _)
      clear o5 hk
      replace HK := Lib.hid (HK.out.trans (HS.out.mono (fun x h => by simp only [List.mem_singleton] at h; simp [h])))
      replace O4 := Lib.hid (O4.out.kept HS.out e4)
      replace O5 := Lib.hid (O5.out.kept HS.out e5)
      replace O6 := Lib.hid (O6.out.kept HS.out e6)
      replace O9 := Lib.hid (O9.out.kept HS.out e9)
      replace O16 := Lib.hid (O16.out.kept HS.out e16)
      replace O17 := Lib.hid (O17.out.kept HS.out e17)
      replace O18 := Lib.hid (O18.out.kept HS.out e18)
      replace O19 := Lib.hid (O19.out.kept HS.out e19)
      replace O20 := Lib.hid (O20.out.kept HS.out e20)
      have g := (HR.out.cells HP.out) 6 _ rfl
      go_wp2_with fail
      refine (markParamS_c x.fParams _ _ _ _ O6.out n6 (by omega) (by omega)).mono ?_
      rintro e w7 ⟨rfl, o6, hk⟩
      clear g
      replace O6 := Lib.hid o6
      replace O4 := Lib.hid (O4.out.kept hk d4_6)
      replace O5 := Lib.hid (O5.out.kept hk d5_6)
      replace O9 := Lib.hid (O9.out.kept hk d9_6)
      replace O16 := Lib.hid (O16.out.kept hk d16_6)
      replace O17 := Lib.hid (O17.out.kept hk d17_6)
      replace O18 := Lib.hid (O18.out.kept hk d18_6)
      replace O19 := Lib.hid (O19.out.kept hk d19_6)
      replace O20 := Lib.hid (O20.out.kept hk d20_6)
      replace HR := Lib.hid (HR.out.kept hk b6)
      replace HK := Lib.hid (HK.out.trans (hk.mono (fun x h => by simp [h])))
      replace HS : Hid (Kept w7 w7 [b]) := Lib.hid (Kept.refl _ _)
      clear o6 hk
      go_wp2_with (with_reducible refine stW rfl 3 _ _ rfl b (off + n * 21 + 7) rfl (.int .i64 (c + 1 + 1 + 1 + 1 + (cnts (x.fVars.map encS) : Nat) + (cnts (x.fWhere.map TBound.enc) : Nat) + (cnts (x.fParams.map TParam.enc) : Nat))) rfl infoM3 rfl HR.out 7 (by have := HP.out; omega) (by simp) ?_)
      intro w8 hr hw
      replace HR := Lib.hid hr
      replace HS := Lib.hid (HS.out.trans (hw.kept (by simp)))
      clear hr hw
      go_wp2_with fail
      refine (markText_c _ (by omega) _).mono ?_
      rintro e w9 ⟨rfl, hB9⟩
      replace HR := Lib.hid (HR.out.kept (Kept.of_below hB9 []) (by simp))
      replace HS := Lib.hid (HS.out.trans (Kept.of_below hB9 _))
      clear hB9
      go_wp2_with (with_reducible refine stW rfl 9 _ _ rfl b (off + n * 21 + 8) rfl (.string (mtext (c + 1 + 1 + 1 + 1 + (cnts (x.fVars.map encS) : Nat) + (cnts (x.fWhere.map TBound.enc) : Nat) + (cnts (x.fParams.map TParam.enc) : Nat) + 1))) rfl infoM9 rfl HR.out 8 (by have := HP.out; omega) (by simp) ?_)
      intro w10 hr hw
      replace HR := Lib.hid hr
      replace HS := Lib.hid (HS.out.trans (hw.kept (by simp)))
      clear hr hw
      replace HK := Lib.hid (HK.out.trans (HS.out.mono (fun x h => by simp only [List.mem_singleton] at h; simp [h])))
      replace O4 := Lib.hid (O4.out.kept HS.out e4)
      replace O5 := Lib.hid (O5.out.kept HS.out e5)
      replace O6 := Lib.hid (O6.out.kept HS.out e6)
      replace O9 := Lib.hid (O9.out.kept HS.out e9)
      replace O16 := Lib.hid (O16.out.kept HS.out e16)
      replace O17 := Lib.hid (O17.out.kept HS.out e17)
      replace O18 := Lib.hid (O18.out.kept HS.out e18)
      replace O19 := Lib.hid (O19.out.kept HS.out e19)
      replace O20 := Lib.hid (O20.out.kept HS.out e20)
      have g := (HR.out.cells HP.out) 9 _ rfl
      go_wp2_with fail
      refine (markTypeS_c x.fResult.fArgs _ _ _ _ O9.out n9 (by omega) (by omega)).mono ?_
      rintro e w11 ⟨rfl, o9, hk⟩
      clear g
      replace O9 := Lib.hid o9
      replace O4 := Lib.hid (O4.out.kept hk d4_9)
      replace O5 := Lib.hid (O5.out.kept hk d5_9)
      replace O6 := Lib.hid (O6.out.kept hk d6_9)
      replace O16 := Lib.hid (O16.out.kept hk d16_9)
      replace O17 := Lib.hid (O17.out.kept hk d17_9)
      replace O18 := Lib.hid (O18.out.kept hk d18_9)
      replace O19 := Lib.hid (O19.out.kept hk d19_9)
      replace O20 := Lib.hid (O20.out.kept hk d20_9)
      replace HR := Lib.hid (HR.out.kept hk b9)
      replace HK := Lib.hid (HK.out.trans (hk.mono (fun x h => by simp [h])))
      replace HS : Hid (Kept w11 w11 [b]) := Lib.hid (Kept.refl _ _)
      clear o9 hk
      go_wp2_with (with_reducible refine stW rfl 3 _ _ rfl b (off + n * 21 + 10) rfl (.int .i64 (c + 1 + 1 + 1 + 1 + (cnts (x.fVars.map encS) : Nat) + (cnts (x.fWhere.map TBound.enc) : Nat) + (cnts (x.fParams.map TParam.enc) : Nat) + 1 + 1 + (cnts (x.fResult.fArgs.map TType.enc) : Nat))) rfl infoM3 rfl HR.out 10 (by have := HP.out; omega) (by simp) ?_)
      intro w12 hr hw
      replace HR := Lib.hid hr
      replace HS := Lib.hid (HS.out.trans (hw.kept (by simp)))
      clear hr hw
      go_wp2_with fail
      refine (markText_c _ (by omega) _).mono ?_
      rintro e w13 ⟨rfl, hB13⟩
      replace HR := Lib.hid (HR.out.kept (Kept.of_below hB13 []) (by simp))
      replace HS := Lib.hid (HS.out.trans (Kept.of_below hB13 _))
      clear hB13
      go_wp2_with (with_reducible refine stW rfl 9 _ _ rfl b (off + n * 21 + 11) rfl (.string (mtext (c + 1 + 1 + 1 + 1 + (cnts (x.fVars.map encS) : Nat) + (cnts (x.fWhere.map TBound.enc) : Nat) + (cnts (x.fParams.map TParam.enc) : Nat) + 1 + 1 + (cnts (x.fResult.fArgs.map TType.enc) : Nat) + 1))) rfl infoM9 rfl HR.out 11 (by have := HP.out; omega) (by simp) ?_)
      intro w14 hr hw
      replace HR := Lib.hid hr
      replace HS := Lib.hid (HS.out.trans (hw.kept (by simp)))
      clear hr hw
      go_wp2_with fail
      refine (markText_c _ (by omega) _).mono ?_
      rintro e w15 ⟨rfl, hB15⟩
      replace HR := Lib.hid (HR.out.kept (Kept.of_below hB15 []) (by simp))
      replace HS := Lib.hid (HS.out.trans (Kept.of_below hB15 _))
      clear hB15
      go_wp2_with (with_reducible refine stW rfl 9 _ _ rfl b (off + n * 21 + 12) rfl (.string (mtext (c + 1 + 1 + 1 + 1 + (cnts (x.fVars.map encS) : Nat) + (cnts (x.fWhere.map TBound.enc) : Nat) + (cnts (x.fParams.map TParam.enc) : Nat) + 1 + 1 + (cnts (x.fResult.fArgs.map TType.enc) : Nat) + 1 + 1))) rfl infoM9 rfl HR.out 12 (by have := HP.out; omega) (by simp) ?_)
      intro w16 hr hw
      replace HR := Lib.hid hr
      replace HS := Lib.hid (HS.out.trans (hw.kept (by simp)))
      clear hr hw
      go_wp2_with (with_reducible refine stW rfl 3 _ _ rfl b (off + n * 21 + 13) rfl (.int .i64 (c + 1 + 1 + 1 + 1 + (cnts (x.fVars.map encS) : Nat) + (cnts (x.fWhere.map TBound.enc) : Nat) + (cnts (x.fParams.map TParam.enc) : Nat) + 1 + 1 + (cnts (x.fResult.fArgs.map TType.enc) : Nat) + 1 + 1 + 1)) rfl infoM3 rfl HR.out 13 (by have := HP.out; omega) (by simp) ?_)
      intro w17 hr hw
      replace HR := Lib.hid hr
      replace HS := Lib.hid (HS.out.trans (hw.kept (by simp)))
      clear hr hw
      go_wp2_with (with_reducible refine stW rfl 3 _ _ rfl b (off + n * 21 + 14) rfl (.int .i64 (c + 1 + 1 + 1 + 1 + (cnts (x.fVars.map encS) : Nat) + (cnts (x.fWhere.map TBound.enc) : Nat) + (cnts (x.fParams.map TParam.enc) : Nat) + 1 + 1 + (cnts (x.fResult.fArgs.map TType.enc) : Nat) + 1 + 1 + 1 + 1)) rfl infoM3 rfl HR.out 14 (by have := HP.out; omega) (by simp) ?_)
      intro w18 hr hw
      replace HR := Lib.hid hr
      replace HS := Lib.hid (HS.out.trans (hw.kept (by simp)))
      clear hr hw
      go_wp2_with fail
      refine (markText_c _ (by omega) _).mono ?_
      rintro e w19 ⟨rfl, hB19⟩
      replace HR := Lib.hid (HR.out.kept (Kept.of_below hB19 []) (by simp))
      replace HS := Lib.hid (HS.out.trans (Kept.of_below hB19 _))
      clear hB19
      go_wp2_with (with_reducible refine stW rfl 9 _ _ rfl b (off + n * 21 + 15) rfl (.string (mtext (c + 1 + 1 + 1 + 1 + (cnts (x.fVars.map encS) : Nat) + (cnts (x.fWhere.map TBound.enc) : Nat) + (cnts (x.fParams.map TParam.enc) : Nat) + 1 + 1 + (cnts (x.fResult.fArgs.map TType.enc) : Nat) + 1 + 1 + 1 + 1 + 1))) rfl infoM9 rfl HR.out 15 (by have := HP.out; omega) (by simp) ?_)
      intro w20 hr hw
      replace HR := Lib.hid hr
      replace HS := Lib.hid (HS.out.trans (hw.kept (by simp)))
      clear hr hw
      replace HK := Lib.hid (HK.out.trans (HS.out.mono (fun x h => by simp only [List.mem_singleton] at h; simp [h])))
      replace O4 := Lib.hid (O4.out.kept HS.out e4)
      replace O5 := Lib.hid (O5.out.kept HS.out e5)
      replace O6 := Lib.hid (O6.out.kept HS.out e6)
      replace O9 := Lib.hid (O9.out.kept HS.out e9)
      replace O16 := Lib.hid (O16.out.kept HS.out e16)
      replace O17 := Lib.hid (O17.out.kept HS.out e17)
      replace O18 := Lib.hid (O18.out.kept HS.out e18)
      replace O19 := Lib.hid (O19.out.kept HS.out e19)
      replace O20 := Lib.hid (O20.out.kept HS.out e20)
      have g := (HR.out.cells HP.out) 16 _ rfl
      go_wp2_with fail
      refine (markTypeS_c x.fBody.fType.fArgs _ _ _ _ O16.out n16 (by omega) (by omega)).mono ?_
      rintro e w21 ⟨rfl, o16, hk⟩
      clear g
      replace O16 := Lib.hid o16
      replace O4 := Lib.hid (O4.out.kept hk d4_16)
      replace O5 := Lib.hid (O5.out.kept hk d5_16)
      replace O6 := Lib.hid (O6.out.kept hk d6_16)
      replace O9 := Lib.hid (O9.out.kept hk d9_16)
      replace O17 := Lib.hid (O17.out.kept hk d17_16)
      replace O18 := Lib.hid (O18.out.kept hk d18_16)
      replace O19 := Lib.hid (O19.out.kept hk d19_16)
      replace O20 := Lib.hid (O20.out.kept hk d20_16)
      replace HR := Lib.hid (HR.out.kept hk b16)
      replace HK := Lib.hid (HK.out.trans (hk.mono (fun x h => by simp [h])))
      replace HS : Hid (Kept w21 w21 [b]) := Lib.hid (Kept.refl _ _)
      clear o16 hk
      replace HK := Lib.hid (HK.out.trans (HS.out.mono (fun x h => by simp only [List.mem_singleton] at h; simp [h])))
      replace O4 := Lib.hid (O4.out.kept HS.out e4)
      replace O5 := Lib.hid (O5.out.kept HS.out e5)
      replace O6 := Lib.hid (O6.out.kept HS.out e6)
      replace O9 := Lib.hid (O9.out.kept HS.out e9)
      replace O16 := Lib.hid (O16.out.kept HS.out e16)
      replace O17 := Lib.hid (O17.out.kept HS.out e17)
      replace O18 := Lib.hid (O18.out.kept HS.out e18)
      replace O19 := Lib.hid (O19.out.kept HS.out e19)
      replace O20 := Lib.hid (O20.out.kept HS.out e20)
      have g := (HR.out.cells HP.out) 17 _ rfl
      go_wp2_with fail
      refine (markTypeS_c x.fBody.fTypeArgs _ _ _ _ O17.out n17 (by omega) (by omega)).mono ?_
      rintro e w22 ⟨rfl, o17, hk⟩
      clear g
      replace O17 := Lib.hid o17
      replace O4 := Lib.hid (O4.out.kept hk d4_17)
      replace O5 := Lib.hid (O5.out.kept hk d5_17)
      replace O6 := Lib.hid (O6.out.kept hk d6_17)
      replace O9 := Lib.hid (O9.out.kept hk d9_17)
      replace O16 := Lib.hid (O16.out.kept hk d16_17)
      replace O18 := Lib.hid (O18.out.kept hk d18_17)
      replace O19 := Lib.hid (O19.out.kept hk d19_17)
      replace O20 := Lib.hid (O20.out.kept hk d20_17)
      replace HR := Lib.hid (HR.out.kept hk b17)
      replace HK := Lib.hid (HK.out.trans (hk.mono (fun x h => by simp [h])))
      replace HS : Hid (Kept w22 w22 [b]) := Lib.hid (Kept.refl _ _)
      clear o17 hk
      replace HK := Lib.hid (HK.out.trans (HS.out.mono (fun x h => by simp only [List.mem_singleton] at h; simp [h])))
      replace O4 := Lib.hid (O4.out.kept HS.out e4)
      replace O5 := Lib.hid (O5.out.kept HS.out e5)
      replace O6 := Lib.hid (O6.out.kept HS.out e6)
      replace O9 := Lib.hid (O9.out.kept HS.out e9)
      replace O16 := Lib.hid (O16.out.kept HS.out e16)
      replace O17 := Lib.hid (O17.out.kept HS.out e17)
      replace O18 := Lib.hid (O18.out.kept HS.out e18)
      replace O19 := Lib.hid (O19.out.kept HS.out e19)
      replace O20 := Lib.hid (O20.out.kept HS.out e20)
      have g := (HR.out.cells HP.out) 18 _ rfl
      go_wp2_with fail
      refine (markEvidenceS_c x.fBody.fEvidence _ _ _ _ O18.out n18 (by omega) (by omega)).mono ?_
      rintro e w23 ⟨rfl, o18, hk⟩
      clear g
      replace O18 := Lib.hid o18
      replace O4 := Lib.hid (O4.out.kept hk d4_18)
      replace O5 := Lib.hid (O5.out.kept hk d5_18)
      replace O6 := Lib.hid (O6.out.kept hk d6_18)
      replace O9 := Lib.hid (O9.out.kept hk d9_18)
      replace O16 := Lib.hid (O16.out.kept hk d16_18)
      replace O17 := Lib.hid (O17.out.kept hk d17_18)
      replace O19 := Lib.hid (O19.out.kept hk d19_18)
      replace O20 := Lib.hid (O20.out.kept hk d20_18)
      replace HR := Lib.hid (HR.out.kept hk b18)
      replace HK := Lib.hid (HK.out.trans (hk.mono (fun x h => by simp [h])))
      replace HS : Hid (Kept w23 w23 [b]) := Lib.hid (Kept.refl _ _)
      clear o18 hk
      replace HK := Lib.hid (HK.out.trans (HS.out.mono (fun x h => by simp only [List.mem_singleton] at h; simp [h])))
      replace O4 := Lib.hid (O4.out.kept HS.out e4)
      replace O5 := Lib.hid (O5.out.kept HS.out e5)
      replace O6 := Lib.hid (O6.out.kept HS.out e6)
      replace O9 := Lib.hid (O9.out.kept HS.out e9)
      replace O16 := Lib.hid (O16.out.kept HS.out e16)
      replace O17 := Lib.hid (O17.out.kept HS.out e17)
      replace O18 := Lib.hid (O18.out.kept HS.out e18)
      replace O19 := Lib.hid (O19.out.kept HS.out e19)
      replace O20 := Lib.hid (O20.out.kept HS.out e20)
      have g := (HR.out.cells HP.out) 19 _ rfl
      go_wp2_with fail
      refine (markCoreS_c x.fBody.fArgs _ _ _ _ O19.out n19 (by omega) (by omega)).mono ?_
      rintro e w24 ⟨rfl, o19, hk⟩
      clear g
      replace O19 := Lib.hid o19
      replace O4 := Lib.hid (O4.out.kept hk d4_19)
      replace O5 := Lib.hid (O5.out.kept hk d5_19)
      replace O6 := Lib.hid (O6.out.kept hk d6_19)
      replace O9 := Lib.hid (O9.out.kept hk d9_19)
      replace O16 := Lib.hid (O16.out.kept hk d16_19)
      replace O17 := Lib.hid (O17.out.kept hk d17_19)
      replace O18 := Lib.hid (O18.out.kept hk d18_19)
      replace O20 := Lib.hid (O20.out.kept hk d20_19)
      replace HR := Lib.hid (HR.out.kept hk b19)
      replace HK := Lib.hid (HK.out.trans (hk.mono (fun x h => by simp [h])))
      replace HS : Hid (Kept w24 w24 [b]) := Lib.hid (Kept.refl _ _)
      clear o19 hk
      replace HK := Lib.hid (HK.out.trans (HS.out.mono (fun x h => by simp only [List.mem_singleton] at h; simp [h])))
      replace O4 := Lib.hid (O4.out.kept HS.out e4)
      replace O5 := Lib.hid (O5.out.kept HS.out e5)
      replace O6 := Lib.hid (O6.out.kept HS.out e6)
      replace O9 := Lib.hid (O9.out.kept HS.out e9)
      replace O16 := Lib.hid (O16.out.kept HS.out e16)
      replace O17 := Lib.hid (O17.out.kept HS.out e17)
      replace O18 := Lib.hid (O18.out.kept HS.out e18)
      replace O19 := Lib.hid (O19.out.kept HS.out e19)
      replace O20 := Lib.hid (O20.out.kept HS.out e20)
      have g := (HR.out.cells HP.out) 20 _ rfl
      go_wp2_with fail
      refine (markCoreArmS_c x.fBody.fArms _ _ _ _ O20.out n20 (by omega) (by omega)).mono ?_
      rintro e w25 ⟨rfl, o20, hk⟩
      clear g
      replace O20 := Lib.hid o20
      replace O4 := Lib.hid (O4.out.kept hk d4_20)
      replace O5 := Lib.hid (O5.out.kept hk d5_20)
      replace O6 := Lib.hid (O6.out.kept hk d6_20)
      replace O9 := Lib.hid (O9.out.kept hk d9_20)
      replace O16 := Lib.hid (O16.out.kept hk d16_20)
      replace O17 := Lib.hid (O17.out.kept hk d17_20)
      replace O18 := Lib.hid (O18.out.kept hk d18_20)
      replace O19 := Lib.hid (O19.out.kept hk d19_20)
      replace HR := Lib.hid (HR.out.kept hk b20)
      replace HK := Lib.hid (HK.out.trans (hk.mono (fun x h => by simp [h])))
      replace HS : Hid (Kept w25 w25 [b]) := Lib.hid (Kept.refl _ _)
      clear o20 hk
      replace HK := Lib.hid (HK.out.trans (HS.out.mono (fun x h => by simp only [List.mem_singleton] at h; simp [h])))
      replace O4 := Lib.hid (O4.out.kept HS.out e4)
      replace O5 := Lib.hid (O5.out.kept HS.out e5)
      replace O6 := Lib.hid (O6.out.kept HS.out e6)
      replace O9 := Lib.hid (O9.out.kept HS.out e9)
      replace O16 := Lib.hid (O16.out.kept HS.out e16)
      replace O17 := Lib.hid (O17.out.kept HS.out e17)
      replace O18 := Lib.hid (O18.out.kept HS.out e18)
      replace O19 := Lib.hid (O19.out.kept HS.out e19)
      replace O20 := Lib.hid (O20.out.kept HS.out e20)
      have OF := Lib.hid (HB.out _ _ HR.out rfl HK.out (TUnit.mk_flat hc0 (by rw [TUnit.cnt_flat]; omega) O4.out O5.out O6.out O9.out O16.out O17.out O18.out O19.out O20.out))
      have KF := Lib.hid (Hk.out.trans (HK.out.mono (fun x h => sub_mid HD.out h)))
      rw [← HD.out] at OF
      clear HB HR HK HS HD HP Hk O4 O5 O6 O9 O16 O17 O18 O19 O20
      go_wp2
      go_roundw
      case rel => exact ⟨n + 1, _, hlt, by go_num, rfl, by omega, Lib.hid ⟨by have := HN.out; omega, OF.out⟩, KF⟩
      case measure => simp [intOf]; omega
    · obtain rfl : n = l.length := by omega
      have HE := Lib.hid (mark_end Hs.out.1 Hs.out.2)
      go_wp2
      go_ret
      exact ⟨ret_int HE.out.1, HE.out.2, Hk.out⟩
set_option maxRecDepth 100000 in
set_option maxHeartbeats 1000000 in
theorem markUnitErrorS_c (l : List TUnitError) : ∀ (w : World) (k : Int) (v : Value) (bs : List Nat) (_ : Own w (.sl (l.map TUnitError.enc)) [v] bs) (_ : bs.Nodup) (_ : 0 ≤ k) (_ : k + (cnts (l.map TUnitError.enc) : Nat) ≤ 4611686018427387904),
    Calls Tryz.prog 145 #[v, .int .i64 k] w fun e w' => e = .returned (.int .i64 (k + (cnts (l.map TUnitError.enc) : Nat))) ∧ Own w' (.sl (mks k (l.map TUnitError.enc))) [v] bs ∧ Kept w w' bs := by
  intro w k v bs h nd h0 hlim
  obtain ⟨a, cap, rfl, hcp, hm⟩ := own_valT h
  unfold maxLen at hm
  have H := Lib.hid (mark_start (k := k) h)
  clear h
  have Hlim := Lib.hid hlim
  have Hnd := Lib.hid nd
  clear nd hlim
  go_enter Tryz.func145, Tryz.ntmps145
  go_wp2
  go_loopw [5, 1] (fun i kk wr => ∃ (n : Nat) (c : Int), n ≤ l.length ∧ i = .int .i64 n ∧ kk = .int .i64 c ∧ 0 ≤ c ∧ Hid (c = k + (cnts ((l.map TUnitError.enc).take n) : Nat) ∧ Own wr (.sl (mks k ((l.map TUnitError.enc).take n) ++ (l.map TUnitError.enc).drop n)) [.slice a l.length cap] bs) ∧ Hid (Kept w wr bs)) (fun i _ _ => l.length - (intOf i).toNat)
  case atStart => exact ⟨0, k, Nat.zero_le _, rfl, rfl, h0, H, Lib.hid (Kept.refl _ _)⟩
  case round =>
    clear H
    obtain ⟨n, c, hn, rfl, rfl, hc0, Hs, Hk⟩ := hrel
    by_cases hlt : n < l.length
    · obtain ⟨b, off, t, rA, rd, rB, pre, cs, post, rfl, hbs, hr, hp, -, ho, hb, hd, hM, hN, hback⟩ := mark_at TUnitError.width (by decide) hlt Hs.out.1 Hlim.out Hs.out.2 Hnd.out
      have HB := Lib.hid hback
      clear hback Hs Hlim Hnd
      generalize l[n] = x at *
      rw [TUnitError.cnt_flat] at hM hN
      obtain ⟨rfl, rfl⟩ := TUnitError.own_flat ho
      have HR := Lib.hid hr; have HP := Lib.hid hp; have HN := Lib.hid hN; have HD := Lib.hid hbs
      have HK : Hid (Kept wr wr (b :: ([]))) := Lib.hid (Kept.refl _ _)
      have HS : Hid (Kept wr wr [b]) := Lib.hid (Kept.refl _ _)
      clear hr hp hN hbs ho hd hb
      go_wp2_with (with_reducible refine stW rfl 3 _ _ rfl b (off + n * 6) rfl (.int .i64 (c)) rfl infoM3 rfl HR.out 0 (by have := HP.out; omega) (by simp) ?_)
      intro w1 hr hw
      replace HR := Lib.hid hr
      replace HS := Lib.hid (HS.out.trans (hw.kept (by simp)))
      clear hr hw
      go_wp2_with (with_reducible refine stW rfl 3 _ _ rfl b (off + n * 6 + 1) rfl (.int .i64 (c + 1)) rfl infoM3 rfl HR.out 1 (by have := HP.out; omega) (by simp) ?_)
      intro w2 hr hw
      replace HR := Lib.hid hr
      replace HS := Lib.hid (HS.out.trans (hw.kept (by simp)))
      clear hr hw
      go_wp2_with (with_reducible refine stW rfl 3 _ _ rfl b (off + n * 6 + 2) rfl (.int .i64 (c + 1 + 1)) rfl infoM3 rfl HR.out 2 (by have := HP.out; omega) (by simp) ?_)
      intro w3 hr hw
      replace HR := Lib.hid hr
      replace HS := Lib.hid (HS.out.trans (hw.kept (by simp)))
      clear hr hw
      go_wp2_with (with_reducible refine stW rfl 3 _ _ rfl b (off + n * 6 + 3) rfl (.int .i64 (c + 1 + 1 + 1)) rfl infoM3 rfl HR.out 3 (by have := HP.out; omega) (by simp) ?_)
      intro w4 hr hw
      replace HR := Lib.hid hr
      replace HS := Lib.hid (HS.out.trans (hw.kept (by simp)))
      clear hr hw
      go_wp2_with (with_reducible refine stW rfl 3 _ _ rfl b (off + n * 6 + 4) rfl (.int .i64 (c + 1 + 1 + 1 + 1)) rfl infoM3 rfl HR.out 4 (by have := HP.out; omega) (by simp) ?_)
      intro w5 hr hw
      replace HR := Lib.hid hr
      replace HS := Lib.hid (HS.out.trans (hw.kept (by simp)))
      clear hr hw
      go_wp2_with (with_reducible refine stW rfl 3 _ _ rfl b (off + n * 6 + 5) rfl (.int .i64 (c + 1 + 1 + 1 + 1 + 1)) rfl infoM3 rfl HR.out 5 (by have := HP.out; omega) (by simp) ?_)
      intro w6 hr hw
      replace HR := Lib.hid hr
      replace HS := Lib.hid (HS.out.trans (hw.kept (by simp)))
      clear hr hw
      replace HK := Lib.hid (HK.out.trans (HS.out.mono (fun x h => by simp only [List.mem_singleton] at h; simp [h])))
      have OF := Lib.hid (HB.out _ _ HR.out rfl HK.out (TUnitError.mk_flat hc0 (by rw [TUnitError.cnt_flat]; omega)))
      have KF := Lib.hid (Hk.out.trans (HK.out.mono (fun x h => sub_mid HD.out h)))
      rw [← HD.out] at OF
      clear HB HR HK HS HD HP Hk
      go_wp2
      go_roundw
      case rel => exact ⟨n + 1, _, hlt, by go_num, rfl, by omega, Lib.hid ⟨by have := HN.out; omega, OF.out⟩, KF⟩
      case measure => simp [intOf]; omega
    · obtain rfl : n = l.length := by omega
      have HE := Lib.hid (mark_end Hs.out.1 Hs.out.2)
      go_wp2
      go_ret
      exact ⟨ret_int HE.out.1, HE.out.2, Hk.out⟩
set_option maxRecDepth 100000 in
set_option maxHeartbeats 1000000 in
theorem markBuiltPackageS_c (l : List TBuiltPackage) : ∀ (w : World) (k : Int) (v : Value) (bs : List Nat) (_ : Own w (.sl (l.map TBuiltPackage.enc)) [v] bs) (_ : bs.Nodup) (_ : 0 ≤ k) (_ : k + (cnts (l.map TBuiltPackage.enc) : Nat) ≤ 4611686018427387904),
    Calls Tryz.prog 75 #[v, .int .i64 k] w fun e w' => e = .returned (.int .i64 (k + (cnts (l.map TBuiltPackage.enc) : Nat))) ∧ Own w' (.sl (mks k (l.map TBuiltPackage.enc))) [v] bs ∧ Kept w w' bs := by
  intro w k v bs h nd h0 hlim
  obtain ⟨a, cap, rfl, hcp, hm⟩ := own_valT h
  unfold maxLen at hm
  have H := Lib.hid (mark_start (k := k) h)
  clear h
  have Hlim := Lib.hid hlim
  have Hnd := Lib.hid nd
  clear nd hlim
  go_enter Tryz.func75, Tryz.ntmps75
  go_wp2
  go_loopw [5, 1] (fun i kk wr => ∃ (n : Nat) (c : Int), n ≤ l.length ∧ i = .int .i64 n ∧ kk = .int .i64 c ∧ 0 ≤ c ∧ Hid (c = k + (cnts ((l.map TBuiltPackage.enc).take n) : Nat) ∧ Own wr (.sl (mks k ((l.map TBuiltPackage.enc).take n) ++ (l.map TBuiltPackage.enc).drop n)) [.slice a l.length cap] bs) ∧ Hid (Kept w wr bs)) (fun i _ _ => l.length - (intOf i).toNat)
  case atStart => exact ⟨0, k, Nat.zero_le _, rfl, rfl, h0, H, Lib.hid (Kept.refl _ _)⟩
  case round =>
    clear H
    obtain ⟨n, c, hn, rfl, rfl, hc0, Hs, Hk⟩ := hrel
    by_cases hlt : n < l.length
    · obtain ⟨b, off, t, rA, rd, rB, pre, cs, post, rfl, hbs, hr, hp, -, ho, hb, hd, hM, hN, hback⟩ := mark_at TBuiltPackage.width (by decide) hlt Hs.out.1 Hlim.out Hs.out.2 Hnd.out
      have HB := Lib.hid hback
      clear hback Hs Hlim Hnd
      generalize l[n] = x at *
      rw [TBuiltPackage.cnt_flat] at hM hN
      obtain ⟨c2, c3, r2, r3, rfl, rfl, o2, o3⟩ := TBuiltPackage.own_flat ho
      obtain ⟨n2, hd, y2⟩ := nd2 hd
      have d2_3 : ∀ x ∈ r2, x ∉ r3 := fun x h1 h2 => y2 x h1 (by simp [h2])
      have d3_2 : ∀ x ∈ r3, x ∉ r2 := fun x h1 h2 => y2 x h2 (by simp [h1])
      obtain ⟨n3, hd, y3⟩ := nd2 hd
      have b2 : b ∉ r2 := fun q => hb (by simp [q])
      have e2 : ∀ x ∈ r2, x ∉ [b] := fun x h1 h2 => b2 (by simp only [List.mem_singleton] at h2; exact h2 ▸ h1)
      have b3 : b ∉ r3 := fun q => hb (by simp [q])
      have e3 : ∀ x ∈ r3, x ∉ [b] := fun x h1 h2 => b3 (by simp only [List.mem_singleton] at h2; exact h2 ▸ h1)
      have O2 := Lib.hid o2
      have O3 := Lib.hid o3
      have HR := Lib.hid hr; have HP := Lib.hid hp; have HN := Lib.hid hN; have HD := Lib.hid hbs
      have HK : Hid (Kept wr wr (b :: (r2 ++ (r3 ++ ([]))))) := Lib.hid (Kept.refl _ _)
      have HS : Hid (Kept wr wr [b]) := Lib.hid (Kept.refl _ _)
      clear hr hp hN hbs ho hd hb o2 o3 y2 y3
      go_wp2_with fail
      refine (markText_c _ (by omega) _).mono ?_
      rintro e w1 ⟨rfl, hB1⟩
      replace HR := Lib.hid (HR.out.kept (Kept.of_below hB1 []) (by simp))
      replace HS := Lib.hid (HS.out.trans (Kept.of_below hB1 _))
      clear hB1
      go_wp2_with (with_reducible refine stW rfl 9 _ _ rfl b (off + n * 4) rfl (.string (mtext (c))) rfl infoM9 rfl HR.out 0 (by have := HP.out; omega) (by simp) ?_)
      intro w2 hr hw
      replace HR := Lib.hid hr
      replace HS := Lib.hid (HS.out.trans (hw.kept (by simp)))
      clear hr hw
      go_wp2_with fail
      refine (markText_c _ (by omega) _).mono ?_
      rintro e w3 ⟨rfl, hB3⟩
      replace HR := Lib.hid (HR.out.kept (Kept.of_below hB3 []) (by simp))
      replace HS := Lib.hid (HS.out.trans (Kept.of_below hB3 _))
      clear hB3
      go_wp2_with (with_reducible refine stW rfl 9 _ _ rfl b (off + n * 4 + 1) rfl (.string (mtext (c + 1))) rfl infoM9 rfl HR.out 1 (by have := HP.out; omega) (by simp) ?_)
      intro w4 hr hw
      replace HR := Lib.hid hr
      replace HS := Lib.hid (HS.out.trans (hw.kept (by simp)))
      clear hr hw
      replace HK := Lib.hid (HK.out.trans (HS.out.mono (fun x h => by simp only [List.mem_singleton] at h; simp [h])))
      replace O2 := Lib.hid (O2.out.kept HS.out e2)
      replace O3 := Lib.hid (O3.out.kept HS.out e3)
      have g := (HR.out.cells HP.out) 2 _ rfl
      go_wp2_with fail
      refine (markUnitS_c x.fUnits _ _ _ _ O2.out n2 (by omega) (by omega)).mono ?_
      rintro e w5 ⟨rfl, o2, hk⟩
      clear g
      replace O2 := Lib.hid o2
      replace O3 := Lib.hid (O3.out.kept hk d3_2)
      replace HR := Lib.hid (HR.out.kept hk b2)
      replace HK := Lib.hid (HK.out.trans (hk.mono (fun x h => by simp [h])))
      replace HS : Hid (Kept w5 w5 [b]) := Lib.hid (Kept.refl _ _)
      clear o2 hk
      replace HK := Lib.hid (HK.out.trans (HS.out.mono (fun x h => by simp only [List.mem_singleton] at h; simp [h])))
      replace O2 := Lib.hid (O2.out.kept HS.out e2)
      replace O3 := Lib.hid (O3.out.kept HS.out e3)
      have g := (HR.out.cells HP.out) 3 _ rfl
      go_wp2_with fail
      refine (markUnitErrorS_c x.fErrors _ _ _ _ O3.out n3 (by omega) (by omega)).mono ?_
      rintro e w6 ⟨rfl, o3, hk⟩
      clear g
      replace O3 := Lib.hid o3
      replace O2 := Lib.hid (O2.out.kept hk d2_3)
      replace HR := Lib.hid (HR.out.kept hk b3)
      replace HK := Lib.hid (HK.out.trans (hk.mono (fun x h => by simp [h])))
      replace HS : Hid (Kept w6 w6 [b]) := Lib.hid (Kept.refl _ _)
      clear o3 hk
      replace HK := Lib.hid (HK.out.trans (HS.out.mono (fun x h => by simp only [List.mem_singleton] at h; simp [h])))
      replace O2 := Lib.hid (O2.out.kept HS.out e2)
      replace O3 := Lib.hid (O3.out.kept HS.out e3)
      have OF := Lib.hid (HB.out _ _ HR.out rfl HK.out (TBuiltPackage.mk_flat hc0 (by rw [TBuiltPackage.cnt_flat]; omega) O2.out O3.out))
      have KF := Lib.hid (Hk.out.trans (HK.out.mono (fun x h => sub_mid HD.out h)))
      rw [← HD.out] at OF
      clear HB HR HK HS HD HP Hk O2 O3
      go_wp2
      go_roundw
      case rel => exact ⟨n + 1, _, hlt, by go_num, rfl, by omega, Lib.hid ⟨by have := HN.out; omega, OF.out⟩, KF⟩
      case measure => simp [intOf]; omega
    · obtain rfl : n = l.length := by omega
      have HE := Lib.hid (mark_end Hs.out.1 Hs.out.2)
      go_wp2
      go_ret
      exact ⟨ret_int HE.out.1, HE.out.2, Hk.out⟩
set_option maxRecDepth 100000 in
set_option maxHeartbeats 1000000 in
theorem markBuild_c (x : TBuild) : ∀ (w : World) (k : Int) (cs : List Value) (bs : List Nat) (_ : Own w x.enc cs bs) (_ : bs.Nodup) (_ : 0 ≤ k) (_ : k + (tcnt x.enc : Nat) ≤ 4611686018427387904),
    Calls Tryz.prog 30 #[.agg cs.toArray, .int .i64 k] w fun e w' => e = .returned (.int .i64 (k + (tcnt x.enc : Nat))) ∧ Own w' (tmk k x.enc) cs bs ∧ Kept w w' bs := by
  intro w k cs bs h nd h0 hlim
  rw [TBuild.tcnt_eq] at hlim ⊢
  obtain ⟨c0, r0, rfl, rfl, o0⟩ := TBuild.own_open h
  clear h
  obtain ⟨n0, nd, y0⟩ := nd2 nd
  have hW : Below w.heap.size w (w.alloc (.cells #[c0] 69)) := (Below.refl _ _).alloc (Nat.le_refl _) _
  have HK : Hid (Kept w (w.alloc (.cells #[c0] 69)) (r0 ++ ([]))) := Lib.hid (Kept.of_below hW _)
  have HC : Hid (∀ j, (w.alloc (.cells #[c0] 69)).cell? ⟨w.heap.size, j, none⟩ = #[c0][j]?) := Lib.hid (fun j => row_cell (alloc_at rfl) j)
  have l0 : Hid (w.heap.size ∉ r0) := Lib.hid (fun q => absurd (Own.lt _ _ _ o0 _ q) (Nat.lt_irrefl _))
  have O0 := Lib.hid (o0.kept (Kept.of_below hW []) (by simp))
  have HL : Hid (w.heap.size < (w.alloc (.cells #[c0] 69)).heap.size) := Lib.hid (by simp)
  clear o0 y0 nd
  go_enter Tryz.func30, Tryz.ntmps30
  go_wp2_with fail
  refine (markBuiltPackageS_c x.fPackages _ _ _ _ O0.out n0 (by omega) (by omega)).mono ?_
  rintro e w1 ⟨rfl, o0, hk⟩
  replace HC : Hid (∀ j, w1.cell? ⟨w.heap.size, j, none⟩ = #[c0][j]?) := Lib.hid (fun j => (World.cell?_of_block (a := ⟨w.heap.size, j, none⟩) (hk.other _ HL.out l0.out)).trans (HC.out j))
  replace HL : Hid (w.heap.size < w1.heap.size) := Lib.hid (Nat.lt_of_lt_of_le HL.out hk.size)
  replace HK := Lib.hid (HK.out.trans (hk.mono (fun x h => by simp [h])))
  replace O0 := Lib.hid o0
  clear o0 hk
  go_wp2
  go_ret
  exact ⟨ret_int (by omega), TBuild.tmk_own O0.out, HK.out⟩
end Go.Proofs.YtkmiecgcibjkbaaGreat
