/- The functions mark.. of the laws. Conditions: the numbers begin at 0 or above and stay at or below 2 ^ 62. -/
import Derived.Test.YtkmiecgcibjkbaaGreatMkFlat
namespace Go.Proofs.YtkmiecgcibjkbaaGreat
open Go.RowKit
theorem infoM3 : (Tryz.prog.info? 3).map (·.size) = some 1 := by kernel_rfl
theorem infoM9 : (Tryz.prog.info? 9).map (·.size) = some 1 := by kernel_rfl
theorem infoM4 : (Tryz.prog.info? 4).map (·.size) = some 1 := by kernel_rfl
set_option maxRecDepth 100000 in
set_option maxHeartbeats 1000000 in
theorem markStringS_c (l : List ByteArray) : ∀ (w : World) (k : Int) (v : Value) (bs : List Nat) (_ : Own w (.sl (l.map encS)) [v] bs) (_ : bs.Nodup) (_ : 0 ≤ k) (_ : k + (cnts (l.map encS) : Nat) ≤ 4611686018427387904),
    Calls Tryz.prog 22 #[v, .int .i64 k] w fun e w' => e = .returned (.int .i64 (k + (cnts (l.map encS) : Nat))) ∧ Own w' (.sl (mks k (l.map encS))) [v] bs ∧ Kept w w' bs := by
  intro w k v bs h nd h0 hlim
  obtain ⟨a, cap, rfl, hcp, hm⟩ := own_valT h
  unfold maxLen at hm
  have H := Lib.hid (mark_start (k := k) h)
  clear h
  have Hlim := Lib.hid hlim
  have Hnd := Lib.hid nd
  clear nd hlim
  go_enter Tryz.func22, Tryz.ntmps22
  go_wp2
  go_loopw [5, 1] (fun i kk wr => ∃ (n : Nat) (c : Int), n ≤ l.length ∧ i = .int .i64 n ∧ kk = .int .i64 c ∧ 0 ≤ c ∧ Hid (c = k + (cnts ((l.map encS).take n) : Nat) ∧ Own wr (.sl (mks k ((l.map encS).take n) ++ (l.map encS).drop n)) [.slice a l.length cap] bs) ∧ Hid (Kept w wr bs)) (fun i _ _ => l.length - (intOf i).toNat)
  case atStart => exact ⟨0, k, Nat.zero_le _, rfl, rfl, h0, H, Lib.hid (Kept.refl _ _)⟩
  case round =>
    clear H
    obtain ⟨n, c, hn, rfl, rfl, hc0, Hs, Hk⟩ := hrel
    by_cases hlt : n < l.length
    · obtain ⟨b, off, t, rA, rd, rB, pre, cs, post, rfl, hbs, hr, hp, -, ho, hb, hd, hM, hN, hback⟩ := mark_at encS_w (by decide) hlt Hs.out.1 Hlim.out Hs.out.2 Hnd.out
      have HB := Lib.hid hback
      clear hback Hs Hlim Hnd
      generalize l[n] = x at *
      rw [cntS_flat] at hM hN
      obtain ⟨rfl, rfl⟩ := ownS_flat ho
      have HR := Lib.hid hr; have HP := Lib.hid hp; have HN := Lib.hid hN; have HD := Lib.hid hbs
      have HK : Hid (Kept wr wr (b :: ([]))) := Lib.hid (Kept.refl _ _)
      have HS : Hid (Kept wr wr [b]) := Lib.hid (Kept.refl _ _)
      clear hr hp hN hbs ho hd hb
      go_wp2_with fail
      refine (markText_c _ (by omega) _).mono ?_
      rintro e w1 ⟨rfl, hB1⟩
      replace HR := Lib.hid (HR.out.kept (Kept.of_below hB1 []) (by simp))
      replace HS := Lib.hid (HS.out.trans (Kept.of_below hB1 _))
      clear hB1
      go_wp2_with (with_reducible refine stW rfl 9 _ _ rfl b (off + n) rfl (.string (mtext (c))) rfl infoM9 rfl HR.out 0 (by have := HP.out; omega) (by simp) ?_)
      intro w2 hr hw
      replace HR := Lib.hid hr
      replace HS := Lib.hid (HS.out.trans (hw.kept (by simp)))
      clear hr hw
      replace HK := Lib.hid (HK.out.trans (HS.out.mono (fun x h => by simp only [List.mem_singleton] at h; simp [h])))
      have OF := Lib.hid (HB.out _ _ HR.out rfl HK.out (mkS_flat (by omega)))
      have KF := Lib.hid (Hk.out.trans (HK.out.mono (fun x h => sub_mid HD.out h)))
      rw [← HD.out] at OF
      clear HB HR HK HS HD HP Hk
      go_wp2
      go_roundw
      case rel => exact ⟨n + 1, _, hlt, by go_num, rfl, by omega, Lib.hid ⟨by have := HN.out; omega, OF.out⟩, KF⟩
      case measure => simp [intOf]; omega
    · obtain rfl : n = l.length := by omega
      have HE := Lib.hid (mark_end Hs.out.1 Hs.out.2)
      go_wp2
      go_ret
      exact ⟨ret_int HE.out.1, HE.out.2, Hk.out⟩
def MarkTypeS (N : Nat) : Prop := ∀ (l : List TType), SizeOf.sizeOf l < N → ∀ (w : World) (k : Int) (v : Value) (bs : List Nat) (_ : Own w (.sl (l.map TType.enc)) [v] bs) (_ : bs.Nodup) (_ : 0 ≤ k) (_ : k + (cnts (l.map TType.enc) : Nat) ≤ 4611686018427387904),
    Calls Tryz.prog 78 #[v, .int .i64 k] w fun e w' => e = .returned (.int .i64 (k + (cnts (l.map TType.enc) : Nat))) ∧ Own w' (.sl (mks k (l.map TType.enc))) [v] bs ∧ Kept w w' bs
set_option maxRecDepth 100000 in
set_option maxHeartbeats 1000000 in
theorem stepMarkTypeS (N : Nat) (iMarkTypeS : MarkTypeS N) : MarkTypeS (N + 1) := by
  intro l hN w k v bs h nd h0 hlim
  obtain ⟨a, cap, rfl, hcp, hm⟩ := own_valT h
  unfold maxLen at hm
  have H := Lib.hid (mark_start (k := k) h)
  clear h
  have Hlim := Lib.hid hlim
  have Hnd := Lib.hid nd
  clear nd hlim
  go_enter Tryz.func78, Tryz.ntmps78
  go_wp2
  go_loopw [5, 1] (fun i kk wr => ∃ (n : Nat) (c : Int), n ≤ l.length ∧ i = .int .i64 n ∧ kk = .int .i64 c ∧ 0 ≤ c ∧ Hid (c = k + (cnts ((l.map TType.enc).take n) : Nat) ∧ Own wr (.sl (mks k ((l.map TType.enc).take n) ++ (l.map TType.enc).drop n)) [.slice a l.length cap] bs) ∧ Hid (Kept w wr bs)) (fun i _ _ => l.length - (intOf i).toNat)
  case atStart => exact ⟨0, k, Nat.zero_le _, rfl, rfl, h0, H, Lib.hid (Kept.refl _ _)⟩
  case round =>
    clear H
    obtain ⟨n, c, hn, rfl, rfl, hc0, Hs, Hk⟩ := hrel
    by_cases hlt : n < l.length
    · obtain ⟨b, off, t, rA, rd, rB, pre, cs, post, rfl, hbs, hr, hp, -, ho, hb, hd, hM, hN, hback⟩ := mark_at TType.width (by decide) hlt Hs.out.1 Hlim.out Hs.out.2 Hnd.out
      have HB := Lib.hid hback
      have hz : SizeOf.sizeOf l[n] < SizeOf.sizeOf l := List.sizeOf_lt_of_mem (List.getElem_mem hlt)
      clear hback Hs Hlim Hnd
      generalize l[n] = x at *
      rw [TType.cnt_flat] at hM hN
      obtain ⟨c2, r2, rfl, rfl, o2⟩ := TType.own_flat ho
      obtain ⟨n2, hd, y2⟩ := nd2 hd
      have b2 : b ∉ r2 := fun q => hb (by simp [q])
      have e2 : ∀ x ∈ r2, x ∉ [b] := fun x h1 h2 => b2 (by simp only [List.mem_singleton] at h2; exact h2 ▸ h1)
      have O2 := Lib.hid o2
      have HR := Lib.hid hr; have HP := Lib.hid hp; have HN := Lib.hid hN; have HD := Lib.hid hbs
      have HK : Hid (Kept wr wr (b :: (r2 ++ ([])))) := Lib.hid (Kept.refl _ _)
      have HS : Hid (Kept wr wr [b]) := Lib.hid (Kept.refl _ _)
      clear hr hp hN hbs ho hd hb o2 y2
      go_wp2_with (with_reducible refine stW rfl 3 _ _ rfl b (off + n * 3) rfl (.int .i64 (c)) rfl infoM3 rfl HR.out 0 (by have := HP.out; omega) (by simp) ?_)
      intro w1 hr hw
      replace HR := Lib.hid hr
      replace HS := Lib.hid (HS.out.trans (hw.kept (by simp)))
      clear hr hw
      go_wp2_with fail
      refine (markText_c _ (by omega) _).mono ?_
      rintro e w2 ⟨rfl, hB2⟩
      replace HR := Lib.hid (HR.out.kept (Kept.of_below hB2 []) (by simp))
      replace HS := Lib.hid (HS.out.trans (Kept.of_below hB2 _))
      clear hB2
      go_wp2_with (with_reducible refine stW rfl 9 _ _ rfl b (off + n * 3 + 1) rfl (.string (mtext (c + 1))) rfl infoM9 rfl HR.out 1 (by have := HP.out; omega) (by simp) ?_)
      intro w3 hr hw
      replace HR := Lib.hid hr
      replace HS := Lib.hid (HS.out.trans (hw.kept (by simp)))
      clear hr hw
      replace HK := Lib.hid (HK.out.trans (HS.out.mono (fun x h => by simp only [List.mem_singleton] at h; simp [h])))
      replace O2 := Lib.hid (O2.out.kept HS.out e2)
      have g := (HR.out.cells HP.out) 2 _ rfl
      go_wp2_with fail
      refine (iMarkTypeS x.fArgs (by have := TType.lt_fArgs x; omega) _ _ _ _ O2.out n2 (by omega) (by omega)).mono ?_
      rintro e w4 ⟨rfl, o2, hk⟩
      clear g
      replace O2 := Lib.hid o2
      replace HR := Lib.hid (HR.out.kept hk b2)
      replace HK := Lib.hid (HK.out.trans (hk.mono (fun x h => by simp [h])))
      replace HS : Hid (Kept w4 w4 [b]) := Lib.hid (Kept.refl _ _)
      clear o2 hk
      replace HK := Lib.hid (HK.out.trans (HS.out.mono (fun x h => by simp only [List.mem_singleton] at h; simp [h])))
      replace O2 := Lib.hid (O2.out.kept HS.out e2)
      have OF := Lib.hid (HB.out _ _ HR.out rfl HK.out (TType.mk_flat hc0 (by rw [TType.cnt_flat]; omega) O2.out))
      have KF := Lib.hid (Hk.out.trans (HK.out.mono (fun x h => sub_mid HD.out h)))
      rw [← HD.out] at OF
      clear HB HR HK HS HD HP Hk O2
      go_wp2
      go_roundw
      case rel => exact ⟨n + 1, _, hlt, by go_num, rfl, by omega, Lib.hid ⟨by have := HN.out; omega, OF.out⟩, KF⟩
      case measure => simp [intOf]; omega
    · obtain rfl : n = l.length := by omega
      have HE := Lib.hid (mark_end Hs.out.1 Hs.out.2)
      go_wp2
      go_ret
      exact ⟨ret_int HE.out.1, HE.out.2, Hk.out⟩
theorem MarkTypeS_all : ∀ N : Nat, MarkTypeS N
  | 0 => fun _ h => absurd h (Nat.not_lt_zero _)
  | N + 1 => by
    have i0 := MarkTypeS_all N
    exact stepMarkTypeS N i0
theorem markTypeS_c (l : List TType) : ∀ (w : World) (k : Int) (v : Value) (bs : List Nat) (_ : Own w (.sl (l.map TType.enc)) [v] bs) (_ : bs.Nodup) (_ : 0 ≤ k) (_ : k + (cnts (l.map TType.enc) : Nat) ≤ 4611686018427387904),
    Calls Tryz.prog 78 #[v, .int .i64 k] w fun e w' => e = .returned (.int .i64 (k + (cnts (l.map TType.enc) : Nat))) ∧ Own w' (.sl (mks k (l.map TType.enc))) [v] bs ∧ Kept w w' bs := (MarkTypeS_all (SizeOf.sizeOf l + 1)) l (Nat.lt_succ_self _)
set_option maxRecDepth 100000 in
set_option maxHeartbeats 1000000 in
theorem markBindingS_c (l : List TBinding) : ∀ (w : World) (k : Int) (v : Value) (bs : List Nat) (_ : Own w (.sl (l.map TBinding.enc)) [v] bs) (_ : bs.Nodup) (_ : 0 ≤ k) (_ : k + (cnts (l.map TBinding.enc) : Nat) ≤ 4611686018427387904),
    Calls Tryz.prog 65 #[v, .int .i64 k] w fun e w' => e = .returned (.int .i64 (k + (cnts (l.map TBinding.enc) : Nat))) ∧ Own w' (.sl (mks k (l.map TBinding.enc))) [v] bs ∧ Kept w w' bs := by
  intro w k v bs h nd h0 hlim
  obtain ⟨a, cap, rfl, hcp, hm⟩ := own_valT h
  unfold maxLen at hm
  have H := Lib.hid (mark_start (k := k) h)
  clear h
  have Hlim := Lib.hid hlim
  have Hnd := Lib.hid nd
  clear nd hlim
  go_enter Tryz.func65, Tryz.ntmps65
  go_wp2
  go_loopw [5, 1] (fun i kk wr => ∃ (n : Nat) (c : Int), n ≤ l.length ∧ i = .int .i64 n ∧ kk = .int .i64 c ∧ 0 ≤ c ∧ Hid (c = k + (cnts ((l.map TBinding.enc).take n) : Nat) ∧ Own wr (.sl (mks k ((l.map TBinding.enc).take n) ++ (l.map TBinding.enc).drop n)) [.slice a l.length cap] bs) ∧ Hid (Kept w wr bs)) (fun i _ _ => l.length - (intOf i).toNat)
  case atStart => exact ⟨0, k, Nat.zero_le _, rfl, rfl, h0, H, Lib.hid (Kept.refl _ _)⟩
  case round =>
    clear H
    obtain ⟨n, c, hn, rfl, rfl, hc0, Hs, Hk⟩ := hrel
    by_cases hlt : n < l.length
    · obtain ⟨b, off, t, rA, rd, rB, pre, cs, post, rfl, hbs, hr, hp, -, ho, hb, hd, hM, hN, hback⟩ := mark_at TBinding.width (by decide) hlt Hs.out.1 Hlim.out Hs.out.2 Hnd.out
      have HB := Lib.hid hback
      clear hback Hs Hlim Hnd
      generalize l[n] = x at *
      rw [TBinding.cnt_flat] at hM hN
      obtain ⟨c3, r3, rfl, rfl, o3⟩ := TBinding.own_flat ho
      obtain ⟨n3, hd, y3⟩ := nd2 hd
      have b3 : b ∉ r3 := fun q => hb (by simp [q])
      have e3 : ∀ x ∈ r3, x ∉ [b] := fun x h1 h2 => b3 (by simp only [List.mem_singleton] at h2; exact h2 ▸ h1)
      have O3 := Lib.hid o3
      have HR := Lib.hid hr; have HP := Lib.hid hp; have HN := Lib.hid hN; have HD := Lib.hid hbs
      have HK : Hid (Kept wr wr (b :: (r3 ++ ([])))) := Lib.hid (Kept.refl _ _)
      have HS : Hid (Kept wr wr [b]) := Lib.hid (Kept.refl _ _)
      clear hr hp hN hbs ho hd hb o3 y3
      go_wp2_with fail
      refine (markText_c _ (by omega) _).mono ?_
      rintro e w1 ⟨rfl, hB1⟩
      replace HR := Lib.hid (HR.out.kept (Kept.of_below hB1 []) (by simp))
      replace HS := Lib.hid (HS.out.trans (Kept.of_below hB1 _))
      clear hB1
      go_wp2_with (with_reducible refine stW rfl 9 _ _ rfl b (off + n * 4) rfl (.string (mtext (c))) rfl infoM9 rfl HR.out 0 (by have := HP.out; omega) (by simp) ?_)
      intro w2 hr hw
      replace HR := Lib.hid hr
      replace HS := Lib.hid (HS.out.trans (hw.kept (by simp)))
      clear hr hw
      go_wp2_with (with_reducible refine stW rfl 3 _ _ rfl b (off + n * 4 + 1) rfl (.int .i64 (c + 1)) rfl infoM3 rfl HR.out 1 (by have := HP.out; omega) (by simp) ?_)
      intro w3 hr hw
      replace HR := Lib.hid hr
      replace HS := Lib.hid (HS.out.trans (hw.kept (by simp)))
      clear hr hw
      go_wp2_with fail
      refine (markText_c _ (by omega) _).mono ?_
      rintro e w4 ⟨rfl, hB4⟩
      replace HR := Lib.hid (HR.out.kept (Kept.of_below hB4 []) (by simp))
      replace HS := Lib.hid (HS.out.trans (Kept.of_below hB4 _))
      clear hB4
      go_wp2_with (with_reducible refine stW rfl 9 _ _ rfl b (off + n * 4 + 2) rfl (.string (mtext (c + 1 + 1))) rfl infoM9 rfl HR.out 2 (by have := HP.out; omega) (by simp) ?_)
      intro w5 hr hw
      replace HR := Lib.hid hr
      replace HS := Lib.hid (HS.out.trans (hw.kept (by simp)))
      clear hr hw
      replace HK := Lib.hid (HK.out.trans (HS.out.mono (fun x h => by simp only [List.mem_singleton] at h; simp [h])))
      replace O3 := Lib.hid (O3.out.kept HS.out e3)
      have g := (HR.out.cells HP.out) 3 _ rfl
      go_wp2_with fail
      refine (markTypeS_c x.fType.fArgs _ _ _ _ O3.out n3 (by omega) (by omega)).mono ?_
      rintro e w6 ⟨rfl, o3, hk⟩
      clear g
      replace O3 := Lib.hid o3
      replace HR := Lib.hid (HR.out.kept hk b3)
      replace HK := Lib.hid (HK.out.trans (hk.mono (fun x h => by simp [h])))
      replace HS : Hid (Kept w6 w6 [b]) := Lib.hid (Kept.refl _ _)
      clear o3 hk
      replace HK := Lib.hid (HK.out.trans (HS.out.mono (fun x h => by simp only [List.mem_singleton] at h; simp [h])))
      replace O3 := Lib.hid (O3.out.kept HS.out e3)
      have OF := Lib.hid (HB.out _ _ HR.out rfl HK.out (TBinding.mk_flat hc0 (by rw [TBinding.cnt_flat]; omega) O3.out))
      have KF := Lib.hid (Hk.out.trans (HK.out.mono (fun x h => sub_mid HD.out h)))
      rw [← HD.out] at OF
      clear HB HR HK HS HD HP Hk O3
      go_wp2
      go_roundw
      case rel => exact ⟨n + 1, _, hlt, by go_num, rfl, by omega, Lib.hid ⟨by have := HN.out; omega, OF.out⟩, KF⟩
      case measure => simp [intOf]; omega
    · obtain rfl : n = l.length := by omega
      have HE := Lib.hid (mark_end Hs.out.1 Hs.out.2)
      go_wp2
      go_ret
      exact ⟨ret_int HE.out.1, HE.out.2, Hk.out⟩
set_option maxRecDepth 100000 in
set_option maxHeartbeats 1000000 in
theorem markBoundS_c (l : List TBound) : ∀ (w : World) (k : Int) (v : Value) (bs : List Nat) (_ : Own w (.sl (l.map TBound.enc)) [v] bs) (_ : bs.Nodup) (_ : 0 ≤ k) (_ : k + (cnts (l.map TBound.enc) : Nat) ≤ 4611686018427387904),
    Calls Tryz.prog 76 #[v, .int .i64 k] w fun e w' => e = .returned (.int .i64 (k + (cnts (l.map TBound.enc) : Nat))) ∧ Own w' (.sl (mks k (l.map TBound.enc))) [v] bs ∧ Kept w w' bs := by
  intro w k v bs h nd h0 hlim
  obtain ⟨a, cap, rfl, hcp, hm⟩ := own_valT h
  unfold maxLen at hm
  have H := Lib.hid (mark_start (k := k) h)
  clear h
  have Hlim := Lib.hid hlim
  have Hnd := Lib.hid nd
  clear nd hlim
  go_enter Tryz.func76, Tryz.ntmps76
  go_wp2
  go_loopw [5, 1] (fun i kk wr => ∃ (n : Nat) (c : Int), n ≤ l.length ∧ i = .int .i64 n ∧ kk = .int .i64 c ∧ 0 ≤ c ∧ Hid (c = k + (cnts ((l.map TBound.enc).take n) : Nat) ∧ Own wr (.sl (mks k ((l.map TBound.enc).take n) ++ (l.map TBound.enc).drop n)) [.slice a l.length cap] bs) ∧ Hid (Kept w wr bs)) (fun i _ _ => l.length - (intOf i).toNat)
  case atStart => exact ⟨0, k, Nat.zero_le _, rfl, rfl, h0, H, Lib.hid (Kept.refl _ _)⟩
  case round =>
    clear H
    obtain ⟨n, c, hn, rfl, rfl, hc0, Hs, Hk⟩ := hrel
    by_cases hlt : n < l.length
    · obtain ⟨b, off, t, rA, rd, rB, pre, cs, post, rfl, hbs, hr, hp, -, ho, hb, hd, hM, hN, hback⟩ := mark_at TBound.width (by decide) hlt Hs.out.1 Hlim.out Hs.out.2 Hnd.out
      have HB := Lib.hid hback
      clear hback Hs Hlim Hnd
      generalize l[n] = x at *
      rw [TBound.cnt_flat] at hM hN
      obtain ⟨c3, r3, rfl, rfl, o3⟩ := TBound.own_flat ho
      obtain ⟨n3, hd, y3⟩ := nd2 hd
      have b3 : b ∉ r3 := fun q => hb (by simp [q])
      have e3 : ∀ x ∈ r3, x ∉ [b] := fun x h1 h2 => b3 (by simp only [List.mem_singleton] at h2; exact h2 ▸ h1)
      have O3 := Lib.hid o3
      have HR := Lib.hid hr; have HP := Lib.hid hp; have HN := Lib.hid hN; have HD := Lib.hid hbs
      have HK : Hid (Kept wr wr (b :: (r3 ++ ([])))) := Lib.hid (Kept.refl _ _)
      have HS : Hid (Kept wr wr [b]) := Lib.hid (Kept.refl _ _)
      clear hr hp hN hbs ho hd hb o3 y3
      go_wp2_with fail
      refine (markText_c _ (by omega) _).mono ?_
      rintro e w1 ⟨rfl, hB1⟩
      replace HR := Lib.hid (HR.out.kept (Kept.of_below hB1 []) (by simp))
      replace HS := Lib.hid (HS.out.trans (Kept.of_below hB1 _))
      clear hB1
      go_wp2_with (with_reducible refine stW rfl 9 _ _ rfl b (off + n * 4) rfl (.string (mtext (c))) rfl infoM9 rfl HR.out 0 (by have := HP.out; omega) (by simp) ?_)
      intro w2 hr hw
      replace HR := Lib.hid hr
      replace HS := Lib.hid (HS.out.trans (hw.kept (by simp)))
      clear hr hw
      go_wp2_with (with_reducible refine stW rfl 3 _ _ rfl b (off + n * 4 + 1) rfl (.int .i64 (c + 1)) rfl infoM3 rfl HR.out 1 (by have := HP.out; omega) (by simp) ?_)
      intro w3 hr hw
      replace HR := Lib.hid hr
      replace HS := Lib.hid (HS.out.trans (hw.kept (by simp)))
      clear hr hw
      go_wp2_with fail
      refine (markText_c _ (by omega) _).mono ?_
      rintro e w4 ⟨rfl, hB4⟩
      replace HR := Lib.hid (HR.out.kept (Kept.of_below hB4 []) (by simp))
      replace HS := Lib.hid (HS.out.trans (Kept.of_below hB4 _))
      clear hB4
      go_wp2_with (with_reducible refine stW rfl 9 _ _ rfl b (off + n * 4 + 2) rfl (.string (mtext (c + 1 + 1))) rfl infoM9 rfl HR.out 2 (by have := HP.out; omega) (by simp) ?_)
      intro w5 hr hw
      replace HR := Lib.hid hr
      replace HS := Lib.hid (HS.out.trans (hw.kept (by simp)))
      clear hr hw
      replace HK := Lib.hid (HK.out.trans (HS.out.mono (fun x h => by simp only [List.mem_singleton] at h; simp [h])))
      replace O3 := Lib.hid (O3.out.kept HS.out e3)
      have g := (HR.out.cells HP.out) 3 _ rfl
      go_wp2_with fail
      refine (markTypeS_c x.fType.fArgs _ _ _ _ O3.out n3 (by omega) (by omega)).mono ?_
      rintro e w6 ⟨rfl, o3, hk⟩
      clear g
      replace O3 := Lib.hid o3
      replace HR := Lib.hid (HR.out.kept hk b3)
      replace HK := Lib.hid (HK.out.trans (hk.mono (fun x h => by simp [h])))
      replace HS : Hid (Kept w6 w6 [b]) := Lib.hid (Kept.refl _ _)
      clear o3 hk
      replace HK := Lib.hid (HK.out.trans (HS.out.mono (fun x h => by simp only [List.mem_singleton] at h; simp [h])))
      replace O3 := Lib.hid (O3.out.kept HS.out e3)
      have OF := Lib.hid (HB.out _ _ HR.out rfl HK.out (TBound.mk_flat hc0 (by rw [TBound.cnt_flat]; omega) O3.out))
      have KF := Lib.hid (Hk.out.trans (HK.out.mono (fun x h => sub_mid HD.out h)))
      rw [← HD.out] at OF
      clear HB HR HK HS HD HP Hk O3
      go_wp2
      go_roundw
      case rel => exact ⟨n + 1, _, hlt, by go_num, rfl, by omega, Lib.hid ⟨by have := HN.out; omega, OF.out⟩, KF⟩
      case measure => simp [intOf]; omega
    · obtain rfl : n = l.length := by omega
      have HE := Lib.hid (mark_end Hs.out.1 Hs.out.2)
      go_wp2
      go_ret
      exact ⟨ret_int HE.out.1, HE.out.2, Hk.out⟩
set_option maxRecDepth 100000 in
set_option maxHeartbeats 1000000 in
theorem markEquationS_c (l : List TEquation) : ∀ (w : World) (k : Int) (v : Value) (bs : List Nat) (_ : Own w (.sl (l.map TEquation.enc)) [v] bs) (_ : bs.Nodup) (_ : 0 ≤ k) (_ : k + (cnts (l.map TEquation.enc) : Nat) ≤ 4611686018427387904),
    Calls Tryz.prog 66 #[v, .int .i64 k] w fun e w' => e = .returned (.int .i64 (k + (cnts (l.map TEquation.enc) : Nat))) ∧ Own w' (.sl (mks k (l.map TEquation.enc))) [v] bs ∧ Kept w w' bs := by
  intro w k v bs h nd h0 hlim
  obtain ⟨a, cap, rfl, hcp, hm⟩ := own_valT h
  unfold maxLen at hm
  have H := Lib.hid (mark_start (k := k) h)
  clear h
  have Hlim := Lib.hid hlim
  have Hnd := Lib.hid nd
  clear nd hlim
  go_enter Tryz.func66, Tryz.ntmps66
  go_wp2
  go_loopw [5, 1] (fun i kk wr => ∃ (n : Nat) (c : Int), n ≤ l.length ∧ i = .int .i64 n ∧ kk = .int .i64 c ∧ 0 ≤ c ∧ Hid (c = k + (cnts ((l.map TEquation.enc).take n) : Nat) ∧ Own wr (.sl (mks k ((l.map TEquation.enc).take n) ++ (l.map TEquation.enc).drop n)) [.slice a l.length cap] bs) ∧ Hid (Kept w wr bs)) (fun i _ _ => l.length - (intOf i).toNat)
  case atStart => exact ⟨0, k, Nat.zero_le _, rfl, rfl, h0, H, Lib.hid (Kept.refl _ _)⟩
  case round =>
    clear H
    obtain ⟨n, c, hn, rfl, rfl, hc0, Hs, Hk⟩ := hrel
    by_cases hlt : n < l.length
    · obtain ⟨b, off, t, rA, rd, rB, pre, cs, post, rfl, hbs, hr, hp, -, ho, hb, hd, hM, hN, hback⟩ := mark_at TEquation.width (by decide) hlt Hs.out.1 Hlim.out Hs.out.2 Hnd.out
      have HB := Lib.hid hback
      clear hback Hs Hlim Hnd
      generalize l[n] = x at *
      rw [TEquation.cnt_flat] at hM hN
      obtain ⟨c2, c5, r2, r5, rfl, rfl, o2, o5⟩ := TEquation.own_flat ho
      obtain ⟨n2, hd, y2⟩ := nd2 hd
      have d2_5 : ∀ x ∈ r2, x ∉ r5 := fun x h1 h2 => y2 x h1 (by simp [h2])
      have d5_2 : ∀ x ∈ r5, x ∉ r2 := fun x h1 h2 => y2 x h2 (by simp [h1])
      obtain ⟨n5, hd, y5⟩ := nd2 hd
      have b2 : b ∉ r2 := fun q => hb (by simp [q])
      have e2 : ∀ x ∈ r2, x ∉ [b] := fun x h1 h2 => b2 (by simp only [List.mem_singleton] at h2; exact h2 ▸ h1)
      have b5 : b ∉ r5 := fun q => hb (by simp [q])
      have e5 : ∀ x ∈ r5, x ∉ [b] := fun x h1 h2 => b5 (by simp only [List.mem_singleton] at h2; exact h2 ▸ h1)
      have O2 := Lib.hid o2
      have O5 := Lib.hid o5
      have HR := Lib.hid hr; have HP := Lib.hid hp; have HN := Lib.hid hN; have HD := Lib.hid hbs
      have HK : Hid (Kept wr wr (b :: (r2 ++ (r5 ++ ([]))))) := Lib.hid (Kept.refl _ _)
      have HS : Hid (Kept wr wr [b]) := Lib.hid (Kept.refl _ _)
      clear hr hp hN hbs ho hd hb o2 o5 y2 y5
      go_wp2_with (with_reducible refine stW rfl 3 _ _ rfl b (off + n * 7) rfl (.int .i64 (c)) rfl infoM3 rfl HR.out 0 (by have := HP.out; omega) (by simp) ?_)
      intro w1 hr hw
      replace HR := Lib.hid hr
      replace HS := Lib.hid (HS.out.trans (hw.kept (by simp)))
      clear hr hw
      go_wp2_with fail
      refine (markText_c _ (by omega) _).mono ?_
      rintro e w2 ⟨rfl, hB2⟩
      replace HR := Lib.hid (HR.out.kept (Kept.of_below hB2 []) (by simp))
      replace HS := Lib.hid (HS.out.trans (Kept.of_below hB2 _))
      clear hB2
      go_wp2_with (with_reducible refine stW rfl 9 _ _ rfl b (off + n * 7 + 1) rfl (.string (mtext (c + 1))) rfl infoM9 rfl HR.out 1 (by have := HP.out; omega) (by simp) ?_)
      intro w3 hr hw
      replace HR := Lib.hid hr
      replace HS := Lib.hid (HS.out.trans (hw.kept (by simp)))
      clear hr hw
      replace HK := Lib.hid (HK.out.trans (HS.out.mono (fun x h => by simp only [List.mem_singleton] at h; simp [h])))
      replace O2 := Lib.hid (O2.out.kept HS.out e2)
      replace O5 := Lib.hid (O5.out.kept HS.out e5)
      have g := (HR.out.cells HP.out) 2 _ rfl
      go_wp2_with fail
      refine (markTypeS_c x.fA.fArgs _ _ _ _ O2.out n2 (by omega) (by omega)).mono ?_
      rintro e w4 ⟨rfl, o2, hk⟩
      clear g
      replace O2 := Lib.hid o2
      replace O5 := Lib.hid (O5.out.kept hk d5_2)
      replace HR := Lib.hid (HR.out.kept hk b2)
      replace HK := Lib.hid (HK.out.trans (hk.mono (fun x h => by simp [h])))
      replace HS : Hid (Kept w4 w4 [b]) := Lib.hid (Kept.refl _ _)
      clear o2 hk
      go_wp2_with (with_reducible refine stW rfl 3 _ _ rfl b (off + n * 7 + 3) rfl (.int .i64 (c + 1 + 1 + (cnts (x.fA.fArgs.map TType.enc) : Nat))) rfl infoM3 rfl HR.out 3 (by have := HP.out; omega) (by simp) ?_)
      intro w5 hr hw
      replace HR := Lib.hid hr
      replace HS := Lib.hid (HS.out.trans (hw.kept (by simp)))
      clear hr hw
      go_wp2_with fail
      refine (markText_c _ (by omega) _).mono ?_
      rintro e w6 ⟨rfl, hB6⟩
      replace HR := Lib.hid (HR.out.kept (Kept.of_below hB6 []) (by simp))
      replace HS := Lib.hid (HS.out.trans (Kept.of_below hB6 _))
      clear hB6
      go_wp2_with (with_reducible refine stW rfl 9 _ _ rfl b (off + n * 7 + 4) rfl (.string (mtext (c + 1 + 1 + (cnts (x.fA.fArgs.map TType.enc) : Nat) + 1))) rfl infoM9 rfl HR.out 4 (by have := HP.out; omega) (by simp) ?_)
      intro w7 hr hw
      replace HR := Lib.hid hr
      replace HS := Lib.hid (HS.out.trans (hw.kept (by simp)))
      clear hr hw
      replace HK := Lib.hid (HK.out.trans (HS.out.mono (fun x h => by simp only [List.mem_singleton] at h; simp [h])))
      replace O2 := Lib.hid (O2.out.kept HS.out e2)
      replace O5 := Lib.hid (O5.out.kept HS.out e5)
      have g := (HR.out.cells HP.out) 5 _ rfl
      go_wp2_with fail
      refine (markTypeS_c x.fB.fArgs _ _ _ _ O5.out n5 (by omega) (by omega)).mono ?_
      rintro e w8 ⟨rfl, o5, hk⟩
      clear g
      replace O5 := Lib.hid o5
      replace O2 := Lib.hid (O2.out.kept hk d2_5)
      replace HR := Lib.hid (HR.out.kept hk b5)
      replace HK := Lib.hid (HK.out.trans (hk.mono (fun x h => by simp [h])))
      replace HS : Hid (Kept w8 w8 [b]) := Lib.hid (Kept.refl _ _)
      clear o5 hk
      go_wp2_with (with_reducible refine stW rfl 3 _ _ rfl b (off + n * 7 + 6) rfl (.int .i64 (c + 1 + 1 + (cnts (x.fA.fArgs.map TType.enc) : Nat) + 1 + 1 + (cnts (x.fB.fArgs.map TType.enc) : Nat))) rfl infoM3 rfl HR.out 6 (by have := HP.out; omega) (by simp) ?_)
      intro w9 hr hw
      replace HR := Lib.hid hr
      replace HS := Lib.hid (HS.out.trans (hw.kept (by simp)))
      clear hr hw
      replace HK := Lib.hid (HK.out.trans (HS.out.mono (fun x h => by simp only [List.mem_singleton] at h; simp [h])))
      replace O2 := Lib.hid (O2.out.kept HS.out e2)
      replace O5 := Lib.hid (O5.out.kept HS.out e5)
      have OF := Lib.hid (HB.out _ _ HR.out rfl HK.out (TEquation.mk_flat hc0 (by rw [TEquation.cnt_flat]; omega) O2.out O5.out))
      have KF := Lib.hid (Hk.out.trans (HK.out.mono (fun x h => sub_mid HD.out h)))
      rw [← HD.out] at OF
      clear HB HR HK HS HD HP Hk O2 O5
      go_wp2
      go_roundw
      case rel => exact ⟨n + 1, _, hlt, by go_num, rfl, by omega, Lib.hid ⟨by have := HN.out; omega, OF.out⟩, KF⟩
      case measure => simp [intOf]; omega
    · obtain rfl : n = l.length := by omega
      have HE := Lib.hid (mark_end Hs.out.1 Hs.out.2)
      go_wp2
      go_ret
      exact ⟨ret_int HE.out.1, HE.out.2, Hk.out⟩
set_option maxRecDepth 100000 in
set_option maxHeartbeats 1000000 in
theorem markObligationS_c (l : List TObligation) : ∀ (w : World) (k : Int) (v : Value) (bs : List Nat) (_ : Own w (.sl (l.map TObligation.enc)) [v] bs) (_ : bs.Nodup) (_ : 0 ≤ k) (_ : k + (cnts (l.map TObligation.enc) : Nat) ≤ 4611686018427387904),
    Calls Tryz.prog 67 #[v, .int .i64 k] w fun e w' => e = .returned (.int .i64 (k + (cnts (l.map TObligation.enc) : Nat))) ∧ Own w' (.sl (mks k (l.map TObligation.enc))) [v] bs ∧ Kept w w' bs := by
  intro w k v bs h nd h0 hlim
  obtain ⟨a, cap, rfl, hcp, hm⟩ := own_valT h
  unfold maxLen at hm
  have H := Lib.hid (mark_start (k := k) h)
  clear h
  have Hlim := Lib.hid hlim
  have Hnd := Lib.hid nd
  clear nd hlim
  go_enter Tryz.func67, Tryz.ntmps67
  go_wp2
  go_loopw [5, 1] (fun i kk wr => ∃ (n : Nat) (c : Int), n ≤ l.length ∧ i = .int .i64 n ∧ kk = .int .i64 c ∧ 0 ≤ c ∧ Hid (c = k + (cnts ((l.map TObligation.enc).take n) : Nat) ∧ Own wr (.sl (mks k ((l.map TObligation.enc).take n) ++ (l.map TObligation.enc).drop n)) [.slice a l.length cap] bs) ∧ Hid (Kept w wr bs)) (fun i _ _ => l.length - (intOf i).toNat)
  case atStart => exact ⟨0, k, Nat.zero_le _, rfl, rfl, h0, H, Lib.hid (Kept.refl _ _)⟩
  case round =>
    clear H
    obtain ⟨n, c, hn, rfl, rfl, hc0, Hs, Hk⟩ := hrel
    by_cases hlt : n < l.length
    · obtain ⟨b, off, t, rA, rd, rB, pre, cs, post, rfl, hbs, hr, hp, -, ho, hb, hd, hM, hN, hback⟩ := mark_at TObligation.width (by decide) hlt Hs.out.1 Hlim.out Hs.out.2 Hnd.out
      have HB := Lib.hid hback
      clear hback Hs Hlim Hnd
      generalize l[n] = x at *
      rw [TObligation.cnt_flat] at hM hN
      obtain ⟨c3, r3, rfl, rfl, o3⟩ := TObligation.own_flat ho
      obtain ⟨n3, hd, y3⟩ := nd2 hd
      have b3 : b ∉ r3 := fun q => hb (by simp [q])
      have e3 : ∀ x ∈ r3, x ∉ [b] := fun x h1 h2 => b3 (by simp only [List.mem_singleton] at h2; exact h2 ▸ h1)
      have O3 := Lib.hid o3
      have HR := Lib.hid hr; have HP := Lib.hid hp; have HN := Lib.hid hN; have HD := Lib.hid hbs
      have HK : Hid (Kept wr wr (b :: (r3 ++ ([])))) := Lib.hid (Kept.refl _ _)
      have HS : Hid (Kept wr wr [b]) := Lib.hid (Kept.refl _ _)
      clear hr hp hN hbs ho hd hb o3 y3
      go_wp2_with fail
      refine (markText_c _ (by omega) _).mono ?_
      rintro e w1 ⟨rfl, hB1⟩
      replace HR := Lib.hid (HR.out.kept (Kept.of_below hB1 []) (by simp))
      replace HS := Lib.hid (HS.out.trans (Kept.of_below hB1 _))
      clear hB1
      go_wp2_with (with_reducible refine stW rfl 9 _ _ rfl b (off + n * 5) rfl (.string (mtext (c))) rfl infoM9 rfl HR.out 0 (by have := HP.out; omega) (by simp) ?_)
      intro w2 hr hw
      replace HR := Lib.hid hr
      replace HS := Lib.hid (HS.out.trans (hw.kept (by simp)))
      clear hr hw
      go_wp2_with (with_reducible refine stW rfl 3 _ _ rfl b (off + n * 5 + 1) rfl (.int .i64 (c + 1)) rfl infoM3 rfl HR.out 1 (by have := HP.out; omega) (by simp) ?_)
      intro w3 hr hw
      replace HR := Lib.hid hr
      replace HS := Lib.hid (HS.out.trans (hw.kept (by simp)))
      clear hr hw
      go_wp2_with fail
      refine (markText_c _ (by omega) _).mono ?_
      rintro e w4 ⟨rfl, hB4⟩
      replace HR := Lib.hid (HR.out.kept (Kept.of_below hB4 []) (by simp))
      replace HS := Lib.hid (HS.out.trans (Kept.of_below hB4 _))
      clear hB4
      go_wp2_with (with_reducible refine stW rfl 9 _ _ rfl b (off + n * 5 + 2) rfl (.string (mtext (c + 1 + 1))) rfl infoM9 rfl HR.out 2 (by have := HP.out; omega) (by simp) ?_)
      intro w5 hr hw
      replace HR := Lib.hid hr
      replace HS := Lib.hid (HS.out.trans (hw.kept (by simp)))
      clear hr hw
      replace HK := Lib.hid (HK.out.trans (HS.out.mono (fun x h => by simp only [List.mem_singleton] at h; simp [h])))
      replace O3 := Lib.hid (O3.out.kept HS.out e3)
      have g := (HR.out.cells HP.out) 3 _ rfl
      go_wp2_with fail
      refine (markTypeS_c x.fGoal.fType.fArgs _ _ _ _ O3.out n3 (by omega) (by omega)).mono ?_
      rintro e w6 ⟨rfl, o3, hk⟩
      clear g
      replace O3 := Lib.hid o3
      replace HR := Lib.hid (HR.out.kept hk b3)
      replace HK := Lib.hid (HK.out.trans (hk.mono (fun x h => by simp [h])))
      replace HS : Hid (Kept w6 w6 [b]) := Lib.hid (Kept.refl _ _)
      clear o3 hk
      go_wp2_with (with_reducible refine stW rfl 3 _ _ rfl b (off + n * 5 + 4) rfl (.int .i64 (c + 1 + 1 + 1 + (cnts (x.fGoal.fType.fArgs.map TType.enc) : Nat))) rfl infoM3 rfl HR.out 4 (by have := HP.out; omega) (by simp) ?_)
      intro w7 hr hw
      replace HR := Lib.hid hr
      replace HS := Lib.hid (HS.out.trans (hw.kept (by simp)))
      clear hr hw
      replace HK := Lib.hid (HK.out.trans (HS.out.mono (fun x h => by simp only [List.mem_singleton] at h; simp [h])))
      replace O3 := Lib.hid (O3.out.kept HS.out e3)
      have OF := Lib.hid (HB.out _ _ HR.out rfl HK.out (TObligation.mk_flat hc0 (by rw [TObligation.cnt_flat]; omega) O3.out))
      have KF := Lib.hid (Hk.out.trans (HK.out.mono (fun x h => sub_mid HD.out h)))
      rw [← HD.out] at OF
      clear HB HR HK HS HD HP Hk O3
      go_wp2
      go_roundw
      case rel => exact ⟨n + 1, _, hlt, by go_num, rfl, by omega, Lib.hid ⟨by have := HN.out; omega, OF.out⟩, KF⟩
      case measure => simp [intOf]; omega
    · obtain rfl : n = l.length := by omega
      have HE := Lib.hid (mark_end Hs.out.1 Hs.out.2)
      go_wp2
      go_ret
      exact ⟨ret_int HE.out.1, HE.out.2, Hk.out⟩
set_option maxRecDepth 100000 in
set_option maxHeartbeats 1000000 in
theorem markInferState_c (x : TInferState) : ∀ (w : World) (k : Int) (cs : List Value) (bs : List Nat) (_ : Own w x.enc cs bs) (_ : bs.Nodup) (_ : 0 ≤ k) (_ : k + (tcnt x.enc : Nat) ≤ 4611686018427387904),
    Calls Tryz.prog 21 #[.agg cs.toArray, .int .i64 k] w fun e w' => e = .returned (.int .i64 (k + (tcnt x.enc : Nat))) ∧ Own w' (tmk k x.enc) cs bs ∧ Kept w w' bs := by
  intro w k cs bs h nd h0 hlim
  rw [TInferState.tcnt_eq] at hlim ⊢
  obtain ⟨c3, c4, c5, r3, r4, r5, rfl, rfl, k0, k1, k2, k6, k7, o3, o4, o5⟩ := TInferState.own_open h
  clear h
  obtain ⟨n3, nd, y3⟩ := nd2 nd
  have d3_4 : ∀ x ∈ r3, x ∉ r4 := fun x h1 h2 => y3 x h1 (by simp [h2])
  have d4_3 : ∀ x ∈ r4, x ∉ r3 := fun x h1 h2 => y3 x h2 (by simp [h1])
  have d3_5 : ∀ x ∈ r3, x ∉ r5 := fun x h1 h2 => y3 x h1 (by simp [h2])
  have d5_3 : ∀ x ∈ r5, x ∉ r3 := fun x h1 h2 => y3 x h2 (by simp [h1])
  obtain ⟨n4, nd, y4⟩ := nd2 nd
  have d4_5 : ∀ x ∈ r4, x ∉ r5 := fun x h1 h2 => y4 x h1 (by simp [h2])
  have d5_4 : ∀ x ∈ r5, x ∉ r4 := fun x h1 h2 => y4 x h2 (by simp [h1])
  obtain ⟨n5, nd, y5⟩ := nd2 nd
  have hW : Below w.heap.size w (w.alloc (.cells #[.int .i64 x.fNext, .int .i64 x.fCount, .int .i64 x.fNode, c3, c4, c5, .int .i64 x.fCode, .int .i64 x.fAt] 54)) := (Below.refl _ _).alloc (Nat.le_refl _) _
  have HK : Hid (Kept w (w.alloc (.cells #[.int .i64 x.fNext, .int .i64 x.fCount, .int .i64 x.fNode, c3, c4, c5, .int .i64 x.fCode, .int .i64 x.fAt] 54)) (r3 ++ (r4 ++ (r5 ++ ([]))))) := Lib.hid (Kept.of_below hW _)
  have HC : Hid (∀ j, (w.alloc (.cells #[.int .i64 x.fNext, .int .i64 x.fCount, .int .i64 x.fNode, c3, c4, c5, .int .i64 x.fCode, .int .i64 x.fAt] 54)).cell? ⟨w.heap.size, j, none⟩ = #[.int .i64 x.fNext, .int .i64 x.fCount, .int .i64 x.fNode, c3, c4, c5, .int .i64 x.fCode, .int .i64 x.fAt][j]?) := Lib.hid (fun j => row_cell (alloc_at rfl) j)
  have l3 : Hid (w.heap.size ∉ r3) := Lib.hid (fun q => absurd (Own.lt _ _ _ o3 _ q) (Nat.lt_irrefl _))
  have O3 := Lib.hid (o3.kept (Kept.of_below hW []) (by simp))
  have l4 : Hid (w.heap.size ∉ r4) := Lib.hid (fun q => absurd (Own.lt _ _ _ o4 _ q) (Nat.lt_irrefl _))
  have O4 := Lib.hid (o4.kept (Kept.of_below hW []) (by simp))
  have l5 : Hid (w.heap.size ∉ r5) := Lib.hid (fun q => absurd (Own.lt _ _ _ o5 _ q) (Nat.lt_irrefl _))
  have O5 := Lib.hid (o5.kept (Kept.of_below hW []) (by simp))
  have HL : Hid (w.heap.size < (w.alloc (.cells #[.int .i64 x.fNext, .int .i64 x.fCount, .int .i64 x.fNode, c3, c4, c5, .int .i64 x.fCode, .int .i64 x.fAt] 54)).heap.size) := Lib.hid (by simp)
  clear o3 o4 o5 y3 y4 y5 nd
  go_enter Tryz.func21, Tryz.ntmps21
  go_wp2_with fail
  refine (markBindingS_c x.fBindings _ _ _ _ O3.out n3 (by omega) (by omega)).mono ?_
  rintro e w1 ⟨rfl, o3, hk⟩
  replace HC : Hid (∀ j, w1.cell? ⟨w.heap.size, j, none⟩ = #[.int .i64 x.fNext, .int .i64 x.fCount, .int .i64 x.fNode, c3, c4, c5, .int .i64 x.fCode, .int .i64 x.fAt][j]?) := Lib.hid (fun j => (World.cell?_of_block (a := ⟨w.heap.size, j, none⟩) (hk.other _ HL.out l3.out)).trans (HC.out j))
  replace HL : Hid (w.heap.size < w1.heap.size) := Lib.hid (Nat.lt_of_lt_of_le HL.out hk.size)
  replace HK := Lib.hid (HK.out.trans (hk.mono (fun x h => by simp [h])))
  replace O3 := Lib.hid o3
  replace O4 := Lib.hid (O4.out.kept hk d4_3)
  replace O5 := Lib.hid (O5.out.kept hk d5_3)
  clear o3 hk
  have g4 : w1.cell? ⟨w.heap.size, 4, none⟩ = some c4 := HC.out 4
  go_wp2_with fail
  refine (markEquationS_c x.fEquations _ _ _ _ O4.out n4 (by omega) (by omega)).mono ?_
  rintro e w2 ⟨rfl, o4, hk⟩
  replace HC : Hid (∀ j, w2.cell? ⟨w.heap.size, j, none⟩ = #[.int .i64 x.fNext, .int .i64 x.fCount, .int .i64 x.fNode, c3, c4, c5, .int .i64 x.fCode, .int .i64 x.fAt][j]?) := Lib.hid (fun j => (World.cell?_of_block (a := ⟨w.heap.size, j, none⟩) (hk.other _ HL.out l4.out)).trans (HC.out j))
  replace HL : Hid (w.heap.size < w2.heap.size) := Lib.hid (Nat.lt_of_lt_of_le HL.out hk.size)
  replace HK := Lib.hid (HK.out.trans (hk.mono (fun x h => by simp [h])))
  replace O4 := Lib.hid o4
  replace O3 := Lib.hid (O3.out.kept hk d3_4)
  replace O5 := Lib.hid (O5.out.kept hk d5_4)
  clear o4 hk
  have g5 : w2.cell? ⟨w.heap.size, 5, none⟩ = some c5 := HC.out 5
  go_wp2_with fail
  refine (markObligationS_c x.fObligations _ _ _ _ O5.out n5 (by omega) (by omega)).mono ?_
  rintro e w3 ⟨rfl, o5, hk⟩
  replace HC : Hid (∀ j, w3.cell? ⟨w.heap.size, j, none⟩ = #[.int .i64 x.fNext, .int .i64 x.fCount, .int .i64 x.fNode, c3, c4, c5, .int .i64 x.fCode, .int .i64 x.fAt][j]?) := Lib.hid (fun j => (World.cell?_of_block (a := ⟨w.heap.size, j, none⟩) (hk.other _ HL.out l5.out)).trans (HC.out j))
  replace HL : Hid (w.heap.size < w3.heap.size) := Lib.hid (Nat.lt_of_lt_of_le HL.out hk.size)
  replace HK := Lib.hid (HK.out.trans (hk.mono (fun x h => by simp [h])))
  replace O5 := Lib.hid o5
  replace O3 := Lib.hid (O3.out.kept hk d3_5)
  replace O4 := Lib.hid (O4.out.kept hk d4_5)
  clear o5 hk
  go_wp2
  go_ret
  exact ⟨ret_int (by omega), TInferState.tmk_own k0 k1 k2 k6 k7 O3.out O4.out O5.out, HK.out⟩
end Go.Proofs.YtkmiecgcibjkbaaGreat
