/- The functions mark.. of the laws. Conditions: the numbers begin at 0 or above and stay at or below 2 ^ 62. -/
import Derived.Test.YtkmiecgcibjkbaaGreatMkFlat
namespace Go.Proofs.YtkmiecgcibjkbaaGreat
open Go.RowKit
theorem infoM3 : (Tryz.prog.info? 3).map (·.size) = some 1 := by kernel_rfl
theorem infoM9 : (Tryz.prog.info? 9).map (·.size) = some 1 := by kernel_rfl
theorem infoM4 : (Tryz.prog.info? 4).map (·.size) = some 1 := by kernel_rfl
set_option maxRecDepth 100000 in
set_option maxHeartbeats 1000000 in
theorem markStringS_c (l : List ByteArray) : ∀ (w : World) (k : Int) (v : Value) (bs : List Nat) (_ : Own w (.sl (l.map encS)) [v] bs) (_ : bs.Nodup) (_ : 0 ≤ k) (_ : k + (cnts (l.map encS) : Nat) ≤ 4611686018427387904),
  Calls Tryz.prog 22 #[v, .int .i64 k] w fun e w' => e = .returned (.int .i64 (k + (cnts (l.map encS) : Nat))) ∧ Own w' (.sl (mks k (l.map encS))) [v] bs ∧ Kept w w' bs := by
 intro w k v bs h nd h0 hlim
 obtain ⟨a, cap, rfl, hcp, hm⟩ := own_valT h
 unfold maxLen at hm
 have H := Lib.hid (mark_start (k := k) h)
 clear h
 have Hlim := Lib.hid hlim
 have Hnd := Lib.hid nd
 clear nd hlim
 go_enter Tryz.func22, Tryz.ntmps22
 go_wp2
 go_loopw [5, 1] (fun i kk wr => ∃ (n : Nat) (c : Int), n ≤ l.length ∧ i = .int .i64 n ∧ kk = .int .i64 c ∧ 0 ≤ c ∧ Hid (c = k + (cnts ((l.map encS).take n) : Nat) ∧ Own wr (.sl (mks k ((l.map encS).take n) ++ (l.map encS).drop n)) [.slice a l.length cap] bs) ∧ Hid (Kept w wr bs)) (fun i _ _ => l.length - (intOf i).toNat)
 case atStart => exact ⟨0, k, Nat.zero_le _, rfl, rfl, h0, H, Lib.hid (Kept.refl _ _)⟩
 case round =>
  clear H
  obtain ⟨n, c, hn, rfl, rfl, hc0, Hs, Hk⟩ := hrel
  by_cases hlt : n < l.length
  ·obtain ⟨b, off, t, rA, rd, rB, pre, cs, post, rfl, hbs, hr, hp, -, ho, hb, hd, hM, hN, hback⟩ := mark_at encS_w (by decide) hlt Hs.out.1 Hlim.out Hs.out.2 Hnd.out
   have HB := Lib.hid hback
   clear hback Hs Hlim Hnd
   generalize l[n] = x at *
   rw [cntS_flat] at hM hN
   obtain ⟨rfl, rfl⟩ := ownS_flat ho
   have HR := Lib.hid hr; have HP := Lib.hid hp; have HN := Lib.hid hN; have HD := Lib.hid hbs
   have HK : Hid (Kept wr wr (b :: ([]))) := Lib.hid (Kept.refl _ _)
   have HS : Hid (Kept wr wr [b]) := Lib.hid (Kept.refl _ _)
   clear hr hp hN hbs ho hd hb
   go_wp2_with fail
   refine (markText_c _ (by omega) _).mono ?_
   rintro e w1 ⟨rfl, hB1⟩
   replace HR := Lib.hid (HR.out.kept (Kept.of_below hB1 []) (by simp))
   replace HS := Lib.hid (HS.out.trans (Kept.of_below hB1 _))
   clear hB1
   go_wp2_with (with_reducible refine stW rfl 9 _ _ rfl b (off + n) rfl (.string (mtext (c))) rfl infoM9 rfl HR.out 0 (by have := HP.out; omega) (by simp) ?_)
   intro w2 hr hw
   replace HR := Lib.hid hr
   replace HS := Lib.hid (HS.out.trans (hw.kept (by simp)))
   clear hr hw
   replace HK := Lib.hid (HK.out.trans (HS.out.mono (fun x h => by simp only [List.mem_singleton] at h; simp [h])))
   have OF := Lib.hid (HB.out _ _ HR.out rfl HK.out (mkS_flat (by omega)))
   have KF := Lib.hid (Hk.out.trans (HK.out.mono (fun x h => sub_mid HD.out h)))
   rw [← HD.out] at OF
   clear HB HR HK HS HD HP Hk
   go_wp2
   go_roundw
   case rel => exact ⟨n + 1, _, hlt, by go_num, rfl, by omega, Lib.hid ⟨by have := HN.out; omega, OF.out⟩, KF⟩
   case measure => simp [intOf]; omega
  ·obtain rfl : n = l.length := by omega
   have HE := Lib.hid (mark_end Hs.out.1 Hs.out.2)
   go_wp2
   go_ret
   exact ⟨ret_int HE.out.1, HE.out.2, Hk.out⟩
def MarkEvidenceS (N : Nat) : Prop := ∀ (l : List TEvidence), SizeOf.sizeOf l < N → ∀ (w : World) (k : Int) (v : Value) (bs : List Nat) (_ : Own w (.sl (l.map TEvidence.enc)) [v] bs) (_ : bs.Nodup) (_ : 0 ≤ k) (_ : k + (cnts (l.map TEvidence.enc) : Nat) ≤ 4611686018427387904),
  Calls Tryz.prog 79 #[v, .int .i64 k] w fun e w' => e = .returned (.int .i64 (k + (cnts (l.map TEvidence.enc) : Nat))) ∧ Own w' (.sl (mks k (l.map TEvidence.enc))) [v] bs ∧ Kept w w' bs
set_option maxRecDepth 100000 in
set_option maxHeartbeats 1000000 in
theorem stepMarkEvidenceS (N : Nat) (iMarkEvidenceS : MarkEvidenceS N) : MarkEvidenceS (N + 1) := by
 intro l hN w k v bs h nd h0 hlim
 obtain ⟨a, cap, rfl, hcp, hm⟩ := own_valT h
 unfold maxLen at hm
 have H := Lib.hid (mark_start (k := k) h)
 clear h
 have Hlim := Lib.hid hlim
 have Hnd := Lib.hid nd
 clear nd hlim
 go_enter Tryz.func79, Tryz.ntmps79
 go_wp2
 go_loopw [5, 1] (fun i kk wr => ∃ (n : Nat) (c : Int), n ≤ l.length ∧ i = .int .i64 n ∧ kk = .int .i64 c ∧ 0 ≤ c ∧ Hid (c = k + (cnts ((l.map TEvidence.enc).take n) : Nat) ∧ Own wr (.sl (mks k ((l.map TEvidence.enc).take n) ++ (l.map TEvidence.enc).drop n)) [.slice a l.length cap] bs) ∧ Hid (Kept w wr bs)) (fun i _ _ => l.length - (intOf i).toNat)
 case atStart => exact ⟨0, k, Nat.zero_le _, rfl, rfl, h0, H, Lib.hid (Kept.refl _ _)⟩
 case round =>
  clear H
  obtain ⟨n, c, hn, rfl, rfl, hc0, Hs, Hk⟩ := hrel
  by_cases hlt : n < l.length
  ·obtain ⟨b, off, t, rA, rd, rB, pre, cs, post, rfl, hbs, hr, hp, -, ho, hb, hd, hM, hN, hback⟩ := mark_at TEvidence.width (by decide) hlt Hs.out.1 Hlim.out Hs.out.2 Hnd.out
   have HB := Lib.hid hback
   have hz : SizeOf.sizeOf l[n] < SizeOf.sizeOf l := List.sizeOf_lt_of_mem (List.getElem_mem hlt)
   clear hback Hs Hlim Hnd
   generalize l[n] = x at *
   rw [TEvidence.cnt_flat] at hM hN
   obtain ⟨c4, r4, rfl, rfl, o4⟩ := TEvidence.own_flat ho
   obtain ⟨n4, hd, y4⟩ := nd2 hd
   have b4 : b ∉ r4 := fun q => hb (by simp [q])
   have e4 : ∀ x ∈ r4, x ∉ [b] := fun x h1 h2 => b4 (by simp only [List.mem_singleton] at h2; exact h2 ▸ h1)
   have O4 := Lib.hid o4
   have HR := Lib.hid hr; have HP := Lib.hid hp; have HN := Lib.hid hN; have HD := Lib.hid hbs
   have HK : Hid (Kept wr wr (b :: (r4 ++ ([])))) := Lib.hid (Kept.refl _ _)
   have HS : Hid (Kept wr wr [b]) := Lib.hid (Kept.refl _ _)
   clear hr hp hN hbs ho hd hb o4 y4
   go_wp2_with (with_reducible refine stW rfl 3 _ _ rfl b (off + n * 5) rfl (.int .i64 (c)) rfl infoM3 rfl HR.out 0 (by have := HP.out; omega) (by simp) ?_)
   intro w1 hr hw
   replace HR := Lib.hid hr
   replace HS := Lib.hid (HS.out.trans (hw.kept (by simp)))
   clear hr hw
   go_wp2_with (with_reducible refine stW rfl 3 _ _ rfl b (off + n * 5 + 1) rfl (.int .i64 (c + 1)) rfl infoM3 rfl HR.out 1 (by have := HP.out; omega) (by simp) ?_)
   intro w2 hr hw
   replace HR := Lib.hid hr
   replace HS := Lib.hid (HS.out.trans (hw.kept (by simp)))
   clear hr hw
   go_wp2_with (with_reducible refine stW rfl 3 _ _ rfl b (off + n * 5 + 2) rfl (.int .i64 (c + 1 + 1)) rfl infoM3 rfl HR.out 2 (by have := HP.out; omega) (by simp) ?_)
   intro w3 hr hw
   replace HR := Lib.hid hr
   replace HS := Lib.hid (HS.out.trans (hw.kept (by simp)))
   clear hr hw
   go_wp2_with (with_reducible refine stW rfl 3 _ _ rfl b (off + n * 5 + 3) rfl (.int .i64 (c + 1 + 1 + 1)) rfl infoM3 rfl HR.out 3 (by have := HP.out; omega) (by simp) ?_)
   intro w4 hr hw
   replace HR := Lib.hid hr
   replace HS := Lib.hid (HS.out.trans (hw.kept (by simp)))
   clear hr hw
   replace HK := Lib.hid (HK.out.trans (HS.out.mono (fun x h => by simp only [List.mem_singleton] at h; simp [h])))
   replace O4 := Lib.hid (O4.out.kept HS.out e4)
   have g := (HR.out.cells HP.out) 4 _ rfl
   go_wp2_with fail
   refine (iMarkEvidenceS x.fArgs (by have := TEvidence.lt_fArgs x; omega) _ _ _ _ O4.out n4 (by omega) (by omega)).mono ?_
   rintro e w5 ⟨rfl, o4, hk⟩
   clear g
   replace O4 := Lib.hid o4
   replace HR := Lib.hid (HR.out.kept hk b4)
   replace HK := Lib.hid (HK.out.trans (hk.mono (fun x h => by simp [h])))
   replace HS : Hid (Kept w5 w5 [b]) := Lib.hid (Kept.refl _ _)
   clear o4 hk
   replace HK := Lib.hid (HK.out.trans (HS.out.mono (fun x h => by simp only [List.mem_singleton] at h; simp [h])))
   replace O4 := Lib.hid (O4.out.kept HS.out e4)
   have OF := Lib.hid (HB.out _ _ HR.out rfl HK.out (TEvidence.mk_flat hc0 (by rw [TEvidence.cnt_flat]; omega) O4.out))
   have KF := Lib.hid (Hk.out.trans (HK.out.mono (fun x h => sub_mid HD.out h)))
   rw [← HD.out] at OF
   clear HB HR HK HS HD HP Hk O4
   go_wp2
   go_roundw
   case rel => exact ⟨n + 1, _, hlt, by go_num, rfl, by omega, Lib.hid ⟨by have := HN.out; omega, OF.out⟩, KF⟩
   case measure => simp [intOf]; omega
  ·obtain rfl : n = l.length := by omega
   have HE := Lib.hid (mark_end Hs.out.1 Hs.out.2)
   go_wp2
   go_ret
   exact ⟨ret_int HE.out.1, HE.out.2, Hk.out⟩
theorem MarkEvidenceS_all : ∀ N : Nat, MarkEvidenceS N
 | 0 => fun _ h => absurd h (Nat.not_lt_zero _)
 | N + 1 => by
  have i0 := MarkEvidenceS_all N
  exact stepMarkEvidenceS N i0
theorem markEvidenceS_c (l : List TEvidence) : ∀ (w : World) (k : Int) (v : Value) (bs : List Nat) (_ : Own w (.sl (l.map TEvidence.enc)) [v] bs) (_ : bs.Nodup) (_ : 0 ≤ k) (_ : k + (cnts (l.map TEvidence.enc) : Nat) ≤ 4611686018427387904),
  Calls Tryz.prog 79 #[v, .int .i64 k] w fun e w' => e = .returned (.int .i64 (k + (cnts (l.map TEvidence.enc) : Nat))) ∧ Own w' (.sl (mks k (l.map TEvidence.enc))) [v] bs ∧ Kept w w' bs := (MarkEvidenceS_all (SizeOf.sizeOf l + 1)) l (Nat.lt_succ_self _)
set_option maxRecDepth 100000 in
set_option maxHeartbeats 1000000 in
theorem markInstrS_c (l : List TInstr) : ∀ (w : World) (k : Int) (v : Value) (bs : List Nat) (_ : Own w (.sl (l.map TInstr.enc)) [v] bs) (_ : bs.Nodup) (_ : 0 ≤ k) (_ : k + (cnts (l.map TInstr.enc) : Nat) ≤ 4611686018427387904),
  Calls Tryz.prog 106 #[v, .int .i64 k] w fun e w' => e = .returned (.int .i64 (k + (cnts (l.map TInstr.enc) : Nat))) ∧ Own w' (.sl (mks k (l.map TInstr.enc))) [v] bs ∧ Kept w w' bs := by
 intro w k v bs h nd h0 hlim
 obtain ⟨a, cap, rfl, hcp, hm⟩ := own_valT h
 unfold maxLen at hm
 have H := Lib.hid (mark_start (k := k) h)
 clear h
 have Hlim := Lib.hid hlim
 have Hnd := Lib.hid nd
 clear nd hlim
 go_enter Tryz.func106, Tryz.ntmps106
 go_wp2
 go_loopw [5, 1] (fun i kk wr => ∃ (n : Nat) (c : Int), n ≤ l.length ∧ i = .int .i64 n ∧ kk = .int .i64 c ∧ 0 ≤ c ∧ Hid (c = k + (cnts ((l.map TInstr.enc).take n) : Nat) ∧ Own wr (.sl (mks k ((l.map TInstr.enc).take n) ++ (l.map TInstr.enc).drop n)) [.slice a l.length cap] bs) ∧ Hid (Kept w wr bs)) (fun i _ _ => l.length - (intOf i).toNat)
 case atStart => exact ⟨0, k, Nat.zero_le _, rfl, rfl, h0, H, Lib.hid (Kept.refl _ _)⟩
 case round =>
  clear H
  obtain ⟨n, c, hn, rfl, rfl, hc0, Hs, Hk⟩ := hrel
  by_cases hlt : n < l.length
  ·obtain ⟨b, off, t, rA, rd, rB, pre, cs, post, rfl, hbs, hr, hp, -, ho, hb, hd, hM, hN, hback⟩ := mark_at TInstr.width (by decide) hlt Hs.out.1 Hlim.out Hs.out.2 Hnd.out
   have HB := Lib.hid hback
   clear hback Hs Hlim Hnd
   generalize l[n] = x at *
   rw [TInstr.cnt_flat] at hM hN
   obtain ⟨rfl, rfl⟩ := TInstr.own_flat ho
   have HR := Lib.hid hr; have HP := Lib.hid hp; have HN := Lib.hid hN; have HD := Lib.hid hbs
   have HK : Hid (Kept wr wr (b :: ([]))) := Lib.hid (Kept.refl _ _)
   have HS : Hid (Kept wr wr [b]) := Lib.hid (Kept.refl _ _)
   clear hr hp hN hbs ho hd hb
   go_wp2_with (with_reducible refine stW rfl 3 _ _ rfl b (off + n * 5) rfl (.int .i64 (c)) rfl infoM3 rfl HR.out 0 (by have := HP.out; omega) (by simp) ?_)
   intro w1 hr hw
   replace HR := Lib.hid hr
   replace HS := Lib.hid (HS.out.trans (hw.kept (by simp)))
   clear hr hw
   go_wp2_with (with_reducible refine stW rfl 3 _ _ rfl b (off + n * 5 + 1) rfl (.int .i64 (c + 1)) rfl infoM3 rfl HR.out 1 (by have := HP.out; omega) (by simp) ?_)
   intro w2 hr hw
   replace HR := Lib.hid hr
   replace HS := Lib.hid (HS.out.trans (hw.kept (by simp)))
   clear hr hw
   go_wp2_with (with_reducible refine stW rfl 3 _ _ rfl b (off + n * 5 + 2) rfl (.int .i64 (c + 1 + 1)) rfl infoM3 rfl HR.out 2 (by have := HP.out; omega) (by simp) ?_)
   intro w3 hr hw
   replace HR := Lib.hid hr
   replace HS := Lib.hid (HS.out.trans (hw.kept (by simp)))
   clear hr hw
   go_wp2_with fail
   refine (markText_c _ (by omega) _).mono ?_
   rintro e w4 ⟨rfl, hB4⟩
   replace HR := Lib.hid (HR.out.kept (Kept.of_below hB4 []) (by simp))
   replace HS := Lib.hid (HS.out.trans (Kept.of_below hB4 _))
   clear hB4
   go_wp2_with (with_reducible refine stW rfl 9 _ _ rfl b (off + n * 5 + 3) rfl (.string (mtext (c + 1 + 1 + 1))) rfl infoM9 rfl HR.out 3 (by have := HP.out; omega) (by simp) ?_)
   intro w5 hr hw
   replace HR := Lib.hid hr
   replace HS := Lib.hid (HS.out.trans (hw.kept (by simp)))
   clear hr hw
   go_wp2_with fail
   refine (markText_c _ (by omega) _).mono ?_
   rintro e w6 ⟨rfl, hB6⟩
   replace HR := Lib.hid (HR.out.kept (Kept.of_below hB6 []) (by simp))
   replace HS := Lib.hid (HS.out.trans (Kept.of_below hB6 _))
   clear hB6
   go_wp2_with (with_reducible refine stW rfl 9 _ _ rfl b (off + n * 5 + 4) rfl (.string (mtext (c + 1 + 1 + 1 + 1))) rfl infoM9 rfl HR.out 4 (by have := HP.out; omega) (by simp) ?_)
   intro w7 hr hw
   replace HR := Lib.hid hr
   replace HS := Lib.hid (HS.out.trans (hw.kept (by simp)))
   clear hr hw
   replace HK := Lib.hid (HK.out.trans (HS.out.mono (fun x h => by simp only [List.mem_singleton] at h; simp [h])))
   have OF := Lib.hid (HB.out _ _ HR.out rfl HK.out (TInstr.mk_flat hc0 (by rw [TInstr.cnt_flat]; omega)))
   have KF := Lib.hid (Hk.out.trans (HK.out.mono (fun x h => sub_mid HD.out h)))
   rw [← HD.out] at OF
   clear HB HR HK HS HD HP Hk
   go_wp2
   go_roundw
   case rel => exact ⟨n + 1, _, hlt, by go_num, rfl, by omega, Lib.hid ⟨by have := HN.out; omega, OF.out⟩, KF⟩
   case measure => simp [intOf]; omega
  ·obtain rfl : n = l.length := by omega
   have HE := Lib.hid (mark_end Hs.out.1 Hs.out.2)
   go_wp2
   go_ret
   exact ⟨ret_int HE.out.1, HE.out.2, Hk.out⟩
set_option maxRecDepth 100000 in
set_option maxHeartbeats 1000000 in
theorem markCodeS_c (l : List TCode) : ∀ (w : World) (k : Int) (v : Value) (bs : List Nat) (_ : Own w (.sl (l.map TCode.enc)) [v] bs) (_ : bs.Nodup) (_ : 0 ≤ k) (_ : k + (cnts (l.map TCode.enc) : Nat) ≤ 4611686018427387904),
  Calls Tryz.prog 47 #[v, .int .i64 k] w fun e w' => e = .returned (.int .i64 (k + (cnts (l.map TCode.enc) : Nat))) ∧ Own w' (.sl (mks k (l.map TCode.enc))) [v] bs ∧ Kept w w' bs := by
 intro w k v bs h nd h0 hlim
 obtain ⟨a, cap, rfl, hcp, hm⟩ := own_valT h
 unfold maxLen at hm
 have H := Lib.hid (mark_start (k := k) h)
 clear h
 have Hlim := Lib.hid hlim
 have Hnd := Lib.hid nd
 clear nd hlim
 go_enter Tryz.func47, Tryz.ntmps47
 go_wp2
 go_loopw [5, 1] (fun i kk wr => ∃ (n : Nat) (c : Int), n ≤ l.length ∧ i = .int .i64 n ∧ kk = .int .i64 c ∧ 0 ≤ c ∧ Hid (c = k + (cnts ((l.map TCode.enc).take n) : Nat) ∧ Own wr (.sl (mks k ((l.map TCode.enc).take n) ++ (l.map TCode.enc).drop n)) [.slice a l.length cap] bs) ∧ Hid (Kept w wr bs)) (fun i _ _ => l.length - (intOf i).toNat)
 case atStart => exact ⟨0, k, Nat.zero_le _, rfl, rfl, h0, H, Lib.hid (Kept.refl _ _)⟩
 case round =>
  clear H
  obtain ⟨n, c, hn, rfl, rfl, hc0, Hs, Hk⟩ := hrel
  by_cases hlt : n < l.length
  ·obtain ⟨b, off, t, rA, rd, rB, pre, cs, post, rfl, hbs, hr, hp, -, ho, hb, hd, hM, hN, hback⟩ := mark_at TCode.width (by decide) hlt Hs.out.1 Hlim.out Hs.out.2 Hnd.out
   have HB := Lib.hid hback
   clear hback Hs Hlim Hnd
   generalize l[n] = x at *
   rw [TCode.cnt_flat] at hM hN
   obtain ⟨c1, r1, rfl, rfl, o1⟩ := TCode.own_flat ho
   obtain ⟨n1, hd, y1⟩ := nd2 hd
   have b1 : b ∉ r1 := fun q => hb (by simp [q])
   have e1 : ∀ x ∈ r1, x ∉ [b] := fun x h1 h2 => b1 (by simp only [List.mem_singleton] at h2; exact h2 ▸ h1)
   have O1 := Lib.hid o1
   have HR := Lib.hid hr; have HP := Lib.hid hp; have HN := Lib.hid hN; have HD := Lib.hid hbs
   have HK : Hid (Kept wr wr (b :: (r1 ++ ([])))) := Lib.hid (Kept.refl _ _)
   have HS : Hid (Kept wr wr [b]) := Lib.hid (Kept.refl _ _)
   clear hr hp hN hbs ho hd hb o1 y1
   go_wp2_with (with_reducible refine stW rfl 3 _ _ rfl b (off + n * 2) rfl (.int .i64 (c)) rfl infoM3 rfl HR.out 0 (by have := HP.out; omega) (by simp) ?_)
   intro w1 hr hw
   replace HR := Lib.hid hr
   replace HS := Lib.hid (HS.out.trans (hw.kept (by simp)))
   clear hr hw
   replace HK := Lib.hid (HK.out.trans (HS.out.mono (fun x h => by simp only [List.mem_singleton] at h; simp [h])))
   replace O1 := Lib.hid (O1.out.kept HS.out e1)
   have g := (HR.out.cells HP.out) 1 _ rfl
   go_wp2_with fail
   refine (markInstrS_c x.fList _ _ _ _ O1.out n1 (by omega) (by omega)).mono ?_
   rintro e w2 ⟨rfl, o1, hk⟩
   clear g
   replace O1 := Lib.hid o1
   replace HR := Lib.hid (HR.out.kept hk b1)
   replace HK := Lib.hid (HK.out.trans (hk.mono (fun x h => by simp [h])))
   replace HS : Hid (Kept w2 w2 [b]) := Lib.hid (Kept.refl _ _)
   clear o1 hk
   replace HK := Lib.hid (HK.out.trans (HS.out.mono (fun x h => by simp only [List.mem_singleton] at h; simp [h])))
   replace O1 := Lib.hid (O1.out.kept HS.out e1)
   have OF := Lib.hid (HB.out _ _ HR.out rfl HK.out (TCode.mk_flat hc0 (by rw [TCode.cnt_flat]; omega) O1.out))
   have KF := Lib.hid (Hk.out.trans (HK.out.mono (fun x h => sub_mid HD.out h)))
   rw [← HD.out] at OF
   clear HB HR HK HS HD HP Hk O1
   go_wp2
   go_roundw
   case rel => exact ⟨n + 1, _, hlt, by go_num, rfl, by omega, Lib.hid ⟨by have := HN.out; omega, OF.out⟩, KF⟩
   case measure => simp [intOf]; omega
  ·obtain rfl : n = l.length := by omega
   have HE := Lib.hid (mark_end Hs.out.1 Hs.out.2)
   go_wp2
   go_ret
   exact ⟨ret_int HE.out.1, HE.out.2, Hk.out⟩
set_option maxRecDepth 100000 in
set_option maxHeartbeats 1000000 in
theorem markMethodEntryS_c (l : List TMethodEntry) : ∀ (w : World) (k : Int) (v : Value) (bs : List Nat) (_ : Own w (.sl (l.map TMethodEntry.enc)) [v] bs) (_ : bs.Nodup) (_ : 0 ≤ k) (_ : k + (cnts (l.map TMethodEntry.enc) : Nat) ≤ 4611686018427387904),
  Calls Tryz.prog 105 #[v, .int .i64 k] w fun e w' => e = .returned (.int .i64 (k + (cnts (l.map TMethodEntry.enc) : Nat))) ∧ Own w' (.sl (mks k (l.map TMethodEntry.enc))) [v] bs ∧ Kept w w' bs := by
 intro w k v bs h nd h0 hlim
 obtain ⟨a, cap, rfl, hcp, hm⟩ := own_valT h
 unfold maxLen at hm
 have H := Lib.hid (mark_start (k := k) h)
 clear h
 have Hlim := Lib.hid hlim
 have Hnd := Lib.hid nd
 clear nd hlim
 go_enter Tryz.func105, Tryz.ntmps105
 go_wp2
 go_loopw [5, 1] (fun i kk wr => ∃ (n : Nat) (c : Int), n ≤ l.length ∧ i = .int .i64 n ∧ kk = .int .i64 c ∧ 0 ≤ c ∧ Hid (c = k + (cnts ((l.map TMethodEntry.enc).take n) : Nat) ∧ Own wr (.sl (mks k ((l.map TMethodEntry.enc).take n) ++ (l.map TMethodEntry.enc).drop n)) [.slice a l.length cap] bs) ∧ Hid (Kept w wr bs)) (fun i _ _ => l.length - (intOf i).toNat)
 case atStart => exact ⟨0, k, Nat.zero_le _, rfl, rfl, h0, H, Lib.hid (Kept.refl _ _)⟩
 case round =>
  clear H
  obtain ⟨n, c, hn, rfl, rfl, hc0, Hs, Hk⟩ := hrel
  by_cases hlt : n < l.length
  ·obtain ⟨b, off, t, rA, rd, rB, pre, cs, post, rfl, hbs, hr, hp, -, ho, hb, hd, hM, hN, hback⟩ := mark_at TMethodEntry.width (by decide) hlt Hs.out.1 Hlim.out Hs.out.2 Hnd.out
   have HB := Lib.hid hback
   clear hback Hs Hlim Hnd
   generalize l[n] = x at *
   rw [TMethodEntry.cnt_flat] at hM hN
   obtain ⟨rfl, rfl⟩ := TMethodEntry.own_flat ho
   have HR := Lib.hid hr; have HP := Lib.hid hp; have HN := Lib.hid hN; have HD := Lib.hid hbs
   have HK : Hid (Kept wr wr (b :: ([]))) := Lib.hid (Kept.refl _ _)
   have HS : Hid (Kept wr wr [b]) := Lib.hid (Kept.refl _ _)
   clear hr hp hN hbs ho hd hb
   go_wp2_with fail
   refine (markText_c _ (by omega) _).mono ?_
   rintro e w1 ⟨rfl, hB1⟩
   replace HR := Lib.hid (HR.out.kept (Kept.of_below hB1 []) (by simp))
   replace HS := Lib.hid (HS.out.trans (Kept.of_below hB1 _))
   clear hB1
   go_wp2_with (with_reducible refine stW rfl 9 _ _ rfl b (off + n * 3) rfl (.string (mtext (c))) rfl infoM9 rfl HR.out 0 (by have := HP.out; omega) (by simp) ?_)
   intro w2 hr hw
   replace HR := Lib.hid hr
   replace HS := Lib.hid (HS.out.trans (hw.kept (by simp)))
   clear hr hw
   go_wp2_with fail
   refine (markText_c _ (by omega) _).mono ?_
   rintro e w3 ⟨rfl, hB3⟩
   replace HR := Lib.hid (HR.out.kept (Kept.of_below hB3 []) (by simp))
   replace HS := Lib.hid (HS.out.trans (Kept.of_below hB3 _))
   clear hB3
   go_wp2_with (with_reducible refine stW rfl 9 _ _ rfl b (off + n * 3 + 1) rfl (.string (mtext (c + 1))) rfl infoM9 rfl HR.out 1 (by have := HP.out; omega) (by simp) ?_)
   intro w4 hr hw
   replace HR := Lib.hid hr
   replace HS := Lib.hid (HS.out.trans (hw.kept (by simp)))
   clear hr hw
   go_wp2_with (with_reducible refine stW rfl 3 _ _ rfl b (off + n * 3 + 2) rfl (.int .i64 (c + 1 + 1)) rfl infoM3 rfl HR.out 2 (by have := HP.out; omega) (by simp) ?_)
   intro w5 hr hw
   replace HR := Lib.hid hr
   replace HS := Lib.hid (HS.out.trans (hw.kept (by simp)))
   clear hr hw
   replace HK := Lib.hid (HK.out.trans (HS.out.mono (fun x h => by simp only [List.mem_singleton] at h; simp [h])))
   have OF := Lib.hid (HB.out _ _ HR.out rfl HK.out (TMethodEntry.mk_flat hc0 (by rw [TMethodEntry.cnt_flat]; omega)))
   have KF := Lib.hid (Hk.out.trans (HK.out.mono (fun x h => sub_mid HD.out h)))
   rw [← HD.out] at OF
   clear HB HR HK HS HD HP Hk
   go_wp2
   go_roundw
   case rel => exact ⟨n + 1, _, hlt, by go_num, rfl, by omega, Lib.hid ⟨by have := HN.out; omega, OF.out⟩, KF⟩
   case measure => simp [intOf]; omega
  ·obtain rfl : n = l.length := by omega
   have HE := Lib.hid (mark_end Hs.out.1 Hs.out.2)
   go_wp2
   go_ret
   exact ⟨ret_int HE.out.1, HE.out.2, Hk.out⟩
def MarkTypeS (N : Nat) : Prop := ∀ (l : List TType), SizeOf.sizeOf l < N → ∀ (w : World) (k : Int) (v : Value) (bs : List Nat) (_ : Own w (.sl (l.map TType.enc)) [v] bs) (_ : bs.Nodup) (_ : 0 ≤ k) (_ : k + (cnts (l.map TType.enc) : Nat) ≤ 4611686018427387904),
  Calls Tryz.prog 78 #[v, .int .i64 k] w fun e w' => e = .returned (.int .i64 (k + (cnts (l.map TType.enc) : Nat))) ∧ Own w' (.sl (mks k (l.map TType.enc))) [v] bs ∧ Kept w w' bs
set_option maxRecDepth 100000 in
set_option maxHeartbeats 1000000 in
theorem stepMarkTypeS (N : Nat) (iMarkTypeS : MarkTypeS N) : MarkTypeS (N + 1) := by
 intro l hN w k v bs h nd h0 hlim
 obtain ⟨a, cap, rfl, hcp, hm⟩ := own_valT h
 unfold maxLen at hm
 have H := Lib.hid (mark_start (k := k) h)
 clear h
 have Hlim := Lib.hid hlim
 have Hnd := Lib.hid nd
 clear nd hlim
 go_enter Tryz.func78, Tryz.ntmps78
 go_wp2
 go_loopw [5, 1] (fun i kk wr => ∃ (n : Nat) (c : Int), n ≤ l.length ∧ i = .int .i64 n ∧ kk = .int .i64 c ∧ 0 ≤ c ∧ Hid (c = k + (cnts ((l.map TType.enc).take n) : Nat) ∧ Own wr (.sl (mks k ((l.map TType.enc).take n) ++ (l.map TType.enc).drop n)) [.slice a l.length cap] bs) ∧ Hid (Kept w wr bs)) (fun i _ _ => l.length - (intOf i).toNat)
 case atStart => exact ⟨0, k, Nat.zero_le _, rfl, rfl, h0, H, Lib.hid (Kept.refl _ _)⟩
 case round =>
  clear H
  obtain ⟨n, c, hn, rfl, rfl, hc0, Hs, Hk⟩ := hrel
  by_cases hlt : n < l.length
  ·obtain ⟨b, off, t, rA, rd, rB, pre, cs, post, rfl, hbs, hr, hp, -, ho, hb, hd, hM, hN, hback⟩ := mark_at TType.width (by decide) hlt Hs.out.1 Hlim.out Hs.out.2 Hnd.out
   have HB := Lib.hid hback
   have hz : SizeOf.sizeOf l[n] < SizeOf.sizeOf l := List.sizeOf_lt_of_mem (List.getElem_mem hlt)
   clear hback Hs Hlim Hnd
   generalize l[n] = x at *
   rw [TType.cnt_flat] at hM hN
   obtain ⟨c2, r2, rfl, rfl, o2⟩ := TType.own_flat ho
   obtain ⟨n2, hd, y2⟩ := nd2 hd
   have b2 : b ∉ r2 := fun q => hb (by simp [q])
   have e2 : ∀ x ∈ r2, x ∉ [b] := fun x h1 h2 => b2 (by simp only [List.mem_singleton] at h2; exact h2 ▸ h1)
   have O2 := Lib.hid o2
   have HR := Lib.hid hr; have HP := Lib.hid hp; have HN := Lib.hid hN; have HD := Lib.hid hbs
   have HK : Hid (Kept wr wr (b :: (r2 ++ ([])))) := Lib.hid (Kept.refl _ _)
   have HS : Hid (Kept wr wr [b]) := Lib.hid (Kept.refl _ _)
   clear hr hp hN hbs ho hd hb o2 y2
   go_wp2_with (with_reducible refine stW rfl 3 _ _ rfl b (off + n * 3) rfl (.int .i64 (c)) rfl infoM3 rfl HR.out 0 (by have := HP.out; omega) (by simp) ?_)
   intro w1 hr hw
   replace HR := Lib.hid hr
   replace HS := Lib.hid (HS.out.trans (hw.kept (by simp)))
   clear hr hw
   go_wp2_with fail
   refine (markText_c _ (by omega) _).mono ?_
   rintro e w2 ⟨rfl, hB2⟩
   replace HR := Lib.hid (HR.out.kept (Kept.of_below hB2 []) (by simp))
   replace HS := Lib.hid (HS.out.trans (Kept.of_below hB2 _))
   clear hB2
   go_wp2_with (with_reducible refine stW rfl 9 _ _ rfl b (off + n * 3 + 1) rfl (.string (mtext (c + 1))) rfl infoM9 rfl HR.out 1 (by have := HP.out; omega) (by simp) ?_)
   intro w3 hr hw
   replace HR := Lib.hid hr
   replace HS := Lib.hid (HS.out.trans (hw.kept (by simp)))
   clear hr hw
   replace HK := Lib.hid (HK.out.trans (HS.out.mono (fun x h => by simp only [List.mem_singleton] at h; simp [h])))
   replace O2 := Lib.hid (O2.out.kept HS.out e2)
   have g := (HR.out.cells HP.out) 2 _ rfl
   go_wp2_with fail
   refine (iMarkTypeS x.fArgs (by have := TType.lt_fArgs x; omega) _ _ _ _ O2.out n2 (by omega) (by omega)).mono ?_
   rintro e w4 ⟨rfl, o2, hk⟩
   clear g
   replace O2 := Lib.hid o2
   replace HR := Lib.hid (HR.out.kept hk b2)
   replace HK := Lib.hid (HK.out.trans (hk.mono (fun x h => by simp [h])))
   replace HS : Hid (Kept w4 w4 [b]) := Lib.hid (Kept.refl _ _)
   clear o2 hk
   replace HK := Lib.hid (HK.out.trans (HS.out.mono (fun x h => by simp only [List.mem_singleton] at h; simp [h])))
   replace O2 := Lib.hid (O2.out.kept HS.out e2)
   have OF := Lib.hid (HB.out _ _ HR.out rfl HK.out (TType.mk_flat hc0 (by rw [TType.cnt_flat]; omega) O2.out))
   have KF := Lib.hid (Hk.out.trans (HK.out.mono (fun x h => sub_mid HD.out h)))
   rw [← HD.out] at OF
   clear HB HR HK HS HD HP Hk O2
   go_wp2
   go_roundw
   case rel => exact ⟨n + 1, _, hlt, by go_num, rfl, by omega, Lib.hid ⟨by have := HN.out; omega, OF.out⟩, KF⟩
   case measure => simp [intOf]; omega
  ·obtain rfl : n = l.length := by omega
   have HE := Lib.hid (mark_end Hs.out.1 Hs.out.2)
   go_wp2
   go_ret
   exact ⟨ret_int HE.out.1, HE.out.2, Hk.out⟩
theorem MarkTypeS_all : ∀ N : Nat, MarkTypeS N
 | 0 => fun _ h => absurd h (Nat.not_lt_zero _)
 | N + 1 => by
  have i0 := MarkTypeS_all N
  exact stepMarkTypeS N i0
theorem markTypeS_c (l : List TType) : ∀ (w : World) (k : Int) (v : Value) (bs : List Nat) (_ : Own w (.sl (l.map TType.enc)) [v] bs) (_ : bs.Nodup) (_ : 0 ≤ k) (_ : k + (cnts (l.map TType.enc) : Nat) ≤ 4611686018427387904),
  Calls Tryz.prog 78 #[v, .int .i64 k] w fun e w' => e = .returned (.int .i64 (k + (cnts (l.map TType.enc) : Nat))) ∧ Own w' (.sl (mks k (l.map TType.enc))) [v] bs ∧ Kept w w' bs := (MarkTypeS_all (SizeOf.sizeOf l + 1)) l (Nat.lt_succ_self _)
def MarkCoreArmS (N : Nat) : Prop := ∀ (l : List TCoreArm), SizeOf.sizeOf l < N → ∀ (w : World) (k : Int) (v : Value) (bs : List Nat) (_ : Own w (.sl (l.map TCoreArm.enc)) [v] bs) (_ : bs.Nodup) (_ : 0 ≤ k) (_ : k + (cnts (l.map TCoreArm.enc) : Nat) ≤ 4611686018427387904),
  Calls Tryz.prog 81 #[v, .int .i64 k] w fun e w' => e = .returned (.int .i64 (k + (cnts (l.map TCoreArm.enc) : Nat))) ∧ Own w' (.sl (mks k (l.map TCoreArm.enc))) [v] bs ∧ Kept w w' bs
def MarkCoreS (N : Nat) : Prop := ∀ (l : List TCore), SizeOf.sizeOf l < N → ∀ (w : World) (k : Int) (v : Value) (bs : List Nat) (_ : Own w (.sl (l.map TCore.enc)) [v] bs) (_ : bs.Nodup) (_ : 0 ≤ k) (_ : k + (cnts (l.map TCore.enc) : Nat) ≤ 4611686018427387904),
  Calls Tryz.prog 80 #[v, .int .i64 k] w fun e w' => e = .returned (.int .i64 (k + (cnts (l.map TCore.enc) : Nat))) ∧ Own w' (.sl (mks k (l.map TCore.enc))) [v] bs ∧ Kept w w' bs
set_option maxRecDepth 100000 in
set_option maxHeartbeats 1000000 in
theorem stepMarkCoreArmS (N : Nat) (iMarkCoreArmS : MarkCoreArmS N) (iMarkCoreS : MarkCoreS N) : MarkCoreArmS (N + 1) := by
 intro l hN w k v bs h nd h0 hlim
 obtain ⟨a, cap, rfl, hcp, hm⟩ := own_valT h
 unfold maxLen at hm
 have H := Lib.hid (mark_start (k := k) h)
 clear h
 have Hlim := Lib.hid hlim
 have Hnd := Lib.hid nd
 clear nd hlim
 go_enter Tryz.func81, Tryz.ntmps81
 go_wp2
 go_loopw [5, 1] (fun i kk wr => ∃ (n : Nat) (c : Int), n ≤ l.length ∧ i = .int .i64 n ∧ kk = .int .i64 c ∧ 0 ≤ c ∧ Hid (c = k + (cnts ((l.map TCoreArm.enc).take n) : Nat) ∧ Own wr (.sl (mks k ((l.map TCoreArm.enc).take n) ++ (l.map TCoreArm.enc).drop n)) [.slice a l.length cap] bs) ∧ Hid (Kept w wr bs)) (fun i _ _ => l.length - (intOf i).toNat)
 case atStart => exact ⟨0, k, Nat.zero_le _, rfl, rfl, h0, H, Lib.hid (Kept.refl _ _)⟩
 case round =>
  clear H
  obtain ⟨n, c, hn, rfl, rfl, hc0, Hs, Hk⟩ := hrel
  by_cases hlt : n < l.length
  ·obtain ⟨b, off, t, rA, rd, rB, pre, cs, post, rfl, hbs, hr, hp, -, ho, hb, hd, hM, hN, hback⟩ := mark_at TCoreArm.width (by decide) hlt Hs.out.1 Hlim.out Hs.out.2 Hnd.out
   have HB := Lib.hid hback
   have hz : SizeOf.sizeOf l[n] < SizeOf.sizeOf l := List.sizeOf_lt_of_mem (List.getElem_mem hlt)
   clear hback Hs Hlim Hnd
   generalize l[n] = x at *
   rw [TCoreArm.cnt_flat] at hM hN
   obtain ⟨c1, c8, c9, c10, c11, c12, r1, r8, r9, r10, r11, r12, rfl, rfl, o1, o8, o9, o10, o11, o12⟩ := TCoreArm.own_flat ho
   obtain ⟨n1, hd, y1⟩ := nd2 hd
   have d1_8 : ∀ x ∈ r1, x ∉ r8 := fun x h1 h2 => y1 x h1 (by simp [h2])
   have d8_1 : ∀ x ∈ r8, x ∉ r1 := fun x h1 h2 => y1 x h2 (by simp [h1])
   have d1_9 : ∀ x ∈ r1, x ∉ r9 := fun x h1 h2 => y1 x h1 (by simp [h2])
   have d9_1 : ∀ x ∈ r9, x ∉ r1 := fun x h1 h2 => y1 x h2 (by simp [h1])
   have d1_10 : ∀ x ∈ r1, x ∉ r10 := fun x h1 h2 => y1 x h1 (by simp [h2])
   have d10_1 : ∀ x ∈ r10, x ∉ r1 := fun x h1 h2 => y1 x h2 (by simp [h1])
   have d1_11 : ∀ x ∈ r1, x ∉ r11 := fun x h1 h2 => y1 x h1 (by simp [h2])
   have d11_1 : ∀ x ∈ r11, x ∉ r1 := fun x h1 h2 => y1 x h2 (by simp [h1])
   have d1_12 : ∀ x ∈ r1, x ∉ r12 := fun x h1 h2 => y1 x h1 (by simp [h2])
   have d12_1 : ∀ x ∈ r12, x ∉ r1 := fun x h1 h2 => y1 x h2 (by simp [h1])
   obtain ⟨n8, hd, y8⟩ := nd2 hd
   have d8_9 : ∀ x ∈ r8, x ∉ r9 := fun x h1 h2 => y8 x h1 (by simp [h2])
   have d9_8 : ∀ x ∈ r9, x ∉ r8 := fun x h1 h2 => y8 x h2 (by simp [h1])
   have d8_10 : ∀ x ∈ r8, x ∉ r10 := fun x h1 h2 => y8 x h1 (by simp [h2])
   have d10_8 : ∀ x ∈ r10, x ∉ r8 := fun x h1 h2 => y8 x h2 (by simp [h1])
   have d8_11 : ∀ x ∈ r8, x ∉ r11 := fun x h1 h2 => y8 x h1 (by simp [h2])
   have d11_8 : ∀ x ∈ r11, x ∉ r8 := fun x h1 h2 => y8 x h2 (by simp [h1])
   have d8_12 : ∀ x ∈ r8, x ∉ r12 := fun x h1 h2 => y8 x h1 (by simp [h2])
   have d12_8 : ∀ x ∈ r12, x ∉ r8 := fun x h1 h2 => y8 x h2 (by simp [h1])
   obtain ⟨n9, hd, y9⟩ := nd2 hd
   have d9_10 : ∀ x ∈ r9, x ∉ r10 := fun x h1 h2 => y9 x h1 (by simp [h2])
   have d10_9 : ∀ x ∈ r10, x ∉ r9 := fun x h1 h2 => y9 x h2 (by simp [h1])
   have d9_11 : ∀ x ∈ r9, x ∉ r11 := fun x h1 h2 => y9 x h1 (by simp [h2])
   have d11_9 : ∀ x ∈ r11, x ∉ r9 := fun x h1 h2 => y9 x h2 (by simp [h1])
   have d9_12 : ∀ x ∈ r9, x ∉ r12 := fun x h1 h2 => y9 x h1 (by simp [h2])
   have d12_9 : ∀ x ∈ r12, x ∉ r9 := fun x h1 h2 => y9 x h2 (by simp [h1])
   obtain ⟨n10, hd, y10⟩ := nd2 hd
   have d10_11 : ∀ x ∈ r10, x ∉ r11 := fun x h1 h2 => y10 x h1 (by simp [h2])
   have d11_10 : ∀ x ∈ r11, x ∉ r10 := fun x h1 h2 => y10 x h2 (by simp [h1])
   have d10_12 : ∀ x ∈ r10, x ∉ r12 := fun x h1 h2 => y10 x h1 (by simp [h2])
   have d12_10 : ∀ x ∈ r12, x ∉ r10 := fun x h1 h2 => y10 x h2 (by simp [h1])
   obtain ⟨n11, hd, y11⟩ := nd2 hd
   have d11_12 : ∀ x ∈ r11, x ∉ r12 := fun x h1 h2 => y11 x h1 (by simp [h2])
   have d12_11 : ∀ x ∈ r12, x ∉ r11 := fun x h1 h2 => y11 x h2 (by simp [h1])
   obtain ⟨n12, hd, y12⟩ := nd2 hd
   have b1 : b ∉ r1 := fun q => hb (by simp [q])
   have e1 : ∀ x ∈ r1, x ∉ [b] := fun x h1 h2 => b1 (by simp only [List.mem_singleton] at h2; exact h2 ▸ h1)
   have b8 : b ∉ r8 := fun q => hb (by simp [q])
   have e8 : ∀ x ∈ r8, x ∉ [b] := fun x h1 h2 => b8 (by simp only [List.mem_singleton] at h2; exact h2 ▸ h1)
   have b9 : b ∉ r9 := fun q => hb (by simp [q])
   have e9 : ∀ x ∈ r9, x ∉ [b] := fun x h1 h2 => b9 (by simp only [List.mem_singleton] at h2; exact h2 ▸ h1)
   have b10 : b ∉ r10 := fun q => hb (by simp [q])
   have e10 : ∀ x ∈ r10, x ∉ [b] := fun x h1 h2 => b10 (by simp only [List.mem_singleton] at h2; exact h2 ▸ h1)
   have b11 : b ∉ r11 := fun q => hb (by simp [q])
   have e11 : ∀ x ∈ r11, x ∉ [b] := fun x h1 h2 => b11 (by simp only [List.mem_singleton] at h2; exact h2 ▸ h1)
   have b12 : b ∉ r12 := fun q => hb (by simp [q])
   have e12 : ∀ x ∈ r12, x ∉ [b] := fun x h1 h2 => b12 (by simp only [List.mem_singleton] at h2; exact h2 ▸ h1)
   have O1 := Lib.hid o1
   have O8 := Lib.hid o8
   have O9 := Lib.hid o9
   have O10 := Lib.hid o10
   have O11 := Lib.hid o11
   have O12 := Lib.hid o12
   have HR := Lib.hid hr; have HP := Lib.hid hp; have HN := Lib.hid hN; have HD := Lib.hid hbs
   have HK : Hid (Kept wr wr (b :: (r1 ++ (r8 ++ (r9 ++ (r10 ++ (r11 ++ (r12 ++ ([]))))))))) := Lib.hid (Kept.refl _ _)
   have HS : Hid (Kept wr wr [b]) := Lib.hid (Kept.refl _ _)
   clear hr hp hN hbs ho hd hb o1 o8 o9 o10 o11 o12 y1 y8 y9 y10 y11 y12
   go_wp2_with fail
   refine (markText_c _ (by omega) _).mono ?_
   rintro e w1 ⟨rfl, hB1⟩
   replace HR := Lib.hid (HR.out.kept (Kept.of_below hB1 []) (by simp))
   replace HS := Lib.hid (HS.out.trans (Kept.of_below hB1 _))
   clear hB1
   go_wp2_with (with_reducible refine stW rfl 9 _ _ rfl b (off + n * 13) rfl (.string (mtext (c))) rfl infoM9 rfl HR.out 0 (by have := HP.out; omega) (by simp) ?_)
   intro w2 hr hw
   replace HR := Lib.hid hr
   replace HS := Lib.hid (HS.out.trans (hw.kept (by simp)))
   clear hr hw
   replace HK := Lib.hid (HK.out.trans (HS.out.mono (fun x h => by simp only [List.mem_singleton] at h; simp [h])))
   replace O1 := Lib.hid (O1.out.kept HS.out e1)
   replace O8 := Lib.hid (O8.out.kept HS.out e8)
   replace O9 := Lib.hid (O9.out.kept HS.out e9)
   replace O10 := Lib.hid (O10.out.kept HS.out e10)
   replace O11 := Lib.hid (O11.out.kept HS.out e11)
   replace O12 := Lib.hid (O12.out.kept HS.out e12)
   have g := (HR.out.cells HP.out) 1 _ rfl
   go_wp2_with fail
   refine (markStringS_c x.fVars _ _ _ _ O1.out n1 (by omega) (by omega)).mono ?_
   rintro e w3 ⟨rfl, o1, hk⟩
   clear g
   replace O1 := Lib.hid o1
   replace O8 := Lib.hid (O8.out.kept hk d8_1)
   replace O9 := Lib.hid (O9.out.kept hk d9_1)
   replace O10 := Lib.hid (O10.out.kept hk d10_1)
   replace O11 := Lib.hid (O11.out.kept hk d11_1)
   replace O12 := Lib.hid (O12.out.kept hk d12_1)
   replace HR := Lib.hid (HR.out.kept hk b1)
   replace HK := Lib.hid (HK.out.trans (hk.mono (fun x h => by simp [h])))
   replace HS : Hid (Kept w3 w3 [b]) := Lib.hid (Kept.refl _ _)
   clear o1 hk
   go_wp2_with (with_reducible refine stW rfl 3 _ _ rfl b (off + n * 13 + 2) rfl (.int .i64 (c + 1 + (cnts (x.fVars.map encS) : Nat))) rfl infoM3 rfl HR.out 2 (by have := HP.out; omega) (by simp) ?_)
   intro w4 hr hw
   replace HR := Lib.hid hr
   replace HS := Lib.hid (HS.out.trans (hw.kept (by simp)))
   clear hr hw
   go_wp2_with fail
   refine (markText_c _ (by omega) _).mono ?_
   rintro e w5 ⟨rfl, hB5⟩
   replace HR := Lib.hid (HR.out.kept (Kept.of_below hB5 []) (by simp))
   replace HS := Lib.hid (HS.out.trans (Kept.of_below hB5 _))
   clear hB5
   go_wp2_with (with_reducible refine stW rfl 9 _ _ rfl b (off + n * 13 + 3) rfl (.string (mtext (c + 1 + (cnts (x.fVars.map encS) : Nat) + 1))) rfl infoM9 rfl HR.out 3 (by have := HP.out; omega) (by simp) ?_)
   intro w6 hr hw
   replace HR := Lib.hid hr
   replace HS := Lib.hid (HS.out.trans (hw.kept (by simp)))
   clear hr hw
   go_wp2_with fail
   refine (markText_c _ (by omega) _).mono ?_
   rintro e w7 ⟨rfl, hB7⟩
   replace HR := Lib.hid (HR.out.kept (Kept.of_below hB7 []) (by simp))
   replace HS := Lib.hid (HS.out.trans (Kept.of_below hB7 _))
   clear hB7
   go_wp2_with (with_reducible refine stW rfl 9 _ _ rfl b (off + n * 13 + 4) rfl (.string (mtext (c + 1 + (cnts (x.fVars.map encS) : Nat) + 1 + 1))) rfl infoM9 rfl HR.out 4 (by have := HP.out; omega) (by simp) ?_)
   intro w8 hr hw
   replace HR := Lib.hid hr
   replace HS := Lib.hid (HS.out.trans (hw.kept (by simp)))
   clear hr hw
   go_wp2_with (with_reducible refine stW rfl 3 _ _ rfl b (off + n * 13 + 5) rfl (.int .i64 (c + 1 + (cnts (x.fVars.map encS) : Nat) + 1 + 1 + 1)) rfl infoM3 rfl HR.out 5 (by have := HP.out; omega) (by simp) ?_)
   intro w9 hr hw
   replace HR := Lib.hid hr
   replace HS := Lib.hid (HS.out.trans (hw.kept (by simp)))
   clear hr hw
   go_wp2_with (with_reducible refine stW rfl 3 _ _ rfl b (off + n * 13 + 6) rfl (.int .i64 (c + 1 + (cnts (x.fVars.map encS) : Nat) + 1 + 1 + 1 + 1)) rfl infoM3 rfl HR.out 6 (by have := HP.out; omega) (by simp) ?_)
   intro w10 hr hw
   replace HR := Lib.hid hr
   replace HS := Lib.hid (HS.out.trans (hw.kept (by simp)))
   clear hr hw
   go_wp2_with fail
   refine (markText_c _ (by omega) _).mono ?_
   rintro e w11 ⟨rfl, hB11⟩
   replace HR := Lib.hid (HR.out.kept (Kept.of_below hB11 []) (by simp))
   replace HS := Lib.hid (HS.out.trans (Kept.of_below hB11 _))
   clear hB11
   go_wp2_with (with_reducible refine stW rfl 9 _ _ rfl b (off + n * 13 + 7) rfl (.string (mtext (c + 1 + (cnts (x.fVars.map encS) : Nat) + 1 + 1 + 1 + 1 + 1))) rfl infoM9 rfl HR.out 7 (by have := HP.out; omega) (by simp) ?_)
   intro w12 hr hw
   replace HR := Lib.hid hr
   replace HS := Lib.hid (HS.out.trans (hw.kept (by simp)))
   clear hr hw
   replace HK := Lib.hid (HK.out.trans (HS.out.mono (fun x h => by simp only [List.mem_singleton] at h; simp [h])))
   replace O1 := Lib.hid (O1.out.kept HS.out e1)
   replace O8 := Lib.hid (O8.out.kept HS.out e8)
   replace O9 := Lib.hid (O9.out.kept HS.out e9)
   replace O10 := Lib.hid (O10.out.kept HS.out e10)
   replace O11 := Lib.hid (O11.out.kept HS.out e11)
   replace O12 := Lib.hid (O12.out.kept HS.out e12)
   have g := (HR.out.cells HP.out) 8 _ rfl
   go_wp2_with fail
   refine (markTypeS_c x.fBody.fType.fArgs _ _ _ _ O8.out n8 (by omega) (by omega)).mono ?_
   rintro e w13 ⟨rfl, o8, hk⟩
   clear g
   replace O8 := Lib.hid o8
   replace O1 := Lib.hid (O1.out.kept hk d1_8)
   replace O9 := Lib.hid (O9.out.kept hk d9_8)
   replace O10 := Lib.hid (O10.out.kept hk d10_8)
   replace O11 := Lib.hid (O11.out.kept hk d11_8)
   replace O12 := Lib.hid (O12.out.kept hk d12_8)
   replace HR := Lib.hid (HR.out.kept hk b8)
   replace HK := Lib.hid (HK.out.trans (hk.mono (fun x h => by simp [h])))
   replace HS : Hid (Kept w13 w13 [b]) := Lib.hid (Kept.refl _ _)
   clear o8 hk
   replace HK := Lib.hid (HK.out.trans (HS.out.mono (fun x h => by simp only [List.mem_singleton] at h; simp [h])))
   replace O1 := Lib.hid (O1.out.kept HS.out e1)
   replace O8 := Lib.hid (O8.out.kept HS.out e8)
   replace O9 := Lib.hid (O9.out.kept HS.out e9)
   replace O10 := Lib.hid (O10.out.kept HS.out e10)
   replace O11 := Lib.hid (O11.out.kept HS.out e11)
   replace O12 := Lib.hid (O12.out.kept HS.out e12)
   have g := (HR.out.cells HP.out) 9 _ rfl
   go_wp2_with fail
   refine (markTypeS_c x.fBody.fTypeArgs _ _ _ _ O9.out n9 (by omega) (by omega)).mono ?_
   rintro e w14 ⟨rfl, o9, hk⟩
   clear g
   replace O9 := Lib.hid o9
   replace O1 := Lib.hid (O1.out.kept hk d1_9)
   replace O8 := Lib.hid (O8.out.kept hk d8_9)
   replace O10 := Lib.hid (O10.out.kept hk d10_9)
   replace O11 := Lib.hid (O11.out.kept hk d11_9)
   replace O12 := Lib.hid (O12.out.kept hk d12_9)
   replace HR := Lib.hid (HR.out.kept hk b9)
   replace HK := Lib.hid (HK.out.trans (hk.mono (fun x h => by simp [h])))
   replace HS : Hid (Kept w14 w14 [b]) := Lib.hid (Kept.refl _ _)
   clear o9 hk
   replace HK := Lib.hid (HK.out.trans (HS.out.mono (fun x h => by simp only [List.mem_singleton] at h; simp [h])))
   replace O1 := Lib.hid (O1.out.kept HS.out e1)
   replace O8 := Lib.hid (O8.out.kept HS.out e8)
   replace O9 := Lib.hid (O9.out.kept HS.out e9)
   replace O10 := Lib.hid (O10.out.kept HS.out e10)
   replace O11 := Lib.hid (O11.out.kept HS.out e11)
   replace O12 := Lib.hid (O12.out.kept HS.out e12)
   have g := (HR.out.cells HP.out) 10 _ rfl
   go_wp2_with fail
   refine (markEvidenceS_c x.fBody.fEvidence _ _ _ _ O10.out n10 (by omega) (by omega)).mono ?_
   rintro e w15 ⟨rfl, o10, hk⟩
   clear g
   replace O10 := Lib.hid o10
   replace O1 := Lib.hid (O1.out.kept hk d1_10)
   replace O8 := Lib.hid (O8.out.kept hk d8_10)
   replace O9 := Lib.hid (O9.out.kept hk d9_10)
   replace O11 := Lib.hid (O11.out.kept hk d11_10)
   replace O12 := Lib.hid (O12.out.kept hk d12_10)
   replace HR := Lib.hid (HR.out.kept hk b10)
   replace HK := Lib.hid (HK.out.trans (hk.mono (fun x h => by simp [h])))
   replace HS : Hid (Kept w15 w15 [b]) := Lib.hid (Kept.refl _ _)
   clear o10 hk
   replace HK := Lib.hid (HK.out.trans (HS.out.mono (fun x h => by simp only [List.mem_singleton] at h; simp [h])))
   replace O1 := Lib.hid (O1.out.kept HS.out e1)
   replace O8 := Lib.hid (O8.out.kept HS.out e8)
   replace O9 := Lib.hid (O9.out.kept HS.out e9)
   replace O10 := Lib.hid (O10.out.kept HS.out e10)
   replace O11 := Lib.hid (O11.out.kept HS.out e11)
   replace O12 := Lib.hid (O12.out.kept HS.out e12)
   have g := (HR.out.cells HP.out) 11 _ rfl
   go_wp2_with fail
   refine (iMarkCoreS x.fBody.fArgs (by have := TCoreArm.lt_fBody x; have := TCore.lt_fArgs x.fBody; omega) _ _ _ _ O11.out n11 (by omega) (by omega)).mono ?_
   rintro e w16 ⟨rfl, o11, hk⟩
   clear g
   replace O11 := Lib.hid o11
   replace O1 := Lib.hid (O1.out.kept hk d1_11)
   replace O8 := Lib.hid (O8.out.kept hk d8_11)
   replace O9 := Lib.hid (O9.out.kept hk d9_11)
   replace O10 := Lib.hid (O10.out.kept hk d10_11)
   replace O12 := Lib.hid (O12.out.kept hk d12_11)
   replace HR := Lib.hid (HR.out.kept hk b11)
   replace HK := Lib.hid (HK.out.trans (hk.mono (fun x h => by simp [h])))
   replace HS : Hid (Kept w16 w16 [b]) := Lib.hid (Kept.refl _ _)
   clear o11 hk
   replace HK := Lib.hid (HK.out.trans (HS.out.mono (fun x h => by simp only [List.mem_singleton] at h; simp [h])))
   replace O1 := Lib.hid (O1.out.kept HS.out e1)
   replace O8 := Lib.hid (O8.out.kept HS.out e8)
   replace O9 := Lib.hid (O9.out.kept HS.out e9)
   replace O10 := Lib.hid (O10.out.kept HS.out e10)
   replace O11 := Lib.hid (O11.out.kept HS.out e11)
   replace O12 := Lib.hid (O12.out.kept HS.out e12)
   have g := (HR.out.cells HP.out) 12 _ rfl
   go_wp2_with fail
   refine (iMarkCoreArmS x.fBody.fArms (by have := TCoreArm.lt_fBody x; have := TCore.lt_fArms x.fBody; omega) _ _ _ _ O12.out n12 (by omega) (by omega)).mono ?_
   rintro e w17 ⟨rfl, o12, hk⟩
   clear g
   replace O12 := Lib.hid o12
   replace O1 := Lib.hid (O1.out.kept hk d1_12)
   replace O8 := Lib.hid (O8.out.kept hk d8_12)
   replace O9 := Lib.hid (O9.out.kept hk d9_12)
   replace O10 := Lib.hid (O10.out.kept hk d10_12)
   replace O11 := Lib.hid (O11.out.kept hk d11_12)
   replace HR := Lib.hid (HR.out.kept hk b12)
   replace HK := Lib.hid (HK.out.trans (hk.mono (fun x h => by simp [h])))
   replace HS : Hid (Kept w17 w17 [b]) := Lib.hid (Kept.refl _ _)
   clear o12 hk
   replace HK := Lib.hid (HK.out.trans (HS.out.mono (fun x h => by simp only [List.mem_singleton] at h; simp [h])))
   replace O1 := Lib.hid (O1.out.kept HS.out e1)
   replace O8 := Lib.hid (O8.out.kept HS.out e8)
   replace O9 := Lib.hid (O9.out.kept HS.out e9)
   replace O10 := Lib.hid (O10.out.kept HS.out e10)
   replace O11 := Lib.hid (O11.out.kept HS.out e11)
   replace O12 := Lib.hid (O12.out.kept HS.out e12)
   have OF := Lib.hid (HB.out _ _ HR.out rfl HK.out (TCoreArm.mk_flat hc0 (by rw [TCoreArm.cnt_flat]; omega) O1.out O8.out O9.out O10.out O11.out O12.out))
   have KF := Lib.hid (Hk.out.trans (HK.out.mono (fun x h => sub_mid HD.out h)))
   rw [← HD.out] at OF
   clear HB HR HK HS HD HP Hk O1 O8 O9 O10 O11 O12
   go_wp2
   go_roundw
   case rel => exact ⟨n + 1, _, hlt, by go_num, rfl, by omega, Lib.hid ⟨by have := HN.out; omega, OF.out⟩, KF⟩
   case measure => simp [intOf]; omega
  ·obtain rfl : n = l.length := by omega
   have HE := Lib.hid (mark_end Hs.out.1 Hs.out.2)
   go_wp2
   go_ret
   exact ⟨ret_int HE.out.1, HE.out.2, Hk.out⟩
set_option maxRecDepth 100000 in
set_option maxHeartbeats 1000000 in
theorem stepMarkCoreS (N : Nat) (iMarkCoreArmS : MarkCoreArmS N) (iMarkCoreS : MarkCoreS N) : MarkCoreS (N + 1) := by
 intro l hN w k v bs h nd h0 hlim
 obtain ⟨a, cap, rfl, hcp, hm⟩ := own_valT h
 unfold maxLen at hm
 have H := Lib.hid (mark_start (k := k) h)
 clear h
 have Hlim := Lib.hid hlim
 have Hnd := Lib.hid nd
 clear nd hlim
 go_enter Tryz.func80, Tryz.ntmps80
 go_wp2
 go_loopw [5, 1] (fun i kk wr => ∃ (n : Nat) (c : Int), n ≤ l.length ∧ i = .int .i64 n ∧ kk = .int .i64 c ∧ 0 ≤ c ∧ Hid (c = k + (cnts ((l.map TCore.enc).take n) : Nat) ∧ Own wr (.sl (mks k ((l.map TCore.enc).take n) ++ (l.map TCore.enc).drop n)) [.slice a l.length cap] bs) ∧ Hid (Kept w wr bs)) (fun i _ _ => l.length - (intOf i).toNat)
 case atStart => exact ⟨0, k, Nat.zero_le _, rfl, rfl, h0, H, Lib.hid (Kept.refl _ _)⟩
 case round =>
  clear H
  obtain ⟨n, c, hn, rfl, rfl, hc0, Hs, Hk⟩ := hrel
  by_cases hlt : n < l.length
  ·obtain ⟨b, off, t, rA, rd, rB, pre, cs, post, rfl, hbs, hr, hp, -, ho, hb, hd, hM, hN, hback⟩ := mark_at TCore.width (by decide) hlt Hs.out.1 Hlim.out Hs.out.2 Hnd.out
   have HB := Lib.hid hback
   have hz : SizeOf.sizeOf l[n] < SizeOf.sizeOf l := List.sizeOf_lt_of_mem (List.getElem_mem hlt)
   clear hback Hs Hlim Hnd
   generalize l[n] = x at *
   rw [TCore.cnt_flat] at hM hN
   obtain ⟨c6, c7, c8, c9, c10, r6, r7, r8, r9, r10, rfl, rfl, o6, o7, o8, o9, o10⟩ := TCore.own_flat ho
   obtain ⟨n6, hd, y6⟩ := nd2 hd
   have d6_7 : ∀ x ∈ r6, x ∉ r7 := fun x h1 h2 => y6 x h1 (by simp [h2])
   have d7_6 : ∀ x ∈ r7, x ∉ r6 := fun x h1 h2 => y6 x h2 (by simp [h1])
   have d6_8 : ∀ x ∈ r6, x ∉ r8 := fun x h1 h2 => y6 x h1 (by simp [h2])
   have d8_6 : ∀ x ∈ r8, x ∉ r6 := fun x h1 h2 => y6 x h2 (by simp [h1])
   have d6_9 : ∀ x ∈ r6, x ∉ r9 := fun x h1 h2 => y6 x h1 (by simp [h2])
   have d9_6 : ∀ x ∈ r9, x ∉ r6 := fun x h1 h2 => y6 x h2 (by simp [h1])
   have d6_10 : ∀ x ∈ r6, x ∉ r10 := fun x h1 h2 => y6 x h1 (by simp [h2])
   have d10_6 : ∀ x ∈ r10, x ∉ r6 := fun x h1 h2 => y6 x h2 (by simp [h1])
   obtain ⟨n7, hd, y7⟩ := nd2 hd
   have d7_8 : ∀ x ∈ r7, x ∉ r8 := fun x h1 h2 => y7 x h1 (by simp [h2])
   have d8_7 : ∀ x ∈ r8, x ∉ r7 := fun x h1 h2 => y7 x h2 (by simp [h1])
   have d7_9 : ∀ x ∈ r7, x ∉ r9 := fun x h1 h2 => y7 x h1 (by simp [h2])
   have d9_7 : ∀ x ∈ r9, x ∉ r7 := fun x h1 h2 => y7 x h2 (by simp [h1])
   have d7_10 : ∀ x ∈ r7, x ∉ r10 := fun x h1 h2 => y7 x h1 (by simp [h2])
   have d10_7 : ∀ x ∈ r10, x ∉ r7 := fun x h1 h2 => y7 x h2 (by simp [h1])
   obtain ⟨n8, hd, y8⟩ := nd2 hd
   have d8_9 : ∀ x ∈ r8, x ∉ r9 := fun x h1 h2 => y8 x h1 (by simp [h2])
   have d9_8 : ∀ x ∈ r9, x ∉ r8 := fun x h1 h2 => y8 x h2 (by simp [h1])
   have d8_10 : ∀ x ∈ r8, x ∉ r10 := fun x h1 h2 => y8 x h1 (by simp [h2])
   have d10_8 : ∀ x ∈ r10, x ∉ r8 := fun x h1 h2 => y8 x h2 (by simp [h1])
   obtain ⟨n9, hd, y9⟩ := nd2 hd
   have d9_10 : ∀ x ∈ r9, x ∉ r10 := fun x h1 h2 => y9 x h1 (by simp [h2])
   have d10_9 : ∀ x ∈ r10, x ∉ r9 := fun x h1 h2 => y9 x h2 (by simp [h1])
   obtain ⟨n10, hd, y10⟩ := nd2 hd
   have b6 : b ∉ r6 := fun q => hb (by simp [q])
   have e6 : ∀ x ∈ r6, x ∉ [b] := fun x h1 h2 => b6 (by simp only [List.mem_singleton] at h2; exact h2 ▸ h1)
   have b7 : b ∉ r7 := fun q => hb (by simp [q])
   have e7 : ∀ x ∈ r7, x ∉ [b] := fun x h1 h2 => b7 (by simp only [List.mem_singleton] at h2; exact h2 ▸ h1)
   have b8 : b ∉ r8 := fun q => hb (by simp [q])
   have e8 : ∀ x ∈ r8, x ∉ [b] := fun x h1 h2 => b8 (by simp only [List.mem_singleton] at h2; exact h2 ▸ h1)
   have b9 : b ∉ r9 := fun q => hb (by simp [q])
   have e9 : ∀ x ∈ r9, x ∉ [b] := fun x h1 h2 => b9 (by simp only [List.mem_singleton] at h2; exact h2 ▸ h1)
   have b10 : b ∉ r10 := fun q => hb (by simp [q])
   have e10 : ∀ x ∈ r10, x ∉ [b] := fun x h1 h2 => b10 (by simp only [List.mem_singleton] at h2; exact h2 ▸ h1)
   have O6 := Lib.hid o6
   have O7 := Lib.hid o7
   have O8 := Lib.hid o8
   have O9 := Lib.hid o9
   have O10 := Lib.hid o10
   have HR := Lib.hid hr; have HP := Lib.hid hp; have HN := Lib.hid hN; have HD := Lib.hid hbs
   have HK : Hid (Kept wr wr (b :: (r6 ++ (r7 ++ (r8 ++ (r9 ++ (r10 ++ ([])))))))) := Lib.hid (Kept.refl _ _)
   have HS : Hid (Kept wr wr [b]) := Lib.hid (Kept.refl _ _)
   clear hr hp hN hbs ho hd hb o6 o7 o8 o9 o10 y6 y7 y8 y9 y10
   go_wp2_with (with_reducible refine stW rfl 3 _ _ rfl b (off + n * 11) rfl (.int .i64 (c)) rfl infoM3 rfl HR.out 0 (by have := HP.out; omega) (by simp) ?_)
   intro w1 hr hw
   replace HR := Lib.hid hr
   replace HS := Lib.hid (HS.out.trans (hw.kept (by simp)))
   clear hr hw
   go_wp2_with fail
   refine (markText_c _ (by omega) _).mono ?_
   rintro e w2 ⟨rfl, hB2⟩
   replace HR := Lib.hid (HR.out.kept (Kept.of_below hB2 []) (by simp))
   replace HS := Lib.hid (HS.out.trans (Kept.of_below hB2 _))
   clear hB2
   go_wp2_with (with_reducible refine stW rfl 9 _ _ rfl b (off + n * 11 + 1) rfl (.string (mtext (c + 1))) rfl infoM9 rfl HR.out 1 (by have := HP.out; omega) (by simp) ?_)
   intro w3 hr hw
   replace HR := Lib.hid hr
   replace HS := Lib.hid (HS.out.trans (hw.kept (by simp)))
   clear hr hw
   go_wp2_with fail
   refine (markText_c _ (by omega) _).mono ?_
   rintro e w4 ⟨rfl, hB4⟩
   replace HR := Lib.hid (HR.out.kept (Kept.of_below hB4 []) (by simp))
   replace HS := Lib.hid (HS.out.trans (Kept.of_below hB4 _))
   clear hB4
   go_wp2_with (with_reducible refine stW rfl 9 _ _ rfl b (off + n * 11 + 2) rfl (.string (mtext (c + 1 + 1))) rfl infoM9 rfl HR.out 2 (by have := HP.out; omega) (by simp) ?_)
   intro w5 hr hw
   replace HR := Lib.hid hr
   replace HS := Lib.hid (HS.out.trans (hw.kept (by simp)))
   clear hr hw
   go_wp2_with (with_reducible refine stW rfl 3 _ _ rfl b (off + n * 11 + 3) rfl (.int .i64 (c + 1 + 1 + 1)) rfl infoM3 rfl HR.out 3 (by have := HP.out; omega) (by simp) ?_)
   intro w6 hr hw
   replace HR := Lib.hid hr
   replace HS := Lib.hid (HS.out.trans (hw.kept (by simp)))
   clear hr hw
   go_wp2_with (with_reducible refine stW rfl 3 _ _ rfl b (off + n * 11 + 4) rfl (.int .i64 (c + 1 + 1 + 1 + 1)) rfl infoM3 rfl HR.out 4 (by have := HP.out; omega) (by simp) ?_)
   intro w7 hr hw
   replace HR := Lib.hid hr
   replace HS := Lib.hid (HS.out.trans (hw.kept (by simp)))
   clear hr hw
   go_wp2_with fail
   refine (markText_c _ (by omega) _).mono ?_
   rintro e w8 ⟨rfl, hB8⟩
   replace HR := Lib.hid (HR.out.kept (Kept.of_below hB8 []) (by simp))
   replace HS := Lib.hid (HS.out.trans (Kept.of_below hB8 _))
   clear hB8
   go_wp2_with (with_reducible refine stW rfl 9 _ _ rfl b (off + n * 11 + 5) rfl (.string (mtext (c + 1 + 1 + 1 + 1 + 1))) rfl infoM9 rfl HR.out 5 (by have := HP.out; omega) (by simp) ?_)
   intro w9 hr hw
   replace HR := Lib.hid hr
   replace HS := Lib.hid (HS.out.trans (hw.kept (by simp)))
   clear hr hw
   replace HK := Lib.hid (HK.out.trans (HS.out.mono (fun x h => by simp only [List.mem_singleton] at h; simp [h])))
   replace O6 := Lib.hid (O6.out.kept HS.out e6)
   replace O7 := Lib.hid (O7.out.kept HS.out e7)
   replace O8 := Lib.hid (O8.out.kept HS.out e8)
   replace O9 := Lib.hid (O9.out.kept HS.out e9)
   replace O10 := Lib.hid (O10.out.kept HS.out e10)
   have g := (HR.out.cells HP.out) 6 _ rfl
   go_wp2_with fail
   refine (markTypeS_c x.fType.fArgs _ _ _ _ O6.out n6 (by omega) (by omega)).mono ?_
   rintro e w10 ⟨rfl, o6, hk⟩
   clear g
   replace O6 := Lib.hid o6
   replace O7 := Lib.hid (O7.out.kept hk d7_6)
   replace O8 := Lib.hid (O8.out.kept hk d8_6)
   replace O9 := Lib.hid (O9.out.kept hk d9_6)
   replace O10 := Lib.hid (O10.out.kept hk d10_6)
   replace HR := Lib.hid (HR.out.kept hk b6)
   replace HK := Lib.hid (HK.out.trans (hk.mono (fun x h => by simp [h])))
   replace HS : Hid (Kept w10 w10 [b]) := Lib.hid (Kept.refl _ _)
   clear o6 hk
   replace HK := Lib.hid (HK.out.trans (HS.out.mono (fun x h => by simp only [List.mem_singleton] at h; simp [h])))
   replace O6 := Lib.hid (O6.out.kept HS.out e6)
   replace O7 := Lib.hid (O7.out.kept HS.out e7)
   replace O8 := Lib.hid (O8.out.kept HS.out e8)
   replace O9 := Lib.hid (O9.out.kept HS.out e9)
   replace O10 := Lib.hid (O10.out.kept HS.out e10)
   have g := (HR.out.cells HP.out) 7 _ rfl
   go_wp2_with fail
   refine (markTypeS_c x.fTypeArgs _ _ _ _ O7.out n7 (by omega) (by omega)).mono ?_
   rintro e w11 ⟨rfl, o7, hk⟩
   clear g
   replace O7 := Lib.hid o7
   replace O6 := Lib.hid (O6.out.kept hk d6_7)
   replace O8 := Lib.hid (O8.out.kept hk d8_7)
   replace O9 := Lib.hid (O9.out.kept hk d9_7)
   replace O10 := Lib.hid (O10.out.kept hk d10_7)
   replace HR := Lib.hid (HR.out.kept hk b7)
   replace HK := Lib.hid (HK.out.trans (hk.mono (fun x h => by simp [h])))
   replace HS : Hid (Kept w11 w11 [b]) := Lib.hid (Kept.refl _ _)
   clear o7 hk
   replace HK := Lib.hid (HK.out.trans (HS.out.mono (fun x h => by simp only [List.mem_singleton] at h; simp [h])))
   replace O6 := Lib.hid (O6.out.kept HS.out e6)
   replace O7 := Lib.hid (O7.out.kept HS.out e7)
   replace O8 := Lib.hid (O8.out.kept HS.out e8)
   replace O9 := Lib.hid (O9.out.kept HS.out e9)
   replace O10 := Lib.hid (O10.out.kept HS.out e10)
   have g := (HR.out.cells HP.out) 8 _ rfl
   go_wp2_with fail
   refine (markEvidenceS_c x.fEvidence _ _ _ _ O8.out n8 (by omega) (by omega)).mono ?_
   rintro e w12 ⟨rfl, o8, hk⟩
   clear g
   replace O8 := Lib.hid o8
   replace O6 := Lib.hid (O6.out.kept hk d6_8)
   replace O7 := Lib.hid (O7.out.kept hk d7_8)
   replace O9 := Lib.hid (O9.out.kept hk d9_8)
   replace O10 := Lib.hid (O10.out.kept hk d10_8)
   replace HR := Lib.hid (HR.out.kept hk b8)
   replace HK := Lib.hid (HK.out.trans (hk.mono (fun x h => by simp [h])))
   replace HS : Hid (Kept w12 w12 [b]) := Lib.hid (Kept.refl _ _)
   clear o8 hk
   replace HK := Lib.hid (HK.out.trans (HS.out.mono (fun x h => by simp only [List.mem_singleton] at h; simp [h])))
   replace O6 := Lib.hid (O6.out.kept HS.out e6)
   replace O7 := Lib.hid (O7.out.kept HS.out e7)
   replace O8 := Lib.hid (O8.out.kept HS.out e8)
   replace O9 := Lib.hid (O9.out.kept HS.out e9)
   replace O10 := Lib.hid (O10.out.kept HS.out e10)
   have g := (HR.out.cells HP.out) 9 _ rfl
   go_wp2_with fail
   refine (iMarkCoreS x.fArgs (by have := TCore.lt_fArgs x; omega) _ _ _ _ O9.out n9 (by omega) (by omega)).mono ?_
   rintro e w13 ⟨rfl, o9, hk⟩
   clear g
   replace O9 := Lib.hid o9
   replace O6 := Lib.hid (O6.out.kept hk d6_9)
   replace O7 := Lib.hid (O7.out.kept hk d7_9)
   replace O8 := Lib.hid (O8.out.kept hk d8_9)
   replace O10 := Lib.hid (O10.out.kept hk d10_9)
   replace HR := Lib.hid (HR.out.kept hk b9)
   replace HK := Lib.hid (HK.out.trans (hk.mono (fun x h => by simp [h])))
   replace HS : Hid (Kept w13 w13 [b]) := Lib.hid (Kept.refl _ _)
   clear o9 hk
   replace HK := Lib.hid (HK.out.trans (HS.out.mono (fun x h => by simp only [List.mem_singleton] at h; simp [h])))
   replace O6 := Lib.hid (O6.out.kept HS.out e6)
   replace O7 := Lib.hid (O7.out.kept HS.out e7)
   replace O8 := Lib.hid (O8.out.kept HS.out e8)
   replace O9 := Lib.hid (O9.out.kept HS.out e9)
   replace O10 := Lib.hid (O10.out.kept HS.out e10)
   have g := (HR.out.cells HP.out) 10 _ rfl
   go_wp2_with fail
   refine (iMarkCoreArmS x.fArms (by have := TCore.lt_fArms x; omega) _ _ _ _ O10.out n10 (by omega) (by omega)).mono ?_
   rintro e w14 ⟨rfl, o10, hk⟩
   clear g
   replace O10 := Lib.hid o10
   replace O6 := Lib.hid (O6.out.kept hk d6_10)
   replace O7 := Lib.hid (O7.out.kept hk d7_10)
   replace O8 := Lib.hid (O8.out.kept hk d8_10)
   replace O9 := Lib.hid (O9.out.kept hk d9_10)
   replace HR := Lib.hid (HR.out.kept hk b10)
   replace HK := Lib.hid (HK.out.trans (hk.mono (fun x h => by simp [h])))
   replace HS : Hid (Kept w14 w14 [b]) := Lib.hid (Kept.refl _ _)
   clear o10 hk
   replace HK := Lib.hid (HK.out.trans (HS.out.mono (fun x h => by simp only [List.mem_singleton] at h; simp [h])))
   replace O6 := Lib.hid (O6.out.kept HS.out e6)
   replace O7 := Lib.hid (O7.out.kept HS.out e7)
   replace O8 := Lib.hid (O8.out.kept HS.out e8)
   replace O9 := Lib.hid (O9.out.kept HS.out e9)
   replace O10 := Lib.hid (O10.out.kept HS.out e10)
   have OF := Lib.hid (HB.out _ _ HR.out rfl HK.out (TCore.mk_flat hc0 (by rw [TCore.cnt_flat]; omega) O6.out O7.out O8.out O9.out O10.out))
   have KF := Lib.hid (Hk.out.trans (HK.out.mono (fun x h => sub_mid HD.out h)))
   rw [← HD.out] at OF
   clear HB HR HK HS HD HP Hk O6 O7 O8 O9 O10
   go_wp2
   go_roundw
   case rel => exact ⟨n + 1, _, hlt, by go_num, rfl, by omega, Lib.hid ⟨by have := HN.out; omega, OF.out⟩, KF⟩
   case measure => simp [intOf]; omega
  ·obtain rfl : n = l.length := by omega
   have HE := Lib.hid (mark_end Hs.out.1 Hs.out.2)
   go_wp2
   go_ret
   exact ⟨ret_int HE.out.1, HE.out.2, Hk.out⟩
theorem MarkCoreArmS_all : ∀ N : Nat, MarkCoreArmS N ∧ MarkCoreS N
 | 0 => ⟨fun _ h => absurd h (Nat.not_lt_zero _), fun _ h => absurd h (Nat.not_lt_zero _)⟩
 | N + 1 => by
  obtain ⟨i0, i1⟩ := MarkCoreArmS_all N
  exact ⟨stepMarkCoreArmS N i0 i1, stepMarkCoreS N i0 i1⟩
theorem markCoreArmS_c (l : List TCoreArm) : ∀ (w : World) (k : Int) (v : Value) (bs : List Nat) (_ : Own w (.sl (l.map TCoreArm.enc)) [v] bs) (_ : bs.Nodup) (_ : 0 ≤ k) (_ : k + (cnts (l.map TCoreArm.enc) : Nat) ≤ 4611686018427387904),
  Calls Tryz.prog 81 #[v, .int .i64 k] w fun e w' => e = .returned (.int .i64 (k + (cnts (l.map TCoreArm.enc) : Nat))) ∧ Own w' (.sl (mks k (l.map TCoreArm.enc))) [v] bs ∧ Kept w w' bs := (MarkCoreArmS_all (SizeOf.sizeOf l + 1)).1 l (Nat.lt_succ_self _)
theorem markCoreS_c (l : List TCore) : ∀ (w : World) (k : Int) (v : Value) (bs : List Nat) (_ : Own w (.sl (l.map TCore.enc)) [v] bs) (_ : bs.Nodup) (_ : 0 ≤ k) (_ : k + (cnts (l.map TCore.enc) : Nat) ≤ 4611686018427387904),
  Calls Tryz.prog 80 #[v, .int .i64 k] w fun e w' => e = .returned (.int .i64 (k + (cnts (l.map TCore.enc) : Nat))) ∧ Own w' (.sl (mks k (l.map TCore.enc))) [v] bs ∧ Kept w w' bs := (MarkCoreArmS_all (SizeOf.sizeOf l + 1)).2 l (Nat.lt_succ_self _)
set_option maxRecDepth 100000 in
set_option maxHeartbeats 1000000 in
theorem markMethodTableS_c (l : List TMethodTable) : ∀ (w : World) (k : Int) (v : Value) (bs : List Nat) (_ : Own w (.sl (l.map TMethodTable.enc)) [v] bs) (_ : bs.Nodup) (_ : 0 ≤ k) (_ : k + (cnts (l.map TMethodTable.enc) : Nat) ≤ 4611686018427387904),
  Calls Tryz.prog 46 #[v, .int .i64 k] w fun e w' => e = .returned (.int .i64 (k + (cnts (l.map TMethodTable.enc) : Nat))) ∧ Own w' (.sl (mks k (l.map TMethodTable.enc))) [v] bs ∧ Kept w w' bs := by
 intro w k v bs h nd h0 hlim
 obtain ⟨a, cap, rfl, hcp, hm⟩ := own_valT h
 unfold maxLen at hm
 have H := Lib.hid (mark_start (k := k) h)
 clear h
 have Hlim := Lib.hid hlim
 have Hnd := Lib.hid nd
 clear nd hlim
 go_enter Tryz.func46, Tryz.ntmps46
 go_wp2
 go_loopw [5, 1] (fun i kk wr => ∃ (n : Nat) (c : Int), n ≤ l.length ∧ i = .int .i64 n ∧ kk = .int .i64 c ∧ 0 ≤ c ∧ Hid (c = k + (cnts ((l.map TMethodTable.enc).take n) : Nat) ∧ Own wr (.sl (mks k ((l.map TMethodTable.enc).take n) ++ (l.map TMethodTable.enc).drop n)) [.slice a l.length cap] bs) ∧ Hid (Kept w wr bs)) (fun i _ _ => l.length - (intOf i).toNat)
 case atStart => exact ⟨0, k, Nat.zero_le _, rfl, rfl, h0, H, Lib.hid (Kept.refl _ _)⟩
 case round =>
  clear H
  obtain ⟨n, c, hn, rfl, rfl, hc0, Hs, Hk⟩ := hrel
  by_cases hlt : n < l.length
  ·obtain ⟨b, off, t, rA, rd, rB, pre, cs, post, rfl, hbs, hr, hp, -, ho, hb, hd, hM, hN, hback⟩ := mark_at TMethodTable.width (by decide) hlt Hs.out.1 Hlim.out Hs.out.2 Hnd.out
   have HB := Lib.hid hback
   clear hback Hs Hlim Hnd
   generalize l[n] = x at *
   rw [TMethodTable.cnt_flat] at hM hN
   obtain ⟨c3, c4, r3, r4, rfl, rfl, o3, o4⟩ := TMethodTable.own_flat ho
   obtain ⟨n3, hd, y3⟩ := nd2 hd
   have d3_4 : ∀ x ∈ r3, x ∉ r4 := fun x h1 h2 => y3 x h1 (by simp [h2])
   have d4_3 : ∀ x ∈ r4, x ∉ r3 := fun x h1 h2 => y3 x h2 (by simp [h1])
   obtain ⟨n4, hd, y4⟩ := nd2 hd
   have b3 : b ∉ r3 := fun q => hb (by simp [q])
   have e3 : ∀ x ∈ r3, x ∉ [b] := fun x h1 h2 => b3 (by simp only [List.mem_singleton] at h2; exact h2 ▸ h1)
   have b4 : b ∉ r4 := fun q => hb (by simp [q])
   have e4 : ∀ x ∈ r4, x ∉ [b] := fun x h1 h2 => b4 (by simp only [List.mem_singleton] at h2; exact h2 ▸ h1)
   have O3 := Lib.hid o3
   have O4 := Lib.hid o4
   have HR := Lib.hid hr; have HP := Lib.hid hp; have HN := Lib.hid hN; have HD := Lib.hid hbs
   have HK : Hid (Kept wr wr (b :: (r3 ++ (r4 ++ ([]))))) := Lib.hid (Kept.refl _ _)
   have HS : Hid (Kept wr wr [b]) := Lib.hid (Kept.refl _ _)
   clear hr hp hN hbs ho hd hb o3 o4 y3 y4
   go_wp2_with fail
   refine (markText_c _ (by omega) _).mono ?_
   rintro e w1 ⟨rfl, hB1⟩
   replace HR := Lib.hid (HR.out.kept (Kept.of_below hB1 []) (by simp))
   replace HS := Lib.hid (HS.out.trans (Kept.of_below hB1 _))
   clear hB1
   go_wp2_with (with_reducible refine stW rfl 9 _ _ rfl b (off + n * 5) rfl (.string (mtext (c))) rfl infoM9 rfl HR.out 0 (by have := HP.out; omega) (by simp) ?_)
   intro w2 hr hw
   replace HR := Lib.hid hr
   replace HS := Lib.hid (HS.out.trans (hw.kept (by simp)))
   clear hr hw
   go_wp2_with (with_reducible refine stW rfl 3 _ _ rfl b (off + n * 5 + 1) rfl (.int .i64 (c + 1)) rfl infoM3 rfl HR.out 1 (by have := HP.out; omega) (by simp) ?_)
   intro w3 hr hw
   replace HR := Lib.hid hr
   replace HS := Lib.hid (HS.out.trans (hw.kept (by simp)))
   clear hr hw
   go_wp2_with fail
   refine (markText_c _ (by omega) _).mono ?_
   rintro e w4 ⟨rfl, hB4⟩
   replace HR := Lib.hid (HR.out.kept (Kept.of_below hB4 []) (by simp))
   replace HS := Lib.hid (HS.out.trans (Kept.of_below hB4 _))
   clear hB4
   go_wp2_with (with_reducible refine stW rfl 9 _ _ rfl b (off + n * 5 + 2) rfl (.string (mtext (c + 1 + 1))) rfl infoM9 rfl HR.out 2 (by have := HP.out; omega) (by simp) ?_)
   intro w5 hr hw
   replace HR := Lib.hid hr
   replace HS := Lib.hid (HS.out.trans (hw.kept (by simp)))
   clear hr hw
   replace HK := Lib.hid (HK.out.trans (HS.out.mono (fun x h => by simp only [List.mem_singleton] at h; simp [h])))
   replace O3 := Lib.hid (O3.out.kept HS.out e3)
   replace O4 := Lib.hid (O4.out.kept HS.out e4)
   have g := (HR.out.cells HP.out) 3 _ rfl
   go_wp2_with fail
   refine (markTypeS_c x.fType.fArgs _ _ _ _ O3.out n3 (by omega) (by omega)).mono ?_
   rintro e w6 ⟨rfl, o3, hk⟩
   clear g
   replace O3 := Lib.hid o3
   replace O4 := Lib.hid (O4.out.kept hk d4_3)
   replace HR := Lib.hid (HR.out.kept hk b3)
   replace HK := Lib.hid (HK.out.trans (hk.mono (fun x h => by simp [h])))
   replace HS : Hid (Kept w6 w6 [b]) := Lib.hid (Kept.refl _ _)
   clear o3 hk
   replace HK := Lib.hid (HK.out.trans (HS.out.mono (fun x h => by simp only [List.mem_singleton] at h; simp [h])))
   replace O3 := Lib.hid (O3.out.kept HS.out e3)
   replace O4 := Lib.hid (O4.out.kept HS.out e4)
   have g := (HR.out.cells HP.out) 4 _ rfl
   go_wp2_with fail
   refine (markMethodEntryS_c x.fEntries _ _ _ _ O4.out n4 (by omega) (by omega)).mono ?_
   rintro e w7 ⟨rfl, o4, hk⟩
   clear g
   replace O4 := Lib.hid o4
   replace O3 := Lib.hid (O3.out.kept hk d3_4)
   replace HR := Lib.hid (HR.out.kept hk b4)
   replace HK := Lib.hid (HK.out.trans (hk.mono (fun x h => by simp [h])))
   replace HS : Hid (Kept w7 w7 [b]) := Lib.hid (Kept.refl _ _)
   clear o4 hk
   replace HK := Lib.hid (HK.out.trans (HS.out.mono (fun x h => by simp only [List.mem_singleton] at h; simp [h])))
   replace O3 := Lib.hid (O3.out.kept HS.out e3)
   replace O4 := Lib.hid (O4.out.kept HS.out e4)
   have OF := Lib.hid (HB.out _ _ HR.out rfl HK.out (TMethodTable.mk_flat hc0 (by rw [TMethodTable.cnt_flat]; omega) O3.out O4.out))
   have KF := Lib.hid (Hk.out.trans (HK.out.mono (fun x h => sub_mid HD.out h)))
   rw [← HD.out] at OF
   clear HB HR HK HS HD HP Hk O3 O4
   go_wp2
   go_roundw
   case rel => exact ⟨n + 1, _, hlt, by go_num, rfl, by omega, Lib.hid ⟨by have := HN.out; omega, OF.out⟩, KF⟩
   case measure => simp [intOf]; omega
  ·obtain rfl : n = l.length := by omega
   have HE := Lib.hid (mark_end Hs.out.1 Hs.out.2)
   go_wp2
   go_ret
   exact ⟨ret_int HE.out.1, HE.out.2, Hk.out⟩
set_option maxRecDepth 100000 in
set_option maxHeartbeats 1000000 in
theorem markSpecializationS_c (l : List TSpecialization) : ∀ (w : World) (k : Int) (v : Value) (bs : List Nat) (_ : Own w (.sl (l.map TSpecialization.enc)) [v] bs) (_ : bs.Nodup) (_ : 0 ≤ k) (_ : k + (cnts (l.map TSpecialization.enc) : Nat) ≤ 4611686018427387904),
  Calls Tryz.prog 45 #[v, .int .i64 k] w fun e w' => e = .returned (.int .i64 (k + (cnts (l.map TSpecialization.enc) : Nat))) ∧ Own w' (.sl (mks k (l.map TSpecialization.enc))) [v] bs ∧ Kept w w' bs := by
 intro w k v bs h nd h0 hlim
 obtain ⟨a, cap, rfl, hcp, hm⟩ := own_valT h
 unfold maxLen at hm
 have H := Lib.hid (mark_start (k := k) h)
 clear h
 have Hlim := Lib.hid hlim
 have Hnd := Lib.hid nd
 clear nd hlim
 go_enter Tryz.func45, Tryz.ntmps45
 go_wp2
 go_loopw [5, 1] (fun i kk wr => ∃ (n : Nat) (c : Int), n ≤ l.length ∧ i = .int .i64 n ∧ kk = .int .i64 c ∧ 0 ≤ c ∧ Hid (c = k + (cnts ((l.map TSpecialization.enc).take n) : Nat) ∧ Own wr (.sl (mks k ((l.map TSpecialization.enc).take n) ++ (l.map TSpecialization.enc).drop n)) [.slice a l.length cap] bs) ∧ Hid (Kept w wr bs)) (fun i _ _ => l.length - (intOf i).toNat)
 case atStart => exact ⟨0, k, Nat.zero_le _, rfl, rfl, h0, H, Lib.hid (Kept.refl _ _)⟩
 case round =>
  clear H
  obtain ⟨n, c, hn, rfl, rfl, hc0, Hs, Hk⟩ := hrel
  by_cases hlt : n < l.length
  ·obtain ⟨b, off, t, rA, rd, rB, pre, cs, post, rfl, hbs, hr, hp, -, ho, hb, hd, hM, hN, hback⟩ := mark_at TSpecialization.width (by decide) hlt Hs.out.1 Hlim.out Hs.out.2 Hnd.out
   have HB := Lib.hid hback
   clear hback Hs Hlim Hnd
   generalize l[n] = x at *
   rw [TSpecialization.cnt_flat] at hM hN
   obtain ⟨c1, c2, c9, c10, c11, c12, c13, r1, r2, r9, r10, r11, r12, r13, rfl, rfl, o1, o2, o9, o10, o11, o12, o13⟩ := TSpecialization.own_flat ho
   obtain ⟨n1, hd, y1⟩ := nd2 hd
   have d1_2 : ∀ x ∈ r1, x ∉ r2 := fun x h1 h2 => y1 x h1 (by simp [h2])
   have d2_1 : ∀ x ∈ r2, x ∉ r1 := fun x h1 h2 => y1 x h2 (by simp [h1])
   have d1_9 : ∀ x ∈ r1, x ∉ r9 := fun x h1 h2 => y1 x h1 (by simp [h2])
   have d9_1 : ∀ x ∈ r9, x ∉ r1 := fun x h1 h2 => y1 x h2 (by simp [h1])
   have d1_10 : ∀ x ∈ r1, x ∉ r10 := fun x h1 h2 => y1 x h1 (by simp [h2])
   have d10_1 : ∀ x ∈ r10, x ∉ r1 := fun x h1 h2 => y1 x h2 (by simp [h1])
   have d1_11 : ∀ x ∈ r1, x ∉ r11 := fun x h1 h2 => y1 x h1 (by simp [h2])
   have d11_1 : ∀ x ∈ r11, x ∉ r1 := fun x h1 h2 => y1 x h2 (by simp [h1])
   have d1_12 : ∀ x ∈ r1, x ∉ r12 := fun x h1 h2 => y1 x h1 (by simp [h2])
   have d12_1 : ∀ x ∈ r12, x ∉ r1 := fun x h1 h2 => y1 x h2 (by simp [h1])
   have d1_13 : ∀ x ∈ r1, x ∉ r13 := fun x h1 h2 => y1 x h1 (by simp [h2])
   have d13_1 : ∀ x ∈ r13, x ∉ r1 := fun x h1 h2 => y1 x h2 (by simp [h1])
   obtain ⟨n2, hd, y2⟩ := nd2 hd
   have d2_9 : ∀ x ∈ r2, x ∉ r9 := fun x h1 h2 => y2 x h1 (by simp [h2])
   have d9_2 : ∀ x ∈ r9, x ∉ r2 := fun x h1 h2 => y2 x h2 (by simp [h1])
   have d2_10 : ∀ x ∈ r2, x ∉ r10 := fun x h1 h2 => y2 x h1 (by simp [h2])
   have d10_2 : ∀ x ∈ r10, x ∉ r2 := fun x h1 h2 => y2 x h2 (by simp [h1])
   have d2_11 : ∀ x ∈ r2, x ∉ r11 := fun x h1 h2 => y2 x h1 (by simp [h2])
   have d11_2 : ∀ x ∈ r11, x ∉ r2 := fun x h1 h2 => y2 x h2 (by simp [h1])
   have d2_12 : ∀ x ∈ r2, x ∉ r12 := fun x h1 h2 => y2 x h1 (by simp [h2])
   have d12_2 : ∀ x ∈ r12, x ∉ r2 := fun x h1 h2 => y2 x h2 (by simp [h1])
   have d2_13 : ∀ x ∈ r2, x ∉ r13 := fun x h1 h2 => y2 x h1 (by simp [h2])
   have d13_2 : ∀ x ∈ r13, x ∉ r2 := fun x h1 h2 => y2 x h2 (by simp [h1])
   obtain ⟨n9, hd, y9⟩ := nd2 hd
   have d9_10 : ∀ x ∈ r9, x ∉ r10 := fun x h1 h2 => y9 x h1 (by simp [h2])
   have d10_9 : ∀ x ∈ r10, x ∉ r9 := fun x h1 h2 => y9 x h2 (by simp [h1])
   have d9_11 : ∀ x ∈ r9, x ∉ r11 := fun x h1 h2 => y9 x h1 (by simp [h2])
   have d11_9 : ∀ x ∈ r11, x ∉ r9 := fun x h1 h2 => y9 x h2 (by simp [h1])
   have d9_12 : ∀ x ∈ r9, x ∉ r12 := fun x h1 h2 => y9 x h1 (by simp [h2])
   have d12_9 : ∀ x ∈ r12, x ∉ r9 := fun x h1 h2 => y9 x h2 (by simp [h1])
   have d9_13 : ∀ x ∈ r9, x ∉ r13 := fun x h1 h2 => y9 x h1 (by simp [h2])
   have d13_9 : ∀ x ∈ r13, x ∉ r9 := fun x h1 h2 => y9 x h2 (by simp [h1])
   obtain ⟨n10, hd, y10⟩ := nd2 hd
   have d10_11 : ∀ x ∈ r10, x ∉ r11 := fun x h1 h2 => y10 x h1 (by simp [h2])
   have d11_10 : ∀ x ∈ r11, x ∉ r10 := fun x h1 h2 => y10 x h2 (by simp [h1])
   have d10_12 : ∀ x ∈ r10, x ∉ r12 := fun x h1 h2 => y10 x h1 (by simp [h2])
   have d12_10 : ∀ x ∈ r12, x ∉ r10 := fun x h1 h2 => y10 x h2 (by simp [h1])
   have d10_13 : ∀ x ∈ r10, x ∉ r13 := fun x h1 h2 => y10 x h1 (by simp [h2])
   have d13_10 : ∀ x ∈ r13, x ∉ r10 := fun x h1 h2 => y10 x h2 (by simp [h1])
   obtain ⟨n11, hd, y11⟩ := nd2 hd
   have d11_12 : ∀ x ∈ r11, x ∉ r12 := fun x h1 h2 => y11 x h1 (by simp [h2])
   have d12_11 : ∀ x ∈ r12, x ∉ r11 := fun x h1 h2 => y11 x h2 (by simp [h1])
   have d11_13 : ∀ x ∈ r11, x ∉ r13 := fun x h1 h2 => y11 x h1 (by simp [h2])
   have d13_11 : ∀ x ∈ r13, x ∉ r11 := fun x h1 h2 => y11 x h2 (by simp [h1])
   obtain ⟨n12, hd, y12⟩ := nd2 hd
   have d12_13 : ∀ x ∈ r12, x ∉ r13 := fun x h1 h2 => y12 x h1 (by simp [h2])
   have d13_12 : ∀ x ∈ r13, x ∉ r12 := fun x h1 h2 => y12 x h2 (by simp [h1])
   obtain ⟨n13, hd, y13⟩ := nd2 hd
   have b1 : b ∉ r1 := fun q => hb (by simp [q])
   have e1 : ∀ x ∈ r1, x ∉ [b] := fun x h1 h2 => b1 (by simp only [List.mem_singleton] at h2; exact h2 ▸ h1)
   have b2 : b ∉ r2 := fun q => hb (by simp [q])
   have e2 : ∀ x ∈ r2, x ∉ [b] := fun x h1 h2 => b2 (by simp only [List.mem_singleton] at h2; exact h2 ▸ h1)
   have b9 : b ∉ r9 := fun q => hb (by simp [q])
   have e9 : ∀ x ∈ r9, x ∉ [b] := fun x h1 h2 => b9 (by simp only [List.mem_singleton] at h2; exact h2 ▸ h1)
   have b10 : b ∉ r10 := fun q => hb (by simp [q])
   have e10 : ∀ x ∈ r10, x ∉ [b] := fun x h1 h2 => b10 (by simp only [List.mem_singleton] at h2; exact h2 ▸ h1)
   have b11 : b ∉ r11 := fun q => hb (by simp [q])
   have e11 : ∀ x ∈ r11, x ∉ [b] := fun x h1 h2 => b11 (by simp only [List.mem_singleton] at h2; exact h2 ▸ h1)
   have b12 : b ∉ r12 := fun q => hb (by simp [q])
   have e12 : ∀ x ∈ r12, x ∉ [b] := fun x h1 h2 => b12 (by simp only [List.mem_singleton] at h2; exact h2 ▸ h1)
   have b13 : b ∉ r13 := fun q => hb (by simp [q])
   have e13 : ∀ x ∈ r13, x ∉ [b] := fun x h1 h2 => b13 (by simp only [List.mem_singleton] at h2; exact h2 ▸ h1)
   have O1 := Lib.hid o1
   have O2 := Lib.hid o2
   have O9 := Lib.hid o9
   have O10 := Lib.hid o10
   have O11 := Lib.hid o11
   have O12 := Lib.hid o12
   have O13 := Lib.hid o13
   have HR := Lib.hid hr; have HP := Lib.hid hp; have HN := Lib.hid hN; have HD := Lib.hid hbs
   have HK : Hid (Kept wr wr (b :: (r1 ++ (r2 ++ (r9 ++ (r10 ++ (r11 ++ (r12 ++ (r13 ++ ([])))))))))) := Lib.hid (Kept.refl _ _)
   have HS : Hid (Kept wr wr [b]) := Lib.hid (Kept.refl _ _)
   clear hr hp hN hbs ho hd hb o1 o2 o9 o10 o11 o12 o13 y1 y2 y9 y10 y11 y12 y13
   go_wp2_with (with_reducible refine stW rfl 3 _ _ rfl b (off + n * 14) rfl (.int .i64 (c)) rfl infoM3 rfl HR.out 0 (by have := HP.out; omega) (by simp) ?_)
   intro w1 hr hw
   replace HR := Lib.hid hr
   replace HS := Lib.hid (HS.out.trans (hw.kept (by simp)))
   clear hr hw
   replace HK := Lib.hid (HK.out.trans (HS.out.mono (fun x h => by simp only [List.mem_singleton] at h; simp [h])))
   replace O1 := Lib.hid (O1.out.kept HS.out e1)
   replace O2 := Lib.hid (O2.out.kept HS.out e2)
   replace O9 := Lib.hid (O9.out.kept HS.out e9)
   replace O10 := Lib.hid (O10.out.kept HS.out e10)
   replace O11 := Lib.hid (O11.out.kept HS.out e11)
   replace O12 := Lib.hid (O12.out.kept HS.out e12)
   replace O13 := Lib.hid (O13.out.kept HS.out e13)
   have g := (HR.out.cells HP.out) 1 _ rfl
   go_wp2_with fail
   refine (markTypeS_c x.fTypeArgs _ _ _ _ O1.out n1 (by omega) (by omega)).mono ?_
   rintro e w2 ⟨rfl, o1, hk⟩
   clear g
   replace O1 := Lib.hid o1
   replace O2 := Lib.hid (O2.out.kept hk d2_1)
   replace O9 := Lib.hid (O9.out.kept hk d9_1)
   replace O10 := Lib.hid (O10.out.kept hk d10_1)
   replace O11 := Lib.hid (O11.out.kept hk d11_1)
   replace O12 := Lib.hid (O12.out.kept hk d12_1)
   replace O13 := Lib.hid (O13.out.kept hk d13_1)
   replace HR := Lib.hid (HR.out.kept hk b1)
   replace HK := Lib.hid (HK.out.trans (hk.mono (fun x h => by simp [h])))
   replace HS : Hid (Kept w2 w2 [b]) := Lib.hid (Kept.refl _ _)
   clear o1 hk
   replace HK := Lib.hid (HK.out.trans (HS.out.mono (fun x h => by simp only [List.mem_singleton] at h; simp [h])))
   replace O1 := Lib.hid (O1.out.kept HS.out e1)
   replace O2 := Lib.hid (O2.out.kept HS.out e2)
   replace O9 := Lib.hid (O9.out.kept HS.out e9)
   replace O10 := Lib.hid (O10.out.kept HS.out e10)
   replace O11 := Lib.hid (O11.out.kept HS.out e11)
   replace O12 := Lib.hid (O12.out.kept HS.out e12)
   replace O13 := Lib.hid (O13.out.kept HS.out e13)
   have g := (HR.out.cells HP.out) 2 _ rfl
   go_wp2_with fail
   refine (markStringS_c x.fParams _ _ _ _ O2.out n2 (by omega) (by omega)).mono ?_
   rintro e w3 ⟨rfl, o2, hk⟩
   clear g
   replace O2 := Lib.hid o2
   replace O1 := Lib.hid (O1.out.kept hk d1_2)
   replace O9 := Lib.hid (O9.out.kept hk d9_2)
   replace O10 := Lib.hid (O10.out.kept hk d10_2)
   replace O11 := Lib.hid (O11.out.kept hk d11_2)
   replace O12 := Lib.hid (O12.out.kept hk d12_2)
   replace O13 := Lib.hid (O13.out.kept hk d13_2)
   replace HR := Lib.hid (HR.out.kept hk b2)
   replace HK := Lib.hid (HK.out.trans (hk.mono (fun x h => by simp [h])))
   replace HS : Hid (Kept w3 w3 [b]) := Lib.hid (Kept.refl _ _)
   clear o2 hk
   go_wp2_with (with_reducible refine stW rfl 3 _ _ rfl b (off + n * 14 + 3) rfl (.int .i64 (c + 1 + (cnts (x.fTypeArgs.map TType.enc) : Nat) + (cnts (x.fParams.map encS) : Nat))) rfl infoM3 rfl HR.out 3 (by have := HP.out; omega) (by simp) ?_)
   intro w4 hr hw
   replace HR := Lib.hid hr
   replace HS := Lib.hid (HS.out.trans (hw.kept (by simp)))
   clear hr hw
   go_wp2_with fail
   refine (markText_c _ (by omega) _).mono ?_
   rintro e w5 ⟨rfl, hB5⟩
   replace HR := Lib.hid (HR.out.kept (Kept.of_below hB5 []) (by simp))
   replace HS := Lib.hid (HS.out.trans (Kept.of_below hB5 _))
   clear hB5
   go_wp2_with (with_reducible refine stW rfl 9 _ _ rfl b (off + n * 14 + 4) rfl (.string (mtext (c + 1 + (cnts (x.fTypeArgs.map TType.enc) : Nat) + (cnts (x.fParams.map encS) : Nat) + 1))) rfl infoM9 rfl HR.out 4 (by have := HP.out; omega) (by simp) ?_)
   intro w6 hr hw
   replace HR := Lib.hid hr
   replace HS := Lib.hid (HS.out.trans (hw.kept (by simp)))
   clear hr hw
   go_wp2_with fail
   refine (markText_c _ (by omega) _).mono ?_
   rintro e w7 ⟨rfl, hB7⟩
   replace HR := Lib.hid (HR.out.kept (Kept.of_below hB7 []) (by simp))
   replace HS := Lib.hid (HS.out.trans (Kept.of_below hB7 _))
   clear hB7
   go_wp2_with (with_reducible refine stW rfl 9 _ _ rfl b (off + n * 14 + 5) rfl (.string (mtext (c + 1 + (cnts (x.fTypeArgs.map TType.enc) : Nat) + (cnts (x.fParams.map encS) : Nat) + 1 + 1))) rfl infoM9 rfl HR.out 5 (by have := HP.out; omega) (by simp) ?_)
   intro w8 hr hw
   replace HR := Lib.hid hr
   replace HS := Lib.hid (HS.out.trans (hw.kept (by simp)))
   clear hr hw
   go_wp2_with (with_reducible refine stW rfl 3 _ _ rfl b (off + n * 14 + 6) rfl (.int .i64 (c + 1 + (cnts (x.fTypeArgs.map TType.enc) : Nat) + (cnts (x.fParams.map encS) : Nat) + 1 + 1 + 1)) rfl infoM3 rfl HR.out 6 (by have := HP.out; omega) (by simp) ?_)
   intro w9 hr hw
   replace HR := Lib.hid hr
   replace HS := Lib.hid (HS.out.trans (hw.kept (by simp)))
   clear hr hw
   go_wp2_with (with_reducible refine stW rfl 3 _ _ rfl b (off + n * 14 + 7) rfl (.int .i64 (c + 1 + (cnts (x.fTypeArgs.map TType.enc) : Nat) + (cnts (x.fParams.map encS) : Nat) + 1 + 1 + 1 + 1)) rfl infoM3 rfl HR.out 7 (by have := HP.out; omega) (by simp) ?_)
   intro w10 hr hw
   replace HR := Lib.hid hr
   replace HS := Lib.hid (HS.out.trans (hw.kept (by simp)))
   clear hr hw
   go_wp2_with fail
   refine (markText_c _ (by omega) _).mono ?_
   rintro e w11 ⟨rfl, hB11⟩
   replace HR := Lib.hid (HR.out.kept (Kept.of_below hB11 []) (by simp))
   replace HS := Lib.hid (HS.out.trans (Kept.of_below hB11 _))
   clear hB11
   go_wp2_with (with_reducible refine stW rfl 9 _ _ rfl b (off + n * 14 + 8) rfl (.string (mtext (c + 1 + (cnts (x.fTypeArgs.map TType.enc) : Nat) + (cnts (x.fParams.map encS) : Nat) + 1 + 1 + 1 + 1 + 1))) rfl infoM9 rfl HR.out 8 (by have := HP.out; omega) (by simp) ?_)
   intro w12 hr hw
   replace HR := Lib.hid hr
   replace HS := Lib.hid (HS.out.trans (hw.kept (by simp)))
   clear hr hw
   replace HK := Lib.hid (HK.out.trans (HS.out.mono (fun x h => by simp only [List.mem_singleton] at h; simp [h])))
   replace O1 := Lib.hid (O1.out.kept HS.out e1)
   replace O2 := Lib.hid (O2.out.kept HS.out e2)
   replace O9 := Lib.hid (O9.out.kept HS.out e9)
   replace O10 := Lib.hid (O10.out.kept HS.out e10)
   replace O11 := Lib.hid (O11.out.kept HS.out e11)
   replace O12 := Lib.hid (O12.out.kept HS.out e12)
   replace O13 := Lib.hid (O13.out.kept HS.out e13)
   have g := (HR.out.cells HP.out) 9 _ rfl
   go_wp2_with fail
   refine (markTypeS_c x.fBody.fType.fArgs _ _ _ _ O9.out n9 (by omega) (by omega)).mono ?_
   rintro e w13 ⟨rfl, o9, hk⟩
   clear g
   replace O9 := Lib.hid o9
   replace O1 := Lib.hid (O1.out.kept hk d1_9)
   replace O2 := Lib.hid (O2.out.kept hk d2_9)
   replace O10 := Lib.hid (O10.out.kept hk d10_9)
   replace O11 := Lib.hid (O11.out.kept hk d11_9)
   replace O12 := Lib.hid (O12.out.kept hk d12_9)
   replace O13 := Lib.hid (O13.out.kept hk d13_9)
   replace HR := Lib.hid (HR.out.kept hk b9)
   replace HK := Lib.hid (HK.out.trans (hk.mono (fun x h => by simp [h])))
   replace HS : Hid (Kept w13 w13 [b]) := Lib.hid (Kept.refl _ _)
   clear o9 hk
   replace HK := Lib.hid (HK.out.trans (HS.out.mono (fun x h => by simp only [List.mem_singleton] at h; simp [h])))
   replace O1 := Lib.hid (O1.out.kept HS.out e1)
   replace O2 := Lib.hid (O2.out.kept HS.out e2)
   replace O9 := Lib.hid (O9.out.kept HS.out e9)
   replace O10 := Lib.hid (O10.out.kept HS.out e10)
   replace O11 := Lib.hid (O11.out.kept HS.out e11)
   replace O12 := Lib.hid (O12.out.kept HS.out e12)
   replace O13 := Lib.hid (O13.out.kept HS.out e13)
   have g := (HR.out.cells HP.out) 10 _ rfl
   go_wp2_with fail
   refine (markTypeS_c x.fBody.fTypeArgs _ _ _ _ O10.out n10 (by omega) (by omega)).mono ?_
   rintro e w14 ⟨rfl, o10, hk⟩
   clear g
   replace O10 := Lib.hid o10
   replace O1 := Lib.hid (O1.out.kept hk d1_10)
   replace O2 := Lib.hid (O2.out.kept hk d2_10)
   replace O9 := Lib.hid (O9.out.kept hk d9_10)
   replace O11 := Lib.hid (O11.out.kept hk d11_10)
   replace O12 := Lib.hid (O12.out.kept hk d12_10)
   replace O13 := Lib.hid (O13.out.kept hk d13_10)
   replace HR := Lib.hid (HR.out.kept hk b10)
   replace HK := Lib.hid (HK.out.trans (hk.mono (fun x h => by simp [h])))
   replace HS : Hid (Kept w14 w14 [b]) := Lib.hid (Kept.refl _ _)
   clear o10 hk
   replace HK := Lib.hid (HK.out.trans (HS.out.mono (fun x h => by simp only [List.mem_singleton] at h; simp [h])))
   replace O1 := Lib.hid (O1.out.kept HS.out e1)
   replace O2 := Lib.hid (O2.out.kept HS.out e2)
   replace O9 := Lib.hid (O9.out.kept HS.out e9)
   replace O10 := Lib.hid (O10.out.kept HS.out e10)
   replace O11 := Lib.hid (O11.out.kept HS.out e11)
   replace O12 := Lib.hid (O12.out.kept HS.out e12)
   replace O13 := Lib.hid (O13.out.kept HS.out e13)
   have g := (HR.out.cells HP.out) 11 _ rfl
   go_wp2_with fail
   refine (markEvidenceS_c x.fBody.fEvidence _ _ _ _ O11.out n11 (by omega) (by omega)).mono ?_
   rintro e w15 ⟨rfl, o11, hk⟩
   clear g
   replace O11 := Lib.hid o11
   replace O1 := Lib.hid (O1.out.kept hk d1_11)
   replace O2 := Lib.hid (O2.out.kept hk d2_11)
   replace O9 := Lib.hid (O9.out.kept hk d9_11)
   replace O10 := Lib.hid (O10.out.kept hk d10_11)
   replace O12 := Lib.hid (O12.out.kept hk d12_11)
   replace O13 := Lib.hid (O13.out.kept hk d13_11)
   replace HR := Lib.hid (HR.out.kept hk b11)
   replace HK := Lib.hid (HK.out.trans (hk.mono (fun x h => by simp [h])))
   replace HS : Hid (Kept w15 w15 [b]) := Lib.hid (Kept.refl _ _)
   clear o11 hk
   replace HK := Lib.hid (HK.out.trans (HS.out.mono (fun x h => by simp only [List.mem_singleton] at h; simp [h])))
   replace O1 := Lib.hid (O1.out.kept HS.out e1)
   replace O2 := Lib.hid (O2.out.kept HS.out e2)
   replace O9 := Lib.hid (O9.out.kept HS.out e9)
   replace O10 := Lib.hid (O10.out.kept HS.out e10)
   replace O11 := Lib.hid (O11.out.kept HS.out e11)
   replace O12 := Lib.hid (O12.out.kept HS.out e12)
   replace O13 := Lib.hid (O13.out.kept HS.out e13)
   have g := (HR.out.cells HP.out) 12 _ rfl
   go_wp2_with fail
   refine (markCoreS_c x.fBody.fArgs _ _ _ _ O12.out n12 (by omega) (by omega)).mono ?_
   rintro e w16 ⟨rfl, o12, hk⟩
   clear g
   replace O12 := Lib.hid o12
   replace O1 := Lib.hid (O1.out.kept hk d1_12)
   replace O2 := Lib.hid (O2.out.kept hk d2_12)
   replace O9 := Lib.hid (O9.out.kept hk d9_12)
   replace O10 := Lib.hid (O10.out.kept hk d10_12)
   replace O11 := Lib.hid (O11.out.kept hk d11_12)
   replace O13 := Lib.hid (O13.out.kept hk d13_12)
   replace HR := Lib.hid (HR.out.kept hk b12)
   replace HK := Lib.hid (HK.out.trans (hk.mono (fun x h => by simp [h])))
   replace HS : Hid (Kept w16 w16 [b]) := Lib.hid (Kept.refl _ _)
   clear o12 hk
   replace HK := Lib.hid (HK.out.trans (HS.out.mono (fun x h => by simp only [List.mem_singleton] at h; simp [h])))
   replace O1 := Lib.hid (O1.out.kept HS.out e1)
   replace O2 := Lib.hid (O2.out.kept HS.out e2)
   replace O9 := Lib.hid (O9.out.kept HS.out e9)
   replace O10 := Lib.hid (O10.out.kept HS.out e10)
   replace O11 := Lib.hid (O11.out.kept HS.out e11)
   replace O12 := Lib.hid (O12.out.kept HS.out e12)
   replace O13 := Lib.hid (O13.out.kept HS.out e13)
   have g := (HR.out.cells HP.out) 13 _ rfl
   go_wp2_with fail
   refine (markCoreArmS_c x.fBody.fArms _ _ _ _ O13.out n13 (by omega) (by omega)).mono ?_
   rintro e w17 ⟨rfl, o13, hk⟩
   clear g
   replace O13 := Lib.hid o13
   replace O1 := Lib.hid (O1.out.kept hk d1_13)
   replace O2 := Lib.hid (O2.out.kept hk d2_13)
   replace O9 := Lib.hid (O9.out.kept hk d9_13)
   replace O10 := Lib.hid (O10.out.kept hk d10_13)
   replace O11 := Lib.hid (O11.out.kept hk d11_13)
   replace O12 := Lib.hid (O12.out.kept hk d12_13)
   replace HR := Lib.hid (HR.out.kept hk b13)
   replace HK := Lib.hid (HK.out.trans (hk.mono (fun x h => by simp [h])))
   replace HS : Hid (Kept w17 w17 [b]) := Lib.hid (Kept.refl _ _)
   clear o13 hk
   replace HK := Lib.hid (HK.out.trans (HS.out.mono (fun x h => by simp only [List.mem_singleton] at h; simp [h])))
   replace O1 := Lib.hid (O1.out.kept HS.out e1)
   replace O2 := Lib.hid (O2.out.kept HS.out e2)
   replace O9 := Lib.hid (O9.out.kept HS.out e9)
   replace O10 := Lib.hid (O10.out.kept HS.out e10)
   replace O11 := Lib.hid (O11.out.kept HS.out e11)
   replace O12 := Lib.hid (O12.out.kept HS.out e12)
   replace O13 := Lib.hid (O13.out.kept HS.out e13)
   have OF := Lib.hid (HB.out _ _ HR.out rfl HK.out (TSpecialization.mk_flat hc0 (by rw [TSpecialization.cnt_flat]; omega) O1.out O2.out O9.out O10.out O11.out O12.out O13.out))
   have KF := Lib.hid (Hk.out.trans (HK.out.mono (fun x h => sub_mid HD.out h)))
   rw [← HD.out] at OF
   clear HB HR HK HS HD HP Hk O1 O2 O9 O10 O11 O12 O13
   go_wp2
   go_roundw
   case rel => exact ⟨n + 1, _, hlt, by go_num, rfl, by omega, Lib.hid ⟨by have := HN.out; omega, OF.out⟩, KF⟩
   case measure => simp [intOf]; omega
  ·obtain rfl : n = l.length := by omega
   have HE := Lib.hid (mark_end Hs.out.1 Hs.out.2)
   go_wp2
   go_ret
   exact ⟨ret_int HE.out.1, HE.out.2, Hk.out⟩
set_option maxRecDepth 100000 in
set_option maxHeartbeats 1000000 in
theorem markMachine_c (x : TMachine) : ∀ (w : World) (k : Int) (cs : List Value) (bs : List Nat) (_ : Own w x.enc cs bs) (_ : bs.Nodup) (_ : 0 ≤ k) (_ : k + (tcnt x.enc : Nat) ≤ 4611686018427387904),
  Calls Tryz.prog 13 #[.agg cs.toArray, .int .i64 k] w fun e w' => e = .returned (.int .i64 (k + (tcnt x.enc : Nat))) ∧ Own w' (tmk k x.enc) cs bs ∧ Kept w w' bs := by
 intro w k cs bs h nd h0 hlim
 rw [TMachine.tcnt_eq] at hlim ⊢
 obtain ⟨c0, c1, r0, r1, rfl, rfl, o0, o1⟩ := TMachine.own_open h
 clear h
 obtain ⟨n0, nd, y0⟩ := nd2 nd
 have d0_1 : ∀ x ∈ r0, x ∉ r1 := fun x h1 h2 => y0 x h1 (by simp [h2])
 have d1_0 : ∀ x ∈ r1, x ∉ r0 := fun x h1 h2 => y0 x h2 (by simp [h1])
 obtain ⟨n1, nd, y1⟩ := nd2 nd
 have hW : Below w.heap.size w (w.alloc (.cells #[c0, c1] 30)) := (Below.refl _ _).alloc (Nat.le_refl _) _
 have HK : Hid (Kept w (w.alloc (.cells #[c0, c1] 30)) (r0 ++ (r1 ++ ([])))) := Lib.hid (Kept.of_below hW _)
 have HC : Hid (∀ j, (w.alloc (.cells #[c0, c1] 30)).cell? ⟨w.heap.size, j, none⟩ = #[c0, c1][j]?) := Lib.hid (fun j => row_cell (alloc_at rfl) j)
 have l0 : Hid (w.heap.size ∉ r0) := Lib.hid (fun q => absurd (Own.lt _ _ _ o0 _ q) (Nat.lt_irrefl _))
 have O0 := Lib.hid (o0.kept (Kept.of_below hW []) (by simp))
 have l1 : Hid (w.heap.size ∉ r1) := Lib.hid (fun q => absurd (Own.lt _ _ _ o1 _ q) (Nat.lt_irrefl _))
 have O1 := Lib.hid (o1.kept (Kept.of_below hW []) (by simp))
 have HL : Hid (w.heap.size < (w.alloc (.cells #[c0, c1] 30)).heap.size) := Lib.hid (by simp)
 clear o0 o1 y0 y1 nd
 go_enter Tryz.func13, Tryz.ntmps13
 go_wp2_with fail
 refine (markCodeS_c x.fCodes _ _ _ _ O0.out n0 (by omega) (by omega)).mono ?_
 rintro e w1 ⟨rfl, o0, hk⟩
 replace HC : Hid (∀ j, w1.cell? ⟨w.heap.size, j, none⟩ = #[c0, c1][j]?) := Lib.hid (fun j => (World.cell?_of_block (a := ⟨w.heap.size, j, none⟩) (hk.other _ HL.out l0.out)).trans (HC.out j))
 replace HL : Hid (w.heap.size < w1.heap.size) := Lib.hid (Nat.lt_of_lt_of_le HL.out hk.size)
 replace HK := Lib.hid (HK.out.trans (hk.mono (fun x h => by simp [h])))
 replace O0 := Lib.hid o0
 replace O1 := Lib.hid (O1.out.kept hk d1_0)
 clear o0 hk
 have g1 : w1.cell? ⟨w.heap.size, 1, none⟩ = some c1 := HC.out 1
 go_wp2_with fail
 refine (markMethodTableS_c x.fTables _ _ _ _ O1.out n1 (by omega) (by omega)).mono ?_
 rintro e w2 ⟨rfl, o1, hk⟩
 replace HC : Hid (∀ j, w2.cell? ⟨w.heap.size, j, none⟩ = #[c0, c1][j]?) := Lib.hid (fun j => (World.cell?_of_block (a := ⟨w.heap.size, j, none⟩) (hk.other _ HL.out l1.out)).trans (HC.out j))
 replace HL : Hid (w.heap.size < w2.heap.size) := Lib.hid (Nat.lt_of_lt_of_le HL.out hk.size)
 replace HK := Lib.hid (HK.out.trans (hk.mono (fun x h => by simp [h])))
 replace O1 := Lib.hid o1
 replace O0 := Lib.hid (O0.out.kept hk d0_1)
 clear o1 hk
 go_wp2
 go_ret
 exact ⟨ret_int (by omega), TMachine.tmk_own O0.out O1.out, HK.out⟩
set_option maxRecDepth 100000 in
set_option maxHeartbeats 1000000 in
theorem markMonoProgram_c (x : TMonoProgram) : ∀ (w : World) (k : Int) (cs : List Value) (bs : List Nat) (_ : Own w x.enc cs bs) (_ : bs.Nodup) (_ : 0 ≤ k) (_ : k + (tcnt x.enc : Nat) ≤ 4611686018427387904),
  Calls Tryz.prog 12 #[.agg cs.toArray, .int .i64 k] w fun e w' => e = .returned (.int .i64 (k + (tcnt x.enc : Nat))) ∧ Own w' (tmk k x.enc) cs bs ∧ Kept w w' bs := by
 intro w k cs bs h nd h0 hlim
 rw [TMonoProgram.tcnt_eq] at hlim ⊢
 obtain ⟨c0, c1, r0, r1, rfl, rfl, o0, o1⟩ := TMonoProgram.own_open h
 clear h
 obtain ⟨n0, nd, y0⟩ := nd2 nd
 have d0_1 : ∀ x ∈ r0, x ∉ r1 := fun x h1 h2 => y0 x h1 (by simp [h2])
 have d1_0 : ∀ x ∈ r1, x ∉ r0 := fun x h1 h2 => y0 x h2 (by simp [h1])
 obtain ⟨n1, nd, y1⟩ := nd2 nd
 have hW : Below w.heap.size w (w.alloc (.cells #[c0, c1] 35)) := (Below.refl _ _).alloc (Nat.le_refl _) _
 have HK : Hid (Kept w (w.alloc (.cells #[c0, c1] 35)) (r0 ++ (r1 ++ ([])))) := Lib.hid (Kept.of_below hW _)
 have HC : Hid (∀ j, (w.alloc (.cells #[c0, c1] 35)).cell? ⟨w.heap.size, j, none⟩ = #[c0, c1][j]?) := Lib.hid (fun j => row_cell (alloc_at rfl) j)
 have l0 : Hid (w.heap.size ∉ r0) := Lib.hid (fun q => absurd (Own.lt _ _ _ o0 _ q) (Nat.lt_irrefl _))
 have O0 := Lib.hid (o0.kept (Kept.of_below hW []) (by simp))
 have l1 : Hid (w.heap.size ∉ r1) := Lib.hid (fun q => absurd (Own.lt _ _ _ o1 _ q) (Nat.lt_irrefl _))
 have O1 := Lib.hid (o1.kept (Kept.of_below hW []) (by simp))
 have HL : Hid (w.heap.size < (w.alloc (.cells #[c0, c1] 35)).heap.size) := Lib.hid (by simp)
 clear o0 o1 y0 y1 nd
 go_enter Tryz.func12, Tryz.ntmps12
 go_wp2_with fail
 refine (markSpecializationS_c x.fSpecializations _ _ _ _ O0.out n0 (by omega) (by omega)).mono ?_
 rintro e w1 ⟨rfl, o0, hk⟩
 replace HC : Hid (∀ j, w1.cell? ⟨w.heap.size, j, none⟩ = #[c0, c1][j]?) := Lib.hid (fun j => (World.cell?_of_block (a := ⟨w.heap.size, j, none⟩) (hk.other _ HL.out l0.out)).trans (HC.out j))
 replace HL : Hid (w.heap.size < w1.heap.size) := Lib.hid (Nat.lt_of_lt_of_le HL.out hk.size)
 replace HK := Lib.hid (HK.out.trans (hk.mono (fun x h => by simp [h])))
 replace O0 := Lib.hid o0
 replace O1 := Lib.hid (O1.out.kept hk d1_0)
 clear o0 hk
 have g1 : w1.cell? ⟨w.heap.size, 1, none⟩ = some c1 := HC.out 1
 go_wp2_with fail
 refine (markMethodTableS_c x.fTables _ _ _ _ O1.out n1 (by omega) (by omega)).mono ?_
 rintro e w2 ⟨rfl, o1, hk⟩
 replace HC : Hid (∀ j, w2.cell? ⟨w.heap.size, j, none⟩ = #[c0, c1][j]?) := Lib.hid (fun j => (World.cell?_of_block (a := ⟨w.heap.size, j, none⟩) (hk.other _ HL.out l1.out)).trans (HC.out j))
 replace HL : Hid (w.heap.size < w2.heap.size) := Lib.hid (Nat.lt_of_lt_of_le HL.out hk.size)
 replace HK := Lib.hid (HK.out.trans (hk.mono (fun x h => by simp [h])))
 replace O1 := Lib.hid o1
 replace O0 := Lib.hid (O0.out.kept hk d0_1)
 clear o1 hk
 go_wp2
 go_ret
 exact ⟨ret_int (by omega), TMonoProgram.tmk_own O0.out O1.out, HK.out⟩
end Go.Proofs.YtkmiecgcibjkbaaGreat
