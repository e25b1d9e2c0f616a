/- The functions mark; The functions held; Den0: values without memory (with marks of what is owned), and how they lie in a world. No condition but sizes. -/
import Derived.Test.YtdooklofebdknaaGreatM01
import Derived.Test.YtdooklofebdknaaGreatM05
namespace Go.Proofs.YtdooklofebdknaaGreat
open Go.RowKit
theorem infoM3 : (Tryz.prog.info? 3).map (·.size) = some 1 := by kernel_rfl
theorem infoM9 : (Tryz.prog.info? 9).map (·.size) = some 1 := by kernel_rfl
set_option maxRecDepth 100000 in
set_option maxHeartbeats 1000000 in
theorem markStringS_c (l : List ByteArray) : ∀ (w : World) (k : Int) (v : Value) (bs : List Nat) (_ : Own w (.sl (l.map encS)) [v] bs) (_ : bs.Nodup) (_ : 0 ≤ k) (_ : k + (cnts (l.map encS) : Nat) ≤ 4611686018427387904),
  Calls Tryz.prog 73 #[v, .int .i64 k] w fun e w' => e = .returned (.int .i64 (k + (cnts (l.map encS) : Nat))) ∧ Own w' (.sl (mks k (l.map encS))) [v] bs ∧ Kept w w' bs := by
 intro w k v bs h nd h0 hlim
 obtain ⟨a, cap, rfl, hcp, hm⟩ := own_valT h
 unfold maxLen at hm
 have H := Lib.hid (mark_start (k := k) h)
 clear h
 have Hlim := Lib.hid hlim
 have Hnd := Lib.hid nd
 clear nd hlim
 go_enter Tryz.func73, Tryz.ntmps73
 go_wp2
 go_loopw [5, 1] (fun i kk wr => ∃ (n : Nat) (c : Int), n ≤ l.length ∧ i = .int .i64 n ∧ kk = .int .i64 c ∧ 0 ≤ c ∧ Hid (c = k + (cnts ((l.map encS).take n) : Nat) ∧ Own wr (.sl (mks k ((l.map encS).take n) ++ (l.map encS).drop n)) [.slice a l.length cap] bs) ∧ Hid (Kept w wr bs)) (fun i _ _ => l.length - (intOf i).toNat)
 case atStart => exact ⟨0, k, Nat.zero_le _, rfl, rfl, h0, H, Lib.hid (Kept.refl _ _)⟩
 case round =>
  clear H
  obtain ⟨n, c, hn, rfl, rfl, hc0, Hs, Hk⟩ := hrel
  by_cases hlt : n < l.length
  ·obtain ⟨b, off, t, rA, rd, rB, pre, cs, post, rfl, hbs, hr, hp, -, ho, hb, hd, hM, hN, hback⟩ := mark_at encS_w (by decide) hlt Hs.out.1 Hlim.out Hs.out.2 Hnd.out
   have HB := Lib.hid hback
   clear hback Hs Hlim Hnd
   generalize l[n] = x at *
   rw [cntS_flat] at hM hN
   obtain ⟨rfl, rfl⟩ := ownS_flat ho
   have HR := Lib.hid hr; have HP := Lib.hid hp; have HN := Lib.hid hN; have HD := Lib.hid hbs
   have HK : Hid (Kept wr wr (b :: ([]))) := Lib.hid (Kept.refl _ _)
   have HS : Hid (Kept wr wr [b]) := Lib.hid (Kept.refl _ _)
   clear hr hp hN hbs ho hd hb
   go_wp2_with fail
   refine (markText_c _ (by omega) _).mono ?_
   rintro e w1 ⟨rfl, hB1⟩
   replace HR := Lib.hid (HR.out.kept (Kept.of_below hB1 []) (by simp))
   replace HS := Lib.hid (HS.out.trans (Kept.of_below hB1 _))
   clear hB1
   go_wp2_with (with_reducible refine stW rfl 9 _ _ rfl b (off + n) rfl (.string (mtext (c))) rfl infoM9 rfl HR.out 0 (by have := HP.out; omega) (by simp) ?_)
   intro w2 hr hw
   replace HR := Lib.hid hr
   replace HS := Lib.hid (HS.out.trans (hw.kept (by simp)))
   clear hr hw
   replace HK := Lib.hid (HK.out.trans (HS.out.mono (fun x h => by simp only [List.mem_singleton] at h; simp [h])))
   have OF := Lib.hid (HB.out _ _ HR.out rfl HK.out (mkS_flat (by omega)))
   have KF := Lib.hid (Hk.out.trans (HK.out.mono (fun x h => sub_mid HD.out h)))
   rw [← HD.out] at OF
   clear HB HR HK HS HD HP Hk
   go_wp2
   go_roundw
   case rel => exact ⟨n + 1, _, hlt, by go_num, rfl, by omega, Lib.hid ⟨by have := HN.out; omega, OF.out⟩, KF⟩
   case measure => simp [intOf]; omega
  ·obtain rfl : n = l.length := by omega
   have HE := Lib.hid (mark_end Hs.out.1 Hs.out.2)
   go_wp2
   go_ret
   exact ⟨ret_int HE.out.1, HE.out.2, Hk.out⟩
set_option maxRecDepth 100000 in
set_option maxHeartbeats 1000000 in
theorem markFormErrorS_c (l : List TFormError) : ∀ (w : World) (k : Int) (v : Value) (bs : List Nat) (_ : Own w (.sl (l.map TFormError.enc)) [v] bs) (_ : bs.Nodup) (_ : 0 ≤ k) (_ : k + (cnts (l.map TFormError.enc) : Nat) ≤ 4611686018427387904),
  Calls Tryz.prog 12 #[v, .int .i64 k] w fun e w' => e = .returned (.int .i64 (k + (cnts (l.map TFormError.enc) : Nat))) ∧ Own w' (.sl (mks k (l.map TFormError.enc))) [v] bs ∧ Kept w w' bs := by
 intro w k v bs h nd h0 hlim
 obtain ⟨a, cap, rfl, hcp, hm⟩ := own_valT h
 unfold maxLen at hm
 have H := Lib.hid (mark_start (k := k) h)
 clear h
 have Hlim := Lib.hid hlim
 have Hnd := Lib.hid nd
 clear nd hlim
 go_enter Tryz.func12, Tryz.ntmps12
 go_wp2
 go_loopw [5, 1] (fun i kk wr => ∃ (n : Nat) (c : Int), n ≤ l.length ∧ i = .int .i64 n ∧ kk = .int .i64 c ∧ 0 ≤ c ∧ Hid (c = k + (cnts ((l.map TFormError.enc).take n) : Nat) ∧ Own wr (.sl (mks k ((l.map TFormError.enc).take n) ++ (l.map TFormError.enc).drop n)) [.slice a l.length cap] bs) ∧ Hid (Kept w wr bs)) (fun i _ _ => l.length - (intOf i).toNat)
 case atStart => exact ⟨0, k, Nat.zero_le _, rfl, rfl, h0, H, Lib.hid (Kept.refl _ _)⟩
 case round =>
  clear H
  obtain ⟨n, c, hn, rfl, rfl, hc0, Hs, Hk⟩ := hrel
  by_cases hlt : n < l.length
  ·obtain ⟨b, off, t, rA, rd, rB, pre, cs, post, rfl, hbs, hr, hp, -, ho, hb, hd, hM, hN, hback⟩ := mark_at TFormError.width (by decide) hlt Hs.out.1 Hlim.out Hs.out.2 Hnd.out
   have HB := Lib.hid hback
   clear hback Hs Hlim Hnd
   generalize l[n] = x at *
   rw [TFormError.cnt_flat] at hM hN
   obtain ⟨rfl, rfl⟩ := TFormError.own_flat ho
   have HR := Lib.hid hr; have HP := Lib.hid hp; have HN := Lib.hid hN; have HD := Lib.hid hbs
   have HK : Hid (Kept wr wr (b :: ([]))) := Lib.hid (Kept.refl _ _)
   have HS : Hid (Kept wr wr [b]) := Lib.hid (Kept.refl _ _)
   clear hr hp hN hbs ho hd hb
   go_wp2_with (with_reducible refine stW rfl 3 _ _ rfl b (off + n * 4) rfl (.int .i64 (c)) rfl infoM3 rfl HR.out 0 (by have := HP.out; omega) (by simp) ?_)
   intro w1 hr hw
   replace HR := Lib.hid hr
   replace HS := Lib.hid (HS.out.trans (hw.kept (by simp)))
   clear hr hw
   go_wp2_with (with_reducible refine stW rfl 3 _ _ rfl b (off + n * 4 + 1) rfl (.int .i64 (c + 1)) rfl infoM3 rfl HR.out 1 (by have := HP.out; omega) (by simp) ?_)
   intro w2 hr hw
   replace HR := Lib.hid hr
   replace HS := Lib.hid (HS.out.trans (hw.kept (by simp)))
   clear hr hw
   go_wp2_with fail
   refine (markText_c _ (by omega) _).mono ?_
   rintro e w3 ⟨rfl, hB3⟩
   replace HR := Lib.hid (HR.out.kept (Kept.of_below hB3 []) (by simp))
   replace HS := Lib.hid (HS.out.trans (Kept.of_below hB3 _))
   clear hB3
   go_wp2_with (with_reducible refine stW rfl 9 _ _ rfl b (off + n * 4 + 2) rfl (.string (mtext (c + 1 + 1))) rfl infoM9 rfl HR.out 2 (by have := HP.out; omega) (by simp) ?_)
   intro w4 hr hw
   replace HR := Lib.hid hr
   replace HS := Lib.hid (HS.out.trans (hw.kept (by simp)))
   clear hr hw
   go_wp2_with fail
   refine (markText_c _ (by omega) _).mono ?_
   rintro e w5 ⟨rfl, hB5⟩
   replace HR := Lib.hid (HR.out.kept (Kept.of_below hB5 []) (by simp))
   replace HS := Lib.hid (HS.out.trans (Kept.of_below hB5 _))
   clear hB5
   go_wp2_with (with_reducible refine stW rfl 9 _ _ rfl b (off + n * 4 + 3) rfl (.string (mtext (c + 1 + 1 + 1))) rfl infoM9 rfl HR.out 3 (by have := HP.out; omega) (by simp) ?_)
   intro w6 hr hw
   replace HR := Lib.hid hr
   replace HS := Lib.hid (HS.out.trans (hw.kept (by simp)))
   clear hr hw
   replace HK := Lib.hid (HK.out.trans (HS.out.mono (fun x h => by simp only [List.mem_singleton] at h; simp [h])))
   have OF := Lib.hid (HB.out _ _ HR.out rfl HK.out (TFormError.mk_flat hc0 (by rw [TFormError.cnt_flat]; omega)))
   have KF := Lib.hid (Hk.out.trans (HK.out.mono (fun x h => sub_mid HD.out h)))
   rw [← HD.out] at OF
   clear HB HR HK HS HD HP Hk
   go_wp2
   go_roundw
   case rel => exact ⟨n + 1, _, hlt, by go_num, rfl, by omega, Lib.hid ⟨by have := HN.out; omega, OF.out⟩, KF⟩
   case measure => simp [intOf]; omega
  ·obtain rfl : n = l.length := by omega
   have HE := Lib.hid (mark_end Hs.out.1 Hs.out.2)
   go_wp2
   go_ret
   exact ⟨ret_int HE.out.1, HE.out.2, Hk.out⟩
set_option maxRecDepth 100000 in
set_option maxHeartbeats 1000000 in
theorem heldFormErrorS_c (l : List TFormError) : ∀ (w : World) (K : Nat → Prop) (_ : ∀ b, K b → b < w.heap.size) (k : Int) (v : Value) (_ : Rep w K (.sl (mks k (l.map TFormError.enc))) [v]) (_ : 0 ≤ k) (_ : k + (cnts (l.map TFormError.enc) : Nat) ≤ 4611686018427387904),
  Calls Tryz.prog 13 #[v, .int .i64 k] w fun e w' => e = .returned (.int .i64 (k + (cnts (l.map TFormError.enc) : Nat))) ∧ Below w.heap.size w w' := by
 intro w K hK k v h h0 hlim
 obtain ⟨a, cap, rfl, hcp, hm, hE⟩ := held_open TFormError.width h
 unfold maxLen at hm
 have Hlim := Lib.hid hlim
 clear h hlim
 go_enter Tryz.func13, Tryz.ntmps13
 go_wp2
 go_loopw [5, 1] (fun i kk wr => ∃ (n : Nat) (c : Int), n ≤ l.length ∧ i = .int .i64 n ∧ kk = .int .i64 c ∧ 0 ≤ c ∧ Hid (c = k + (cnts ((l.map TFormError.enc).take n) : Nat)) ∧ Below w.heap.size w wr) (fun i _ _ => l.length - (intOf i).toNat)
 case atStart => exact ⟨0, k, Nat.zero_le _, rfl, rfl, h0, Lib.hid (by simp only [List.take_zero, cnts]; omega), Below.refl _ _⟩
 case round =>
  obtain ⟨n, c, hn, rfl, rfl, hc0, Hc, hB⟩ := hrel
  by_cases hlt : n < l.length
  ·obtain ⟨b, off, rfl, hKb, cs, hcs, hr⟩ := hE n hlt
   obtain ⟨hM, hN⟩ := held_cnt hlt Hc.out Hlim.out
   rw [← Hc.out] at hr
   have gr := Rep.ext hB hK hr
   have gcs := hcs.ext hB (hK b hKb)
   have hbl : b < wr.heap.size := Nat.lt_of_lt_of_le (hK b hKb) hB.size
   have hK' : ∀ b, K b → b < wr.heap.size := fun b h => Nat.lt_of_lt_of_le (hK b h) hB.size
   clear hE hcs hr Hc Hlim hKb
   generalize l[n] = x at *
   rw [TFormError.cnt_flat] at hM hN
   obtain rfl := TFormError.mrep_flat gr
   have HN := Lib.hid hN
   have g0 : ∀ w', Below wr.heap.size wr w' → w'.cell? ⟨b, off + n * 4, none⟩ = some (.int .i64 (c)) := fun w' q => by simpa using gcs.ext q hbl 0 _ rfl
   have g1 : ∀ w', Below wr.heap.size wr w' → w'.cell? ⟨b, off + n * 4 + 1, none⟩ = some (.int .i64 (c + 1)) := fun w' q => gcs.ext q hbl 1 _ rfl
   have g2 : ∀ w', Below wr.heap.size wr w' → w'.cell? ⟨b, off + n * 4 + 2, none⟩ = some (.string (mtext (c + 1 + 1))) := fun w' q => gcs.ext q hbl 2 _ rfl
   have g3 : ∀ w', Below wr.heap.size wr w' → w'.cell? ⟨b, off + n * 4 + 3, none⟩ = some (.string (mtext (c + 1 + 1 + 1))) := fun w' q => gcs.ext q hbl 3 _ rfl
   have hW : Below wr.heap.size wr wr := Below.refl _ _
   clear hN gr gcs hbl
   go_wp2_with fail
   have hd1 : Below wr.heap.size wr wr.drew := hW.drew
   refine rg 8 (Below wr.heap.size wr) (by kernel_rfl) rfl ?_
   refine rg_seg (fuel := 2) [0, 1, 2, 3, 4, 5] hd1 (by kernel_rfl) rfl ?_
   simp only [pick, List.getElem?_cons_zero, List.getElem?_cons_succ]
   iterate 6 (refine sg_fix _ rfl (fun w' hI => by go_simp; rfl) ?_; simp only [Act.put, List.setIfInBounds_toArray, List.set_cons_zero, List.set_cons_succ])
   refine sg_nil ?_
   refine rg_one (fuel := 1) 6 (by kernel_rfl) rfl (fun K1 hK1 => ?_)
   simp only [pick, List.getElem?_cons_zero, List.getElem?_cons_succ]
   refine rg_call rfl _ _ (by go_simp; exact ⟨rfl, rfl⟩) ?_
   refine (markText_c _ (by omega) _).mono ?_
   rintro e w1 ⟨rfl, hB1⟩
   have hW1 : Below wr.heap.size wr w1 := hd1.trans (hB1.mono hd1.size)
   refine ⟨_, rfl, hK1 _ _ hW1 ?_⟩
   simp only [Act.put, List.setIfInBounds_toArray, List.set_cons_zero, List.set_cons_succ]
   refine rg_seg (fuel := 0) [7] hW1 (by kernel_rfl) rfl ?_
   simp only [pick, List.getElem?_cons_zero, List.getElem?_cons_succ]
   refine sg_fix _ rfl (fun w' hI => by go_simp; rfl) ?_; simp only [Act.put, List.setIfInBounds_toArray, List.set_cons_zero, List.set_cons_succ]
   refine sg_nil (rg_end (by kernel_rfl) ?_)
   go_wp2_with fail
   have hd2 : Below wr.heap.size wr w1.drew := hW1.drew
   refine rg 8 (Below wr.heap.size wr) (by kernel_rfl) rfl ?_
   refine rg_seg (fuel := 2) [0, 1, 2, 3, 4, 5] hd2 (by kernel_rfl) rfl ?_
   simp only [pick, List.getElem?_cons_zero, List.getElem?_cons_succ]
   iterate 6 (refine sg_fix _ rfl (fun w' hI => by go_simp; rfl) ?_; simp only [Act.put, List.setIfInBounds_toArray, List.set_cons_zero, List.set_cons_succ])
   refine sg_nil ?_
   refine rg_one (fuel := 1) 6 (by kernel_rfl) rfl (fun K1 hK1 => ?_)
   simp only [pick, List.getElem?_cons_zero, List.getElem?_cons_succ]
   refine rg_call rfl _ _ (by go_simp; exact ⟨rfl, rfl⟩) ?_
   refine (markText_c _ (by omega) _).mono ?_
   rintro e w2 ⟨rfl, hB2⟩
   have hW2 : Below wr.heap.size wr w2 := hd2.trans (hB2.mono hd2.size)
   refine ⟨_, rfl, hK1 _ _ hW2 ?_⟩
   simp only [Act.put, List.setIfInBounds_toArray, List.set_cons_zero, List.set_cons_succ]
   refine rg_seg (fuel := 0) [7] hW2 (by kernel_rfl) rfl ?_
   simp only [pick, List.getElem?_cons_zero, List.getElem?_cons_succ]
   refine sg_fix _ rfl (fun w' hI => by go_simp; rfl) ?_; simp only [Act.put, List.setIfInBounds_toArray, List.set_cons_zero, List.set_cons_succ]
   refine sg_nil (rg_end (by kernel_rfl) ?_)
   have HF := Lib.hid (hB.trans (hW2.mono hB.size))
   go_wp2
   go_roundw
   case rel => exact ⟨n + 1, _, hlt, by go_num, rfl, by omega, Lib.hid (by have := HN.out; omega), HF.out⟩
   case measure => simp [intOf]; omega
  ·obtain rfl : n = l.length := by omega
   have HE := Lib.hid Hc.out
   rw [List.take_of_length_le (by simp)] at HE
   go_wp2
   go_ret
   exact ⟨ret_int HE.out, hB⟩
/-- the shape of a value: one cell, or a struct -/
inductive Sh where
  | one
  | st (l : List Sh)
/-- a value: a leaf, a struct, a slice (o: whether the call may append to it and owns what lies in it; s: its elements' shape) -/
inductive DD where
  | lf (v : Value)
  | st (fs : List DD)
  | sl (o : Bool) (s : Sh) (es : List DD)
instance : Inhabited DD := ⟨.lf (.bool false)⟩
mutual
def Sh.w : Sh → Nat
  | .one => 1
  | .st l => Sh.ws l
def Sh.ws : List Sh → Nat
  | [] => 0
  | s :: l => s.w + Sh.ws l
end
mutual
def DD.sh : DD → Sh
  | .lf _ => .one
  | .sl _ _ _ => .one
  | .st fs => .st (DD.shs fs)
def DD.shs : List DD → List Sh
  | [] => []
  | d :: ds => d.sh :: DD.shs ds
end
mutual
def DD.vw : DD → DD
  | .lf v => .lf v
  | .sl _ s es => .sl false s (DD.vws es)
  | .st fs => .st (DD.vws fs)
def DD.vws : List DD → List DD
  | [] => []
  | d :: ds => d.vw :: DD.vws ds
end
theorem DD.shs_eq : ∀ l : List DD, DD.shs l = l.map DD.sh
  | [] => rfl
  | d :: l => by simp only [DD.shs, DD.shs_eq l, List.map_cons]
theorem DD.vws_eq : ∀ l : List DD, DD.vws l = l.map DD.vw
  | [] => rfl
  | d :: l => by simp only [DD.vws, DD.vws_eq l, List.map_cons]
mutual
theorem DD.sh_vw : ∀ d : DD, d.vw.sh = d.sh
  | .lf _ => rfl
  | .sl _ _ _ => by simp only [DD.vw, DD.sh]
  | .st fs => by simp only [DD.vw, DD.sh, DD.shs_vw fs]
theorem DD.shs_vw : ∀ l : List DD, DD.shs (DD.vws l) = DD.shs l
  | [] => rfl
  | d :: l => by simp only [DD.vws, DD.shs, DD.sh_vw d, DD.shs_vw l]
end
mutual
theorem DD.vw_vw : ∀ d : DD, d.vw.vw = d.vw
  | .lf _ => rfl
  | .sl _ _ es => by simp only [DD.vw, DD.vws_vws es]
  | .st fs => by simp only [DD.vw, DD.vws_vws fs]
theorem DD.vws_vws : ∀ l : List DD, DD.vws (DD.vws l) = DD.vws l
  | [] => rfl
  | d :: l => by simp only [DD.vws, DD.vw_vw d, DD.vws_vws l]
end
/-- the value as the machine holds it -/
def DD.mk : DD → List Value → Value
  | .st _, cs => .agg cs.toArray
  | _, cs => cs.headD undef
mutual
def rp (w : World) (F : Nat → Nat) : DD → List Value → List Nat → Prop
  | .lf v, cs, bs => cs = [v] ∧ okLeaf v ∧ bs = []
  | .st fs, cs, bs => rpS w F fs cs bs
  | .sl o s es, cs, bs => (∀ e ∈ es, e.sh = s) ∧ 0 < s.w ∧ ∃ a cap, cs = [.slice a es.length cap] ∧ es.length ≤ cap ∧ cap ≤ maxLen ∧ (a = none → cap = 0) ∧
      ((bs = [] ∧ es = [] ∧ (o = true → cap = 0)) ∨
       ∃ b off r, a = some ⟨b, off, none⟩ ∧ rpE w F es b off r ∧ off + es.length * s.w ≤ F b ∧
         ((o = false ∧ bs = [] ∧ r = []) ∨
          (o = true ∧ bs = b :: r ∧ off = 0 ∧ F b = es.length * s.w ∧ ∃ cur e, w.heap[b]? = some (.cells cur e (0, 0)) ∧ cap * s.w ≤ cur.size)))
def rpS (w : World) (F : Nat → Nat) : List DD → List Value → List Nat → Prop
  | [], cs, bs => cs = [] ∧ bs = []
  | d :: ds, cs, bs => ∃ c1 c2 b1 b2, cs = c1 ++ c2 ∧ bs = b1 ++ b2 ∧ rp w F d c1 b1 ∧ rpS w F ds c2 b2
def rpE (w : World) (F : Nat → Nat) : List DD → Nat → Nat → List Nat → Prop
  | [], _, _, bs => bs = []
  | d :: ds, b, off, bs => ∃ cs b1 b2, bs = b1 ++ b2 ∧ Cells w b off cs ∧ rp w F d cs b1 ∧ rpE w F ds b (off + d.sh.w) b2
end
theorem Sh.ws_map {s : Sh} : ∀ l : List DD, (∀ e ∈ l, e.sh = s) → Sh.ws (l.map DD.sh) = l.length * s.w
  | [], _ => by simp [Sh.ws]
  | d :: l, h => by
    rw [List.map_cons, Sh.ws, Sh.ws_map l (fun e he => h e (by simp [he])), h d (by simp), List.length_cons, Nat.add_mul]
    omega
mutual
theorem rp.length {w : World} {F : Nat → Nat} : ∀ (d : DD) (cs : List Value) (bs : List Nat), rp w F d cs bs → cs.length = d.sh.w
  | .lf v, cs, bs, h => by
    simp only [rp] at h
    rw [h.1]; simp [DD.sh, Sh.w]
  | .sl o s es, cs, bs, h => by
    simp only [rp] at h
    obtain ⟨-, -, a, cap, h, -⟩ := h
    rw [h]; simp [DD.sh, Sh.w]
  | .st fs, cs, bs, h => by
    simp only [rp] at h
    simp only [DD.sh, Sh.w]
    exact rpS.length fs cs bs h
theorem rpS.length {w : World} {F : Nat → Nat} : ∀ (l : List DD) (cs : List Value) (bs : List Nat), rpS w F l cs bs → cs.length = Sh.ws (DD.shs l)
  | [], cs, bs, h => by
    simp only [rpS] at h
    rw [h.1]; simp [DD.shs, Sh.ws]
  | d :: l, cs, bs, h => by
    simp only [rpS] at h
    obtain ⟨c1, c2, b1, b2, rfl, -, h1, h2⟩ := h
    rw [List.length_append, rp.length d c1 b1 h1, rpS.length l c2 b2 h2]; simp [DD.shs, Sh.ws]
end
/-- what is kept of a world: what is frozen, and what nobody may touch -/
structure Kp (w : World) (F : Nat → Nat) (w' : World) (F' : Nat → Nat) (bs : List Nat) : Prop where
  cell : ∀ b o, o < F b → w'.cell? ⟨b, o, none⟩ = w.cell? ⟨b, o, none⟩
  mono : ∀ b, F b ≤ F' b
  own : ∀ b ∈ bs, w'.heap[b]? = w.heap[b]? ∧ F' b = F b
theorem Kp.sub {w w' : World} {F F' : Nat → Nat} {bs cs : List Nat} (h : Kp w F w' F' bs) (hs : ∀ b ∈ cs, b ∈ bs) : Kp w F w' F' cs := ⟨h.cell, h.mono, fun b hb => h.own b (hs b hb)⟩
mutual
theorem rp.keep {w w' : World} {F F' : Nat → Nat} : ∀ (d : DD) (cs : List Value) (bs : List Nat), rp w F d cs bs → Kp w F w' F' bs → rp w' F' d cs bs
  | .lf v, cs, bs, h, _ => by simpa only [rp] using h
  | .st fs, cs, bs, h, k => by
    simp only [rp] at h ⊢
    exact rpS.keep fs cs bs h k
  | .sl o s es, cs, bs, h, k => by
    simp only [rp] at h ⊢
    obtain ⟨hs, hp, a, cap, h1, h2, h3, h4, h5⟩ := h
    refine ⟨hs, hp, a, cap, h1, h2, h3, h4, ?_⟩
    rcases h5 with h5 | ⟨b, off, r, ha, he, hf, h6⟩
    · exact .inl h5
    · have hw : off + Sh.ws (DD.shs es) ≤ F b := by rw [DD.shs_eq, Sh.ws_map es hs]; exact hf
      rcases h6 with ⟨ho, hb, hr⟩ | ⟨ho, hb, hoff, hF, cur, e, hh, hc⟩
      · subst hr
        exact .inr ⟨b, off, [], ha, rpE.keep es b off [] he hw (k.sub (by simp)), Nat.le_trans hf (k.mono b), .inl ⟨ho, hb, rfl⟩⟩
      · subst hb
        have hk := k.own b (by simp)
        exact .inr ⟨b, off, r, ha, rpE.keep es b off r he hw (k.sub (fun x hx => by simp [hx])), Nat.le_trans hf (k.mono b), .inr ⟨ho, rfl, hoff, hk.2.trans hF, cur, e, hk.1.trans hh, hc⟩⟩
theorem rpS.keep {w w' : World} {F F' : Nat → Nat} : ∀ (l : List DD) (cs : List Value) (bs : List Nat), rpS w F l cs bs → Kp w F w' F' bs → rpS w' F' l cs bs
  | [], cs, bs, h, _ => by simpa only [rpS] using h
  | d :: l, cs, bs, h, k => by
    simp only [rpS] at h ⊢
    obtain ⟨c1, c2, b1, b2, h1, h2, h3, h4⟩ := h
    subst h2
    exact ⟨c1, c2, b1, b2, h1, rfl, rp.keep d c1 b1 h3 (k.sub (fun x hx => by simp [hx])), rpS.keep l c2 b2 h4 (k.sub (fun x hx => by simp [hx]))⟩
theorem rpE.keep {w w' : World} {F F' : Nat → Nat} : ∀ (l : List DD) (b off : Nat) (bs : List Nat), rpE w F l b off bs → off + Sh.ws (DD.shs l) ≤ F b → Kp w F w' F' bs → rpE w' F' l b off bs
  | [], _, _, bs, h, _, _ => by simpa only [rpE] using h
  | d :: l, b, off, bs, h, hf, k => by
    simp only [rpE] at h ⊢
    simp only [DD.shs, Sh.ws] at hf
    obtain ⟨cs, b1, b2, h1, h2, h3, h4⟩ := h
    subst h1
    have hl := rp.length d cs b1 h3
    refine ⟨cs, b1, b2, rfl, ?_, rp.keep d cs b1 h3 (k.sub (fun x hx => by simp [hx])), rpE.keep l b _ b2 h4 (by omega) (k.sub (fun x hx => by simp [hx]))⟩
    intro j u hu
    have hj := (List.getElem?_eq_some_iff.1 hu).1
    rw [k.cell b _ (by omega)]
    exact h2 j u hu
end
mutual
theorem rp.view {w : World} {F : Nat → Nat} : ∀ (d : DD) (cs : List Value) (bs : List Nat), rp w F d cs bs → rp w F d.vw cs []
  | .lf v, cs, bs, h => by
    simp only [rp, DD.vw] at h ⊢
    exact ⟨h.1, h.2.1, trivial⟩
  | .st fs, cs, bs, h => by
    simp only [rp, DD.vw] at h ⊢
    exact rpS.view fs cs bs h
  | .sl o s es, cs, bs, h => by
    simp only [rp, DD.vw] at h ⊢
    obtain ⟨hs, hp, a, cap, h1, h2, h3, h4, h5⟩ := h
    have hl : (DD.vws es).length = es.length := by rw [DD.vws_eq, List.length_map]
    refine ⟨?_, hp, a, cap, by rw [hl]; exact h1, by rw [hl]; exact h2, h3, h4, ?_⟩
    · intro e he
      rw [DD.vws_eq] at he
      obtain ⟨x, hx, rfl⟩ := List.mem_map.1 he
      rw [DD.sh_vw]; exact hs x hx
    rcases h5 with ⟨-, h5, -⟩ | ⟨b, off, r, ha, he, hf, h6⟩
    · exact .inl ⟨trivial, by rw [h5]; rfl, by simp⟩
    · exact .inr ⟨b, off, [], ha, rpE.view es b off r he, by rw [hl]; exact hf, .inl ⟨trivial, trivial, rfl⟩⟩
theorem rpS.view {w : World} {F : Nat → Nat} : ∀ (l : List DD) (cs : List Value) (bs : List Nat), rpS w F l cs bs → rpS w F (DD.vws l) cs []
  | [], cs, bs, h => by
    simp only [rpS, DD.vws] at h ⊢
    exact ⟨h.1, trivial⟩
  | d :: l, cs, bs, h => by
    simp only [rpS, DD.vws] at h ⊢
    obtain ⟨c1, c2, b1, b2, h1, h2, h3, h4⟩ := h
    exact ⟨c1, c2, [], [], h1, rfl, rp.view d c1 b1 h3, rpS.view l c2 b2 h4⟩
theorem rpE.view {w : World} {F : Nat → Nat} : ∀ (l : List DD) (b off : Nat) (bs : List Nat), rpE w F l b off bs → rpE w F (DD.vws l) b off []
  | [], _, _, bs, h => by simp only [rpE, DD.vws]
  | d :: l, b, off, bs, h => by
    simp only [rpE, DD.vws] at h ⊢
    obtain ⟨cs, b1, b2, h1, h2, h3, h4⟩ := h
    exact ⟨cs, [], [], rfl, h2, rp.view d cs b1 h3, by rw [DD.sh_vw]; exact rpE.view l b _ b2 h4⟩
end
mutual
theorem rp.one {w : World} {F : Nat → Nat} : ∀ (d : DD) (cs : List Value) (bs : List Nat), rp w F d cs bs → ∀ u ∈ cs, u.oneCell' = true
  | .lf v, cs, bs, h => by
    simp only [rp] at h
    obtain ⟨rfl, h, -⟩ := h
    intro u hu
    simp only [List.mem_singleton] at hu
    subst hu
    cases u <;> first | rfl | exact h.elim
  | .st fs, cs, bs, h => by
    simp only [rp] at h
    exact rpS.one fs cs bs h
  | .sl o s es, cs, bs, h => by
    simp only [rp] at h
    obtain ⟨-, -, a, cap, rfl, -⟩ := h
    intro u hu
    simp only [List.mem_singleton] at hu
    subst hu
    rfl
theorem rpS.one {w : World} {F : Nat → Nat} : ∀ (l : List DD) (cs : List Value) (bs : List Nat), rpS w F l cs bs → ∀ u ∈ cs, u.oneCell' = true
  | [], cs, bs, h => by
    simp only [rpS] at h
    obtain ⟨rfl, -⟩ := h
    intro u hu
    simp at hu
  | d :: l, cs, bs, h => by
    simp only [rpS] at h
    obtain ⟨c1, c2, b1, b2, rfl, -, h1, h2⟩ := h
    intro u hu
    rcases List.mem_append.1 hu with hu | hu
    · exact rp.one d c1 b1 h1 u hu
    · exact rpS.one l c2 b2 h2 u hu
end
/-- an element of a row -/
theorem rpE.get {w : World} {F : Nat → Nat} {s : Sh} {b : Nat} : ∀ (l : List DD) (off : Nat) (bs : List Nat), (∀ e ∈ l, e.sh = s) → rpE w F l b off bs → ∀ (k : Nat) (d : DD), l[k]? = some d → ∃ cs bk, Cells w b (off + k * s.w) cs ∧ rp w F d cs bk ∧ ∀ x ∈ bk, x ∈ bs
  | [], _, _, _, _, k, d, hd => by simp at hd
  | e :: l, off, bs, hs, h, 0, d, hd => by
    simp only [List.getElem?_cons_zero, Option.some.injEq] at hd
    subst hd
    simp only [rpE] at h
    obtain ⟨cs, b1, b2, h1, h2, h3, -⟩ := h
    exact ⟨cs, b1, by simpa using h2, h3, fun x hx => by rw [h1]; simp [hx]⟩
  | e :: l, off, bs, hs, h, k + 1, d, hd => by
    simp only [List.getElem?_cons_succ] at hd
    simp only [rpE] at h
    obtain ⟨cs, b1, b2, h1, h2, h3, h4⟩ := h
    rw [hs e (by simp)] at h4
    obtain ⟨cs', bk, g1, g2, g3⟩ := rpE.get l (off + s.w) b2 (fun x hx => hs x (by simp [hx])) h4 k d hd
    refine ⟨cs', bk, ?_, g2, fun x hx => by rw [h1]; simp [g3 x hx]⟩
    rw [show off + (k + 1) * s.w = off + s.w + k * s.w by rw [Nat.add_mul]; omega]
    exact g1
/-- the cells of a row, and its elements as a list of trees -/
theorem rpE.toS {w : World} {F : Nat → Nat} {b : Nat} : ∀ (l : List DD) (off : Nat) (bs : List Nat), rpE w F l b off bs → ∃ xs, Cells w b off xs ∧ rpS w F l xs bs
  | [], off, bs, h => by
    simp only [rpE] at h
    exact ⟨[], fun j u hu => by simp at hu, by simp only [rpS]; exact ⟨trivial, h⟩⟩
  | d :: l, off, bs, h => by
    simp only [rpE] at h
    obtain ⟨cs, b1, b2, h1, h2, h3, h4⟩ := h
    obtain ⟨xs, g1, g2⟩ := rpE.toS l _ b2 h4
    refine ⟨cs ++ xs, ?_, by simp only [rpS]; exact ⟨cs, xs, b1, b2, rfl, h1, h3, g2⟩⟩
    intro j u hu
    by_cases hj : j < cs.length
    · rw [List.getElem?_append_left hj] at hu; exact h2 j u hu
    · rw [List.getElem?_append_right (by omega)] at hu
      have := g1 (j - cs.length) u hu
      rw [rp.length d cs b1 h3] at this
      rw [show off + j = off + d.sh.w + (j - d.sh.w) by have := rp.length d cs b1 h3; omega]
      exact this
theorem rpS.toE {w : World} {F : Nat → Nat} {b : Nat} : ∀ (l : List DD) (xs : List Value) (off : Nat) (bs : List Nat), rpS w F l xs bs → Cells w b off xs → rpE w F l b off bs
  | [], xs, off, bs, h, _ => by
    simp only [rpS] at h
    simp only [rpE]; exact h.2
  | d :: l, xs, off, bs, h, hc => by
    simp only [rpS] at h
    obtain ⟨c1, c2, b1, b2, rfl, h2, h3, h4⟩ := h
    simp only [rpE]
    refine ⟨c1, b1, b2, h2, fun j u hu => hc j u (by rw [List.getElem?_append_left (List.getElem?_eq_some_iff.1 hu).1]; exact hu), h3, rpS.toE l c2 _ b2 h4 ?_⟩
    intro j u hu
    have := hc (c1.length + j) u (by rw [List.getElem?_append_right (by omega)]; simpa using hu)
    rw [rp.length d c1 b1 h3] at this
    rw [show off + d.sh.w + j = off + (d.sh.w + j) by omega]
    exact this
theorem rpS.append {w : World} {F : Nat → Nat} : ∀ (l : List DD) (xs : List Value) (bs : List Nat) (m : List DD) (ys : List Value) (cs : List Nat), rpS w F l xs bs → rpS w F m ys cs → rpS w F (l ++ m) (xs ++ ys) (bs ++ cs)
  | [], xs, bs, m, ys, cs, h, k => by
    simp only [rpS] at h
    obtain ⟨rfl, rfl⟩ := h
    simpa using k
  | d :: l, xs, bs, m, ys, cs, h, k => by
    simp only [rpS] at h
    obtain ⟨c1, c2, b1, b2, rfl, rfl, h3, h4⟩ := h
    simp only [List.cons_append, rpS]
    exact ⟨c1, c2 ++ ys, b1, b2 ++ cs, by simp, by simp, h3, rpS.append l c2 b2 m ys cs h4 k⟩
end Go.Proofs.YtdooklofebdknaaGreat
