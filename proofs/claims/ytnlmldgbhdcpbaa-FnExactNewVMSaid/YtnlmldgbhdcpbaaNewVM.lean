/- The two functions NewVM, each walked once. Condition: the arguments' size is at most 1048576. -/
import Derived.Test.YtnlmldgbhdcpbaaCopy
import Derived.Test.YtnlmldgbhdcpbaaMkBound
namespace Go.Proofs.Ytnlmldgbhdcpbaa
open Go.RowKit
theorem infoN31 : (Try.prog.info? 31).map (·.size) = some 5 := by kernel_rfl
/-- a machine at its start -/
def vmNew (m : TMachine) (n : Int) (l : List TValue) : TVM :=
  if h : 0 ≤ n ∧ n.toNat < m.fCodes.length then
    if (m.fCodes[n.toNat]'h.2).fParams = (l.length : Int) then ⟨[], [⟨n, 0, 0, l⟩], 0, 0, false⟩ else ⟨[], [], 0, 2, false⟩
  else ⟨[], [], 0, 2, false⟩
theorem vmNew_ok {m : TMachine} {k : Nat} {l : List TValue} (h : k < m.fCodes.length) (hp : m.fCodes[k].fParams = (l.length : Int)) : vmNew m (k : Int) l = ⟨[], [⟨(k : Int), 0, 0, l⟩], 0, 0, false⟩ := by
  unfold vmNew
  rw [dif_pos ⟨by omega, by simpa using h⟩, if_pos (by simpa using hp)]
theorem vmNew_params {m : TMachine} {k : Nat} {l : List TValue} (h : k < m.fCodes.length) (hp : ¬ m.fCodes[k].fParams = (l.length : Int)) : vmNew m (k : Int) l = ⟨[], [], 0, 2, false⟩ := by
  unfold vmNew
  rw [dif_pos ⟨by omega, by simpa using h⟩, if_neg (by simpa using hp)]
theorem vmNew_out {m : TMachine} {n : Int} {l : List TValue} (h : n < 0 ∨ (m.fCodes.length : Int) ≤ n) : vmNew m n l = ⟨[], [], 0, 2, false⟩ := by
  unfold vmNew
  rw [dif_neg (by omega)]
theorem inR_le {a : Int} (h : -9223372036854775808 ≤ a) (k : a ≤ 9223372036854775807) : InR a := ⟨h, k⟩
theorem inR0 : InR 0 := inR_le (by decide) (by decide)
theorem inR2 : InR 2 := inR_le (by decide) (by decide)
theorem own_bad (w : World) : Own w (TVM.enc ⟨[], [], 0, 2, false⟩) [.slice none 0 0, .slice none 0 0, .int .i64 0, .int .i64 2, .bool false] ([] ++ ([] ++ [])) :=
  TVM.mk_own (x := ⟨[], [], 0, 2, false⟩) (own_nil (l := ([] : List TValue)) rfl (by simp [maxLen]) (by simp)) (own_nil (l := ([] : List TFrame)) rfl (by simp [maxLen]) (by simp)) inR0 inR2
theorem own_vm {w : World} {n : Int} {l : List TValue} {a : Option Addr} {p g : Nat} {bs : List Nat} {e : TypeId} (hn : InR n) (ho : Own w (.sl (l.map TValue.enc)) [.slice a l.length p] bs)
    (hr : w.heap[g]? = some (.cells #[.int .i64 n, .int .i64 0, .int .i64 0, .slice a l.length p] e (0, 0))) :
    Own w (TVM.enc ⟨[], [⟨n, 0, 0, l⟩], 0, 0, false⟩) [.slice none 0 0, .slice (some ⟨g, 0, none⟩) 1 1, .int .i64 0, .int .i64 0, .bool false] ([] ++ ((g :: (bs ++ [])) ++ [])) :=
  TVM.mk_own (x := ⟨[], [⟨n, 0, 0, l⟩], 0, 0, false⟩) (own_nil (l := ([] : List TValue)) rfl (by simp [maxLen]) (by simp))
    (own_single (enc := TFrame.enc) (x := ⟨n, 0, 0, l⟩) (cs := [.int .i64 n, .int .i64 0, .int .i64 0, .slice a l.length p]) hr (TFrame.mk_own (x := ⟨n, 0, 0, l⟩) hn inR0 inR0 ho))
    inR0 inR0
set_option maxHeartbeats 1000000 in
theorem specl1In_c (x lo hi : Int) (w : World) :
    Calls Try.prog 58 #[.int .i64 x, .int .i64 lo, .int .i64 hi] w fun e w' => e = .returned (.bool (decide (lo ≤ x ∧ x ≤ hi))) ∧ w' = w := by
  by_cases h1 : lo ≤ x
  · by_cases h2 : x ≤ hi
    · go_enter Try.func58, Try.ntmps58
      go_wp2
      go_ret
      exact ⟨ret_bool (by simp [h1, h2]), rfl⟩
    · go_enter Try.func58, Try.ntmps58
      go_wp2
      go_ret
      exact ⟨ret_bool (by simp [h2]), rfl⟩
  · go_enter Try.func58, Try.ntmps58
    go_wp2
    go_ret
    exact ⟨ret_bool (by simp; omega), rfl⟩
set_option maxRecDepth 100000 in
set_option maxHeartbeats 1000000 in
theorem specNewVM_c (m : TMachine) (n : Int) (l : List TValue) (hz : szs TValue.sz l ≤ 1048576) : ∀ (w : World) (K : Nat → Prop) (_ : ∀ b, K b → b < w.heap.size) (cs : List Value) (_ : Rep w K m.enc cs) (_ : InR n) (v : Value) (_ : Rep w K (.sl (l.map TValue.enc)) [v]),
    Calls Try.prog 19 #[.agg cs.toArray, .int .i64 n, v] w fun e w' => ∃ cs' bs, e = .returned (.agg cs'.toArray) ∧ Own w' (vmNew m n l).enc cs' bs ∧ bs.Nodup ∧ (∀ b ∈ bs, w.heap.size ≤ b ∧ b < w'.heap.size) ∧ Below w.heap.size w w' := by
  intro w K hK cs h hn v hv
  obtain ⟨c0, c1, rfl, hC, -⟩ := TMachine.opn h
  clear h
  obtain ⟨a, cap, rfl, hc, hm, -, hE⟩ := open_sl TCode.width hC
  unfold maxLen at hm
  clear hC
  have hlen : l.length ≤ 1048576 := by unfold szs at hz; omega
  have Hz := Lib.hid hz; clear hz
  have hn1 := hn.lo
  have hn2 := hn.hi
  have Hn := Lib.hid hn; clear hn
  obtain ⟨a0, cap0, rfl, -, -, -, -⟩ := open_sl TValue.width hv
  have Hv := Lib.hid hv; clear hv
  by_cases hin : 0 ≤ n ∧ n < m.fCodes.length
  · obtain ⟨k, rfl⟩ := Int.eq_ofNat_of_zero_le hin.1
    have hk : k < m.fCodes.length := by omega
    obtain ⟨b, off, rfl, hKb, cs, hcs, hr⟩ := hE k hk
    have hp1 := fun h => vmNew_ok (l := l) hk h
    have hp2 := fun h => vmNew_params (l := l) hk h
    have Hp1 := Lib.hid hp1; have Hp2 := Lib.hid hp2
    clear hp1 hp2 hE
    generalize m.fCodes[k] = t at *
    obtain ⟨t1, rfl, -, -⟩ := TCode.opn hr
    have hl0 : b < w.heap.size := hK b hKb
    have g0 : w.cell? ⟨b, off + k * 2, none⟩ = some (.int .i64 t.fParams) := by simpa using hcs 0 _ rfl
    clear hcs hr hin
    have hV : Below w.heap.size w ((w.alloc (.cells #[.slice (some ⟨b, off, none⟩) m.fCodes.length cap, c1] 54)).alloc (.cells #[.slice none 0 0, .slice none 0 0, .int .i64 0, .int .i64 0, .bool false] 31)) := ((Below.refl _ _).alloc (Nat.le_refl _) _).alloc (by simp) _
    have hd : decide ((0 : Int) ≤ (k : Int) ∧ (k : Int) ≤ (m.fCodes.length : Int) - 1) = true := by simp; omega
    by_cases hp : t.fParams = (l.length : Int)
    · have bp : (t.fParams != (l.length : Int)) = false := by simp [hp]
      have hq := Hp1.out hp
      have Hq := Lib.hid hq
      clear hq hp Hp1 Hp2
      have HR := Lib.hid (show ((w.alloc (.cells #[.slice (some ⟨b, off, none⟩) m.fCodes.length cap, c1] 54)).alloc (.cells #[.slice none 0 0, .slice none 0 0, .int .i64 0, .int .i64 0, .bool false] 31)).heap[w.heap.size + 1]? = some (.cells #[.slice none 0 0, .slice none 0 0, .int .i64 0, .int .i64 0, .bool false] 31 (0, 0)) from alloc_at (by simp))
      have hs : w.heap.size + 1 < ((w.alloc (.cells #[.slice (some ⟨b, off, none⟩) m.fCodes.length cap, c1] 54)).alloc (.cells #[.slice none 0 0, .slice none 0 0, .int .i64 0, .int .i64 0, .bool false] 31)).heap.size := by simp
      rw [Hq.out]
      go_enter Try.func19, Try.ntmps19
      go_wp2_with fail
      refine (specl1In_c _ _ _ _).mono ?_
      rintro e w1 ⟨rfl, rfl⟩
      rw [hd]
      go_wp2_with fail
      refine (specl42Vals_c l Hz.out _ K (fun b hb => Nat.lt_of_lt_of_le (hK b hb) hV.size) _ (Rep.ext hV hK Hv.out)).mono ?_
      rintro e w1 ⟨a1, p1, b1, rfl, o1, n1, r1, hB1⟩
      have O1 := Lib.hid o1; clear o1
      have s1 : ∀ x ∈ b1, w.heap.size + 1 + 1 ≤ x ∧ x < w1.heap.size := by intro x hx; have := r1 x hx; (try simp at this); omega
      have y1 : w.heap.size + 1 + 1 ≤ w1.heap.size := by have := hB1.size; (try simp at this); omega
      replace HR := Lib.hid (row_below HR.out hB1 hs)
      replace hV := hV.trans (hB1.mono hV.size)
      clear r1 hs hB1
      have hBa : Below w1.heap.size w1 (w1.alloc (.cells #[.int .i64 (k : Int), .int .i64 0, .int .i64 0, .slice a1 l.length p1] 83)) := (Below.refl _ _).alloc (Nat.le_refl _) _
      replace HR := Lib.hid (row_below HR.out hBa (by omega))
      have HF := Lib.hid (show (w1.alloc (.cells #[.int .i64 (k : Int), .int .i64 0, .int .i64 0, .slice a1 l.length p1] 83)).heap[w1.heap.size]? = _ from alloc_at rfl)
      replace O1 := Lib.hid (O1.out.below hBa)
      replace hV := hV.trans (hBa.mono hV.size)
      clear hBa
      have haf := Lib.hid (show ((#[.slice none 0 0, .slice none 0 0, .int .i64 0, .int .i64 0, .bool false] : Array Value).toList.take 0 ++ ([.slice none 0 0, .slice (some ⟨w1.heap.size, 0, none⟩) 1 1, .int .i64 0, .int .i64 0, .bool false] : List Value) ++ (#[.slice none 0 0, .slice none 0 0, .int .i64 0, .int .i64 0, .bool false] : Array Value).toList.drop (0 + ([.slice none 0 0, .slice (some ⟨w1.heap.size, 0, none⟩) 1 1, .int .i64 0, .int .i64 0, .bool false] : List Value).length)).toArray = #[.slice none 0 0, .slice (some ⟨w1.heap.size, 0, none⟩) 1 1, .int .i64 0, .int .i64 0, .bool false] from rfl)
      have hff := Lib.hid (show 0 + ([.slice none 0 0, .slice (some ⟨w1.heap.size, 0, none⟩) 1 1, .int .i64 0, .int .i64 0, .bool false] : List Value).length ≤ (#[.slice none 0 0, .slice none 0 0, .int .i64 0, .int .i64 0, .bool false] : Array Value).size from (by decide : 0 + 5 ≤ 5))
      have hif := Lib.hid (show (Try.prog.info? 31).map (·.size) = some ([.slice none 0 0, .slice (some ⟨w1.heap.size, 0, none⟩) 1 1, .int .i64 0, .int .i64 0, .bool false] : List Value).length from infoN31)
      have hone : ∀ u ∈ ([.slice none 0 0, .slice (some ⟨w1.heap.size, 0, none⟩) 1 1, .int .i64 0, .int .i64 0, .bool false] : List Value), u.oneCell' = true := by intro u hu; simp only [List.mem_cons, List.not_mem_nil, or_false] at hu; rcases hu with rfl | rfl | rfl | rfl | rfl <;> rfl
      go_wp2_with (with_reducible refine stR rfl 31 _ _ rfl (w.heap.size + 1) 0 rfl [.slice none 0 0, .slice (some ⟨w1.heap.size, 0, none⟩) 1 1, .int .i64 0, .int .i64 0, .bool false] rfl hif.out hone #[.slice none 0 0, .slice none 0 0, .int .i64 0, .int .i64 0, .bool false] #[.slice none 0 0, .slice (some ⟨w1.heap.size, 0, none⟩) 1 1, .int .i64 0, .int .i64 0, .bool false] 31 HR.out hff.out haf.out ?_)
      intro vf hpf
      have hVf := hpf.below hV (by omega)
      have cR := row_cells (cs := [.slice none 0 0, .slice (some ⟨w1.heap.size, 0, none⟩) 1 1, .int .i64 0, .int .i64 0, .bool false]) hpf.row
      have yf := hpf.size
      have OF := own_vm Hn.out (O1.out.put hpf (fun x hx => by have := s1 x hx; omega)) (row_put HF.out hpf (by omega))
      go_wp2
      refine bodyPost_ret (v := .agg #[.slice none 0 0, .slice (some ⟨w1.heap.size, 0, none⟩) 1 1, .int .i64 0, .int .i64 0, .bool false]) (run_res Try.results19 (w.heap.size + 1) rfl [.slice none 0 0, .slice (some ⟨w1.heap.size, 0, none⟩) 1 1, .int .i64 0, .int .i64 0, .bool false] cR _ Try.underlying31 hif.out) rfl ⟨[.slice none 0 0, .slice (some ⟨w1.heap.size, 0, none⟩) 1 1, .int .i64 0, .int .i64 0, .bool false], _, rfl, OF, ?_, ?_, hVf⟩
      · simp only [List.nil_append, List.append_nil]
        refine List.nodup_cons.2 ⟨fun q => ?_, n1⟩
        have := s1 _ q
        omega
      · intro x hx
        simp only [List.nil_append, List.append_nil, List.mem_cons] at hx
        simp only [World.size_alloc] at yf
        rcases hx with rfl | hx
        · omega
        · have := s1 x hx
          omega
    · have bp : (t.fParams != (l.length : Int)) = true := by simpa using hp
      have hq := Hp2.out hp
      have Hq := Lib.hid hq
      clear hq hp Hp1 Hp2
      rw [Hq.out]
      have HR := Lib.hid (show ((w.alloc (.cells #[.slice (some ⟨b, off, none⟩) m.fCodes.length cap, c1] 54)).alloc (.cells #[.slice none 0 0, .slice none 0 0, .int .i64 0, .int .i64 0, .bool false] 31)).heap[w.heap.size + 1]? = some (.cells #[.slice none 0 0, .slice none 0 0, .int .i64 0, .int .i64 0, .bool false] 31 (0, 0)) from alloc_at (by simp))
      have haf := Lib.hid (show ((#[.slice none 0 0, .slice none 0 0, .int .i64 0, .int .i64 0, .bool false] : Array Value).toList.take 0 ++ ([.slice none 0 0, .slice none 0 0, .int .i64 0, .int .i64 2, .bool false] : List Value) ++ (#[.slice none 0 0, .slice none 0 0, .int .i64 0, .int .i64 0, .bool false] : Array Value).toList.drop (0 + ([.slice none 0 0, .slice none 0 0, .int .i64 0, .int .i64 2, .bool false] : List Value).length)).toArray = #[.slice none 0 0, .slice none 0 0, .int .i64 0, .int .i64 2, .bool false] from rfl)
      have hff := Lib.hid (show 0 + ([.slice none 0 0, .slice none 0 0, .int .i64 0, .int .i64 2, .bool false] : List Value).length ≤ (#[.slice none 0 0, .slice none 0 0, .int .i64 0, .int .i64 0, .bool false] : Array Value).size from (by decide : 0 + 5 ≤ 5))
      have hif := Lib.hid (show (Try.prog.info? 31).map (·.size) = some ([.slice none 0 0, .slice none 0 0, .int .i64 0, .int .i64 2, .bool false] : List Value).length from infoN31)
      have hone : ∀ u ∈ ([.slice none 0 0, .slice none 0 0, .int .i64 0, .int .i64 2, .bool false] : List Value), u.oneCell' = true := by intro u hu; simp only [List.mem_cons, List.not_mem_nil, or_false] at hu; rcases hu with rfl | rfl | rfl | rfl | rfl <;> rfl
      go_enter Try.func19, Try.ntmps19
      go_wp2_with fail
      refine (specl1In_c _ _ _ _).mono ?_
      rintro e w1 ⟨rfl, rfl⟩
      rw [hd]
      go_wp2_with (with_reducible refine stR rfl 31 _ _ rfl (w.heap.size + 1) 0 rfl [.slice none 0 0, .slice none 0 0, .int .i64 0, .int .i64 2, .bool false] rfl hif.out hone #[.slice none 0 0, .slice none 0 0, .int .i64 0, .int .i64 0, .bool false] #[.slice none 0 0, .slice none 0 0, .int .i64 0, .int .i64 2, .bool false] 31 HR.out hff.out haf.out ?_)
      intro vf hpf
      have hVf := hpf.below hV (by omega)
      have cR := row_cells (cs := [.slice none 0 0, .slice none 0 0, .int .i64 0, .int .i64 2, .bool false]) hpf.row
      go_wp2
      exact bodyPost_ret (v := .agg #[.slice none 0 0, .slice none 0 0, .int .i64 0, .int .i64 2, .bool false]) (run_res Try.results19 (w.heap.size + 1) rfl [.slice none 0 0, .slice none 0 0, .int .i64 0, .int .i64 2, .bool false] cR _ Try.underlying31 hif.out) rfl ⟨[.slice none 0 0, .slice none 0 0, .int .i64 0, .int .i64 2, .bool false], _, rfl, own_bad _, List.nodup_nil, by simp, hVf⟩
  · have hd : decide ((0 : Int) ≤ n ∧ n ≤ (m.fCodes.length : Int) - 1) = false := by simp; omega
    have hV : Below w.heap.size w ((w.alloc (.cells #[.slice a m.fCodes.length cap, c1] 54)).alloc (.cells #[.slice none 0 0, .slice none 0 0, .int .i64 0, .int .i64 0, .bool false] 31)) := ((Below.refl _ _).alloc (Nat.le_refl _) _).alloc (by simp) _
    have Hq := Lib.hid (vmNew_out (m := m) (l := l) (show n < 0 ∨ (m.fCodes.length : Int) ≤ n by omega))
    rw [Hq.out]
    have HR := Lib.hid (show ((w.alloc (.cells #[.slice a m.fCodes.length cap, c1] 54)).alloc (.cells #[.slice none 0 0, .slice none 0 0, .int .i64 0, .int .i64 0, .bool false] 31)).heap[w.heap.size + 1]? = some (.cells #[.slice none 0 0, .slice none 0 0, .int .i64 0, .int .i64 0, .bool false] 31 (0, 0)) from alloc_at (by simp))
    have haf := Lib.hid (show ((#[.slice none 0 0, .slice none 0 0, .int .i64 0, .int .i64 0, .bool false] : Array Value).toList.take 0 ++ ([.slice none 0 0, .slice none 0 0, .int .i64 0, .int .i64 2, .bool false] : List Value) ++ (#[.slice none 0 0, .slice none 0 0, .int .i64 0, .int .i64 0, .bool false] : Array Value).toList.drop (0 + ([.slice none 0 0, .slice none 0 0, .int .i64 0, .int .i64 2, .bool false] : List Value).length)).toArray = #[.slice none 0 0, .slice none 0 0, .int .i64 0, .int .i64 2, .bool false] from rfl)
    have hff := Lib.hid (show 0 + ([.slice none 0 0, .slice none 0 0, .int .i64 0, .int .i64 2, .bool false] : List Value).length ≤ (#[.slice none 0 0, .slice none 0 0, .int .i64 0, .int .i64 0, .bool false] : Array Value).size from (by decide : 0 + 5 ≤ 5))
    have hif := Lib.hid (show (Try.prog.info? 31).map (·.size) = some ([.slice none 0 0, .slice none 0 0, .int .i64 0, .int .i64 2, .bool false] : List Value).length from infoN31)
    have hone : ∀ u ∈ ([.slice none 0 0, .slice none 0 0, .int .i64 0, .int .i64 2, .bool false] : List Value), u.oneCell' = true := by intro u hu; simp only [List.mem_cons, List.not_mem_nil, or_false] at hu; rcases hu with rfl | rfl | rfl | rfl | rfl <;> rfl
    go_enter Try.func19, Try.ntmps19
    go_wp2_with fail
    refine (specl1In_c _ _ _ _).mono ?_
    rintro e w1 ⟨rfl, rfl⟩
    rw [hd]
    go_wp2_with (with_reducible refine stR rfl 31 _ _ rfl (w.heap.size + 1) 0 rfl [.slice none 0 0, .slice none 0 0, .int .i64 0, .int .i64 2, .bool false] rfl hif.out hone #[.slice none 0 0, .slice none 0 0, .int .i64 0, .int .i64 0, .bool false] #[.slice none 0 0, .slice none 0 0, .int .i64 0, .int .i64 2, .bool false] 31 HR.out hff.out haf.out ?_)
    intro vf hpf
    have hVf := hpf.below hV (by omega)
    have cR := row_cells (cs := [.slice none 0 0, .slice none 0 0, .int .i64 0, .int .i64 2, .bool false]) hpf.row
    go_wp2
    exact bodyPost_ret (v := .agg #[.slice none 0 0, .slice none 0 0, .int .i64 0, .int .i64 2, .bool false]) (run_res Try.results19 (w.heap.size + 1) rfl [.slice none 0 0, .slice none 0 0, .int .i64 0, .int .i64 2, .bool false] cR _ Try.underlying31 hif.out) rfl ⟨[.slice none 0 0, .slice none 0 0, .int .i64 0, .int .i64 2, .bool false], _, rfl, own_bad _, List.nodup_nil, by simp, hVf⟩
set_option maxRecDepth 100000 in
set_option maxHeartbeats 1000000 in
theorem implNewVM_c (m : TMachine) (n : Int) (l : List TValue) (hz : szs TValue.sz l ≤ 1048576) : ∀ (w : World) (K : Nat → Prop) (_ : ∀ b, K b → b < w.heap.size) (cs : List Value) (_ : Rep w K m.enc cs) (_ : InR n) (v : Value) (_ : Rep w K (.sl (l.map TValue.enc)) [v]),
    Calls Try.prog 22 #[.agg cs.toArray, .int .i64 n, v] w fun e w' => ∃ cs' bs, e = .returned (.agg cs'.toArray) ∧ Own w' (vmNew m n l).enc cs' bs ∧ bs.Nodup ∧ (∀ b ∈ bs, w.heap.size ≤ b ∧ b < w'.heap.size) ∧ Below w.heap.size w w' := by
  intro w K hK cs h hn v hv
  obtain ⟨c0, c1, rfl, hC, -⟩ := TMachine.opn h
  clear h
  obtain ⟨a, cap, rfl, hc, hm, -, hE⟩ := open_sl TCode.width hC
  unfold maxLen at hm
  clear hC
  have hlen : l.length ≤ 1048576 := by unfold szs at hz; omega
  have Hz := Lib.hid hz; clear hz
  have hn1 := hn.lo
  have hn2 := hn.hi
  have Hn := Lib.hid hn; clear hn
  obtain ⟨a0, cap0, rfl, -, -, -, -⟩ := open_sl TValue.width hv
  have Hv := Lib.hid hv; clear hv
  by_cases hin : 0 ≤ n ∧ n < m.fCodes.length
  · obtain ⟨k, rfl⟩ := Int.eq_ofNat_of_zero_le hin.1
    have hk : k < m.fCodes.length := by omega
    obtain ⟨b, off, rfl, hKb, cs, hcs, hr⟩ := hE k hk
    have hp1 := fun h => vmNew_ok (l := l) hk h
    have hp2 := fun h => vmNew_params (l := l) hk h
    have Hp1 := Lib.hid hp1; have Hp2 := Lib.hid hp2
    clear hp1 hp2 hE
    generalize m.fCodes[k] = t at *
    obtain ⟨t1, rfl, -, -⟩ := TCode.opn hr
    have hl0 : b < w.heap.size := hK b hKb
    have g0 : w.cell? ⟨b, off + k * 2, none⟩ = some (.int .i64 t.fParams) := by simpa using hcs 0 _ rfl
    clear hcs hr hin
    have hV : Below w.heap.size w ((w.alloc (.cells #[.slice (some ⟨b, off, none⟩) m.fCodes.length cap, c1] 54)).alloc (.cells #[.slice none 0 0, .slice none 0 0, .int .i64 0, .int .i64 0, .bool false] 31)) := ((Below.refl _ _).alloc (Nat.le_refl _) _).alloc (by simp) _
    have d1 : ¬ ((k : Int) < 0) := by omega
    have d2 : ¬ ((m.fCodes.length : Int) ≤ (k : Int)) := by omega
    by_cases hp : t.fParams = (l.length : Int)
    · have bp : ((l.length : Int) != t.fParams) = false := by simp [hp]
      have hq := Hp1.out hp
      have Hq := Lib.hid hq
      clear hq hp Hp1 Hp2
      have HR := Lib.hid (show ((w.alloc (.cells #[.slice (some ⟨b, off, none⟩) m.fCodes.length cap, c1] 54)).alloc (.cells #[.slice none 0 0, .slice none 0 0, .int .i64 0, .int .i64 0, .bool false] 31)).heap[w.heap.size + 1]? = some (.cells #[.slice none 0 0, .slice none 0 0, .int .i64 0, .int .i64 0, .bool false] 31 (0, 0)) from alloc_at (by simp))
      have hs : w.heap.size + 1 < ((w.alloc (.cells #[.slice (some ⟨b, off, none⟩) m.fCodes.length cap, c1] 54)).alloc (.cells #[.slice none 0 0, .slice none 0 0, .int .i64 0, .int .i64 0, .bool false] 31)).heap.size := by simp
      rw [Hq.out]
      go_enter Try.func22, Try.ntmps22
      go_wp2_with fail
      refine (implcopyValues_c l Hz.out _ K (fun b hb => Nat.lt_of_lt_of_le (hK b hb) hV.size) _ (Rep.ext hV hK Hv.out)).mono ?_
      rintro e w1 ⟨a1, p1, b1, rfl, o1, n1, r1, hB1⟩
      have O1 := Lib.hid o1; clear o1
      have s1 : ∀ x ∈ b1, w.heap.size + 1 + 1 ≤ x ∧ x < w1.heap.size := by intro x hx; have := r1 x hx; (try simp at this); omega
      have y1 : w.heap.size + 1 + 1 ≤ w1.heap.size := by have := hB1.size; (try simp at this); omega
      replace HR := Lib.hid (row_below HR.out hB1 hs)
      replace hV := hV.trans (hB1.mono hV.size)
      clear r1 hs hB1
      have hBa : Below w1.heap.size w1 (w1.alloc (.cells #[.int .i64 (k : Int), .int .i64 0, .int .i64 0, .slice a1 l.length p1] 83)) := (Below.refl _ _).alloc (Nat.le_refl _) _
      replace HR := Lib.hid (row_below HR.out hBa (by omega))
      have HF := Lib.hid (show (w1.alloc (.cells #[.int .i64 (k : Int), .int .i64 0, .int .i64 0, .slice a1 l.length p1] 83)).heap[w1.heap.size]? = _ from alloc_at rfl)
      replace O1 := Lib.hid (O1.out.below hBa)
      replace hV := hV.trans (hBa.mono hV.size)
      clear hBa
      have haf := Lib.hid (show ((#[.slice none 0 0, .slice none 0 0, .int .i64 0, .int .i64 0, .bool false] : Array Value).toList.take 0 ++ ([.slice none 0 0, .slice (some ⟨w1.heap.size, 0, none⟩) 1 1, .int .i64 0, .int .i64 0, .bool false] : List Value) ++ (#[.slice none 0 0, .slice none 0 0, .int .i64 0, .int .i64 0, .bool false] : Array Value).toList.drop (0 + ([.slice none 0 0, .slice (some ⟨w1.heap.size, 0, none⟩) 1 1, .int .i64 0, .int .i64 0, .bool false] : List Value).length)).toArray = #[.slice none 0 0, .slice (some ⟨w1.heap.size, 0, none⟩) 1 1, .int .i64 0, .int .i64 0, .bool false] from rfl)
      have hff := Lib.hid (show 0 + ([.slice none 0 0, .slice (some ⟨w1.heap.size, 0, none⟩) 1 1, .int .i64 0, .int .i64 0, .bool false] : List Value).length ≤ (#[.slice none 0 0, .slice none 0 0, .int .i64 0, .int .i64 0, .bool false] : Array Value).size from (by decide : 0 + 5 ≤ 5))
      have hif := Lib.hid (show (Try.prog.info? 31).map (·.size) = some ([.slice none 0 0, .slice (some ⟨w1.heap.size, 0, none⟩) 1 1, .int .i64 0, .int .i64 0, .bool false] : List Value).length from infoN31)
      have hone : ∀ u ∈ ([.slice none 0 0, .slice (some ⟨w1.heap.size, 0, none⟩) 1 1, .int .i64 0, .int .i64 0, .bool false] : List Value), u.oneCell' = true := by intro u hu; simp only [List.mem_cons, List.not_mem_nil, or_false] at hu; rcases hu with rfl | rfl | rfl | rfl | rfl <;> rfl
      go_wp2_with (with_reducible refine stR rfl 31 _ _ rfl (w.heap.size + 1) 0 rfl [.slice none 0 0, .slice (some ⟨w1.heap.size, 0, none⟩) 1 1, .int .i64 0, .int .i64 0, .bool false] rfl hif.out hone #[.slice none 0 0, .slice none 0 0, .int .i64 0, .int .i64 0, .bool false] #[.slice none 0 0, .slice (some ⟨w1.heap.size, 0, none⟩) 1 1, .int .i64 0, .int .i64 0, .bool false] 31 HR.out hff.out haf.out ?_)
      intro vf hpf
      have hVf := hpf.below hV (by omega)
      have cR := row_cells (cs := [.slice none 0 0, .slice (some ⟨w1.heap.size, 0, none⟩) 1 1, .int .i64 0, .int .i64 0, .bool false]) hpf.row
      have yf := hpf.size
      have OF := own_vm Hn.out (O1.out.put hpf (fun x hx => by have := s1 x hx; omega)) (row_put HF.out hpf (by omega))
      go_wp2
      refine bodyPost_ret (v := .agg #[.slice none 0 0, .slice (some ⟨w1.heap.size, 0, none⟩) 1 1, .int .i64 0, .int .i64 0, .bool false]) (run_res Try.results22 (w.heap.size + 1) rfl [.slice none 0 0, .slice (some ⟨w1.heap.size, 0, none⟩) 1 1, .int .i64 0, .int .i64 0, .bool false] cR _ Try.underlying31 hif.out) rfl ⟨[.slice none 0 0, .slice (some ⟨w1.heap.size, 0, none⟩) 1 1, .int .i64 0, .int .i64 0, .bool false], _, rfl, OF, ?_, ?_, hVf⟩
      · simp only [List.nil_append, List.append_nil]
        refine List.nodup_cons.2 ⟨fun q => ?_, n1⟩
        have := s1 _ q
        omega
      · intro x hx
        simp only [List.nil_append, List.append_nil, List.mem_cons] at hx
        simp only [World.size_alloc] at yf
        rcases hx with rfl | hx
        · omega
        · have := s1 x hx
          omega
    · have bp : ((l.length : Int) != t.fParams) = true := by simpa using fun q => hp q.symm
      have hq := Hp2.out hp
      have Hq := Lib.hid hq
      clear hq hp Hp1 Hp2
      rw [Hq.out]
      have HR := Lib.hid (show ((w.alloc (.cells #[.slice (some ⟨b, off, none⟩) m.fCodes.length cap, c1] 54)).alloc (.cells #[.slice none 0 0, .slice none 0 0, .int .i64 0, .int .i64 0, .bool false] 31)).heap[w.heap.size + 1]? = some (.cells #[.slice none 0 0, .slice none 0 0, .int .i64 0, .int .i64 0, .bool false] 31 (0, 0)) from alloc_at (by simp))
      have haf := Lib.hid (show ((#[.slice none 0 0, .slice none 0 0, .int .i64 0, .int .i64 0, .bool false] : Array Value).toList.take 0 ++ ([.slice none 0 0, .slice none 0 0, .int .i64 0, .int .i64 2, .bool false] : List Value) ++ (#[.slice none 0 0, .slice none 0 0, .int .i64 0, .int .i64 0, .bool false] : Array Value).toList.drop (0 + ([.slice none 0 0, .slice none 0 0, .int .i64 0, .int .i64 2, .bool false] : List Value).length)).toArray = #[.slice none 0 0, .slice none 0 0, .int .i64 0, .int .i64 2, .bool false] from rfl)
      have hff := Lib.hid (show 0 + ([.slice none 0 0, .slice none 0 0, .int .i64 0, .int .i64 2, .bool false] : List Value).length ≤ (#[.slice none 0 0, .slice none 0 0, .int .i64 0, .int .i64 0, .bool false] : Array Value).size from (by decide : 0 + 5 ≤ 5))
      have hif := Lib.hid (show (Try.prog.info? 31).map (·.size) = some ([.slice none 0 0, .slice none 0 0, .int .i64 0, .int .i64 2, .bool false] : List Value).length from infoN31)
      have hone : ∀ u ∈ ([.slice none 0 0, .slice none 0 0, .int .i64 0, .int .i64 2, .bool false] : List Value), u.oneCell' = true := by intro u hu; simp only [List.mem_cons, List.not_mem_nil, or_false] at hu; rcases hu with rfl | rfl | rfl | rfl | rfl <;> rfl
      go_enter Try.func22, Try.ntmps22
      go_wp2_with (with_reducible refine stR rfl 31 _ _ rfl (w.heap.size + 1) 0 rfl [.slice none 0 0, .slice none 0 0, .int .i64 0, .int .i64 2, .bool false] rfl hif.out hone #[.slice none 0 0, .slice none 0 0, .int .i64 0, .int .i64 0, .bool false] #[.slice none 0 0, .slice none 0 0, .int .i64 0, .int .i64 2, .bool false] 31 HR.out hff.out haf.out ?_)
      intro vf hpf
      have hVf := hpf.below hV (by omega)
      have cR := row_cells (cs := [.slice none 0 0, .slice none 0 0, .int .i64 0, .int .i64 2, .bool false]) hpf.row
      go_wp2
      exact bodyPost_ret (v := .agg #[.slice none 0 0, .slice none 0 0, .int .i64 0, .int .i64 2, .bool false]) (run_res Try.results22 (w.heap.size + 1) rfl [.slice none 0 0, .slice none 0 0, .int .i64 0, .int .i64 2, .bool false] cR _ Try.underlying31 hif.out) rfl ⟨[.slice none 0 0, .slice none 0 0, .int .i64 0, .int .i64 2, .bool false], _, rfl, own_bad _, List.nodup_nil, by simp, hVf⟩
  · have hV : Below w.heap.size w ((w.alloc (.cells #[.slice a m.fCodes.length cap, c1] 54)).alloc (.cells #[.slice none 0 0, .slice none 0 0, .int .i64 0, .int .i64 0, .bool false] 31)) := ((Below.refl _ _).alloc (Nat.le_refl _) _).alloc (by simp) _
    have Hq := Lib.hid (vmNew_out (m := m) (l := l) (show n < 0 ∨ (m.fCodes.length : Int) ≤ n by omega))
    rcases (show n < 0 ∨ (0 ≤ n ∧ (m.fCodes.length : Int) ≤ n) by omega) with h0 | ⟨h0, h1⟩
    · rw [Hq.out]
      have HR := Lib.hid (show ((w.alloc (.cells #[.slice a m.fCodes.length cap, c1] 54)).alloc (.cells #[.slice none 0 0, .slice none 0 0, .int .i64 0, .int .i64 0, .bool false] 31)).heap[w.heap.size + 1]? = some (.cells #[.slice none 0 0, .slice none 0 0, .int .i64 0, .int .i64 0, .bool false] 31 (0, 0)) from alloc_at (by simp))
      have haf := Lib.hid (show ((#[.slice none 0 0, .slice none 0 0, .int .i64 0, .int .i64 0, .bool false] : Array Value).toList.take 0 ++ ([.slice none 0 0, .slice none 0 0, .int .i64 0, .int .i64 2, .bool false] : List Value) ++ (#[.slice none 0 0, .slice none 0 0, .int .i64 0, .int .i64 0, .bool false] : Array Value).toList.drop (0 + ([.slice none 0 0, .slice none 0 0, .int .i64 0, .int .i64 2, .bool false] : List Value).length)).toArray = #[.slice none 0 0, .slice none 0 0, .int .i64 0, .int .i64 2, .bool false] from rfl)
      have hff := Lib.hid (show 0 + ([.slice none 0 0, .slice none 0 0, .int .i64 0, .int .i64 2, .bool false] : List Value).length ≤ (#[.slice none 0 0, .slice none 0 0, .int .i64 0, .int .i64 0, .bool false] : Array Value).size from (by decide : 0 + 5 ≤ 5))
      have hif := Lib.hid (show (Try.prog.info? 31).map (·.size) = some ([.slice none 0 0, .slice none 0 0, .int .i64 0, .int .i64 2, .bool false] : List Value).length from infoN31)
      have hone : ∀ u ∈ ([.slice none 0 0, .slice none 0 0, .int .i64 0, .int .i64 2, .bool false] : List Value), u.oneCell' = true := by intro u hu; simp only [List.mem_cons, List.not_mem_nil, or_false] at hu; rcases hu with rfl | rfl | rfl | rfl | rfl <;> rfl
      go_enter Try.func22, Try.ntmps22
      go_wp2_with (with_reducible refine stR rfl 31 _ _ rfl (w.heap.size + 1) 0 rfl [.slice none 0 0, .slice none 0 0, .int .i64 0, .int .i64 2, .bool false] rfl hif.out hone #[.slice none 0 0, .slice none 0 0, .int .i64 0, .int .i64 0, .bool false] #[.slice none 0 0, .slice none 0 0, .int .i64 0, .int .i64 2, .bool false] 31 HR.out hff.out haf.out ?_)
      intro vf hpf
      have hVf := hpf.below hV (by omega)
      have cR := row_cells (cs := [.slice none 0 0, .slice none 0 0, .int .i64 0, .int .i64 2, .bool false]) hpf.row
      go_wp2
      exact bodyPost_ret (v := .agg #[.slice none 0 0, .slice none 0 0, .int .i64 0, .int .i64 2, .bool false]) (run_res Try.results22 (w.heap.size + 1) rfl [.slice none 0 0, .slice none 0 0, .int .i64 0, .int .i64 2, .bool false] cR _ Try.underlying31 hif.out) rfl ⟨[.slice none 0 0, .slice none 0 0, .int .i64 0, .int .i64 2, .bool false], _, rfl, own_bad _, List.nodup_nil, by simp, hVf⟩
    · have d1 : ¬ (n < 0) := by omega
      rw [Hq.out]
      have HR := Lib.hid (show ((w.alloc (.cells #[.slice a m.fCodes.length cap, c1] 54)).alloc (.cells #[.slice none 0 0, .slice none 0 0, .int .i64 0, .int .i64 0, .bool false] 31)).heap[w.heap.size + 1]? = some (.cells #[.slice none 0 0, .slice none 0 0, .int .i64 0, .int .i64 0, .bool false] 31 (0, 0)) from alloc_at (by simp))
      have haf := Lib.hid (show ((#[.slice none 0 0, .slice none 0 0, .int .i64 0, .int .i64 0, .bool false] : Array Value).toList.take 0 ++ ([.slice none 0 0, .slice none 0 0, .int .i64 0, .int .i64 2, .bool false] : List Value) ++ (#[.slice none 0 0, .slice none 0 0, .int .i64 0, .int .i64 0, .bool false] : Array Value).toList.drop (0 + ([.slice none 0 0, .slice none 0 0, .int .i64 0, .int .i64 2, .bool false] : List Value).length)).toArray = #[.slice none 0 0, .slice none 0 0, .int .i64 0, .int .i64 2, .bool false] from rfl)
      have hff := Lib.hid (show 0 + ([.slice none 0 0, .slice none 0 0, .int .i64 0, .int .i64 2, .bool false] : List Value).length ≤ (#[.slice none 0 0, .slice none 0 0, .int .i64 0, .int .i64 0, .bool false] : Array Value).size from (by decide : 0 + 5 ≤ 5))
      have hif := Lib.hid (show (Try.prog.info? 31).map (·.size) = some ([.slice none 0 0, .slice none 0 0, .int .i64 0, .int .i64 2, .bool false] : List Value).length from infoN31)
      have hone : ∀ u ∈ ([.slice none 0 0, .slice none 0 0, .int .i64 0, .int .i64 2, .bool false] : List Value), u.oneCell' = true := by intro u hu; simp only [List.mem_cons, List.not_mem_nil, or_false] at hu; rcases hu with rfl | rfl | rfl | rfl | rfl <;> rfl
      go_enter Try.func22, Try.ntmps22
      go_wp2_with (with_reducible refine stR rfl 31 _ _ rfl (w.heap.size + 1) 0 rfl [.slice none 0 0, .slice none 0 0, .int .i64 0, .int .i64 2, .bool false] rfl hif.out hone #[.slice none 0 0, .slice none 0 0, .int .i64 0, .int .i64 0, .bool false] #[.slice none 0 0, .slice none 0 0, .int .i64 0, .int .i64 2, .bool false] 31 HR.out hff.out haf.out ?_)
      intro vf hpf
      have hVf := hpf.below hV (by omega)
      have cR := row_cells (cs := [.slice none 0 0, .slice none 0 0, .int .i64 0, .int .i64 2, .bool false]) hpf.row
      go_wp2
      exact bodyPost_ret (v := .agg #[.slice none 0 0, .slice none 0 0, .int .i64 0, .int .i64 2, .bool false]) (run_res Try.results22 (w.heap.size + 1) rfl [.slice none 0 0, .slice none 0 0, .int .i64 0, .int .i64 2, .bool false] cR _ Try.underlying31 hif.out) rfl ⟨[.slice none 0 0, .slice none 0 0, .int .i64 0, .int .i64 2, .bool false], _, rfl, own_bad _, List.nodup_nil, by simp, hVf⟩
theorem vmNew_tcnt (m : TMachine) (n : Int) (l : List TValue) : tcnt (vmNew m n l).enc ≤ 32 + 32 * szs TValue.sz l := by
  have hb : tcnt (TVM.enc ⟨[], [], 0, 2, false⟩) = 0 := by rw [TVM.tcnt_eq]; simp [cnts]
  have hg : tcnt (TVM.enc ⟨[], [⟨n, 0, 0, l⟩], 0, 0, false⟩) = 3 + cnts (l.map TValue.enc) := by rw [TVM.tcnt_eq]; simp [cnts, TFrame.cnt_flat]
  have hl := cnts_map_le (f := TValue.sz) (fun y => Nat.le_trans (TValue.cnt_le y) (by omega)) l
  unfold vmNew
  split
  · split
    · rw [hg]; omega
    · rw [hb]; omega
  · rw [hb]; omega
end Go.Proofs.Ytnlmldgbhdcpbaa
