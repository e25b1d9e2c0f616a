/- CompileSpecialization of spec and impl, each walked once. Condition: the argument's size is at most 1048576. -/
import Derived.Test.YtkmiecgcibjkbaaGreatComp3
import Derived.Test.YtkmiecgcibjkbaaGreatMkBound
namespace Go.Proofs.YtkmiecgcibjkbaaGreat
open Go.RowKit
/-- what the code of a body becomes -/
def cmpEnd (p : List ByteArray) (t : CS) : TCode × Bool := if t.bad = true then (⟨0, []⟩, false) else (⟨p.length, (t.add (opOne 14)).list⟩, true)
theorem cmpEnd_bad {p : List ByteArray} {t : CS} (h : t.bad = true) : cmpEnd p t = (⟨0, []⟩, false) := if_pos h
theorem cmpEnd_ok {p : List ByteArray} {t : CS} (h : t.bad = false) : cmpEnd p t = (⟨p.length, (t.add (opOne 14)).list⟩, true) := if_neg (by simp [h])
theorem cmpEnd_rl {p : List ByteArray} {t u : CS} (r : Rl t u) : cmpEnd p t = cmpEnd p u := by
 rcases r with rfl | ⟨h1, h2⟩
 ·rfl
 ·rw [cmpEnd_bad h1, cmpEnd_bad h2]
noncomputable def cmpOf (x : TSpecialization) : TCode × Bool := cmpEnd x.fParams (sC (SizeOf.sizeOf x.fBody + 1) x.fBody ⟨[], x.fParams, false⟩)
theorem cmpOf_impl (x : TSpecialization) : cmpOf x = cmpEnd x.fParams (iC (SizeOf.sizeOf x.fBody + 1) x.fBody ⟨[], x.fParams, false⟩) :=
 cmpEnd_rl ((ag_C _).rl x.fBody _ rfl)
noncomputable def cmp (x : TMonoProgram) (n : Int) : TCode × Bool :=
 if h : 0 ≤ n ∧ n.toNat < x.fSpecializations.length then cmpOf (x.fSpecializations[n.toNat]'h.2) else (⟨0, []⟩, false)
theorem cmp_in {x : TMonoProgram} {k : Nat} (h : k < x.fSpecializations.length) : cmp x (k : Int) = cmpOf x.fSpecializations[k] := by
 unfold cmp
 rw [dif_pos ⟨by omega, by simpa using h⟩]
 simp
theorem cmp_out {x : TMonoProgram} {n : Int} (h : n < 0 ∨ (x.fSpecializations.length : Int) ≤ n) : cmp x n = (⟨0, []⟩, false) := by
 unfold cmp
 rw [dif_neg (by omega)]
theorem spec_szs (x : TSpecialization) : x.fParams.length + x.fBody.sz ≤ x.sz := by
 rw [TSpecialization.sz_eq]
 simp only [szs]
 omega
theorem cnts_flat5 : ∀ l : List TInstr, cnts (l.map TInstr.enc) = 5 * l.length
 | [] => rfl
 | x :: l => by
  simp only [List.map_cons, cnts, List.length_cons]
  rw [cnts_flat5 l, TInstr.cnt_flat]
  omega
theorem cmpOf_tcnt (x : TSpecialization) : tcnt (cmpOf x).1.enc ≤ 20 + 20 * x.sz := by
 have hb := bd_sC (SizeOf.sizeOf x.fBody + 1) x.fBody ⟨[], x.fParams, false⟩
 have hs := spec_szs x
 unfold cmpOf cmpEnd
 split
 ·rw [TCode.tcnt_eq]
  simp [cnts]
 ·rw [TCode.tcnt_eq]
  simp only [cnts_flat5, CS.add_len]
  simp only [List.length_nil] at hb
  omega
theorem cmp_tcnt (x : TMonoProgram) (n : Int) (hz : x.sz ≤ 1048576) : tcnt (cmp x n).1.enc ≤ 30000000 := by
 unfold cmp
 split
 ·rename_i h
  have hm : x.fSpecializations[n.toNat]'h.2 ∈ x.fSpecializations := List.getElem_mem h.2
  have h1 := szL_le TSpecialization.sz hm
  have h2 := cmpOf_tcnt (x.fSpecializations[n.toNat]'h.2)
  rw [TMonoProgram.sz_eq] at hz
  simp only [szs] at hz
  omega
 ·rw [TCode.tcnt_eq]
  simp [cnts]
/-- two results: one that lies in a cell of its own, and one in a slot -/
theorem run_res2 {P : Program} {fn : Func} {tmps : Array Value} {w : World} {k ty j : Nat} (hr : fn.results = #[.cell k ty, .tmp j]) (b : Nat) (hx : tmps.getD k undef = .pointer (some ⟨b, 0, none⟩)) (cs : List Value) (hc : Cells w b 0 cs)
  (fs : Array Field) (hu : P.underlying ty = some (.struct fs)) (hi : (P.info? ty).map (·.size) = some cs.length) (v : Value) (hv : tmps.getD j undef = v) : (results fn tmps).run P w = .ok (.tuple #[.agg cs.toArray, v]) w := by
 have h := run_loadVar ty b 0 cs hc fs hu hi
 unfold results
 have hx' : tmps[k]?.getD undef = .pointer (some ⟨b, 0, none⟩) := by simpa using hx
 have hv' : tmps[j]?.getD undef = v := by simpa using hv
 rw [hr]
 simp [hx', hv', asAddr, h]
section
variable {P : Program} {w : World} {o : Oper} {a : Act} {ops : Array Oper} {K : Act → World → Prop}
/-- a struct is stored -/
theorem oj_stR (hg : Region.wanted o (yielded ops a.tmps) = true) (ty : TypeId) (x v : Operand) (ho : o.op = .store ty x v) (g off : Nat) (hx : a.eval x = .pointer (some ⟨g, off, none⟩)) (cs : List Value) (hv : a.eval v = .agg cs.toArray) (hi : (P.info? ty).map (·.size) = some cs.length) (h1 : ∀ u ∈ cs, u.oneCell' = true)
  (cur : Array Value) (t : TypeId) (hr : w.heap[g]? = some (.cells cur t (0, 0))) (hf : off + cs.length ≤ cur.size)
  (h : ∀ w', Put w w' g (cur.toList.take off ++ cs ++ cur.toList.drop (off + cs.length)).toArray t → K (a.put o.dst undef) w') : oneI P ops [o] a w K := by
 have hst := run_storeCells_at P g off t cs 0 cur w hr (by simpa using hf) h1
 simp only [Nat.add_zero] at hst
 cases hq : P.info? ty with
 | none => simp [hq] at hi
 | some i =>
  have hs : i.size = cs.length := by simpa [hq] using hi
  have hsv : (storeVar ty ⟨g, off, none⟩ (.agg cs.toArray)).run P w = .ok () (w.setRow g (cur.toList.take off ++ cs ++ cur.toList.drop (off + cs.length)).toArray) := by
   simp only [storeVar, Sem.run_bind, sizeOf, typeInfo, Value.cells]
   simpa [typeInfo, hq, hs] using hst
  have hrun : (execOp a.eval o).run P w = .ok .skip (w.setRow g (cur.toList.take off ++ cs ++ cur.toList.drop (off + cs.length)).toArray) := by
   unfold execOp
   simp only [ho, hx, hv, Go.Instr.storeAt, Go.Instr.sureAddr, Sem.run_bind, Sem.run_pure, Result.andThen_ok, hsv]
  exact rj_skip hg _ hrun (h _ ⟨rfl, rfl, rfl, by simp, fun b hb => setRow_other w g b _ hb, setRow_heap w g cur _ t (0, 0) hr⟩)
end
set_option maxHeartbeats 1000000 in
theorem specl1In_c (x lo hi : Int) (w : World) :
  Calls Tryz.prog 93 #[.int .i64 x, .int .i64 lo, .int .i64 hi] w fun e w' => e = .returned (.bool (decide (lo ≤ x ∧ x ≤ hi))) ∧ w' = w := by
 by_cases h1 : lo ≤ x
 ·by_cases h2 : x ≤ hi
  ·go_enter Tryz.func93, Tryz.ntmps93
   go_wp2
   go_ret
   exact ⟨ret_bool (by simp [h1, h2]), rfl⟩
  ·go_enter Tryz.func93, Tryz.ntmps93
   go_wp2
   go_ret
   exact ⟨ret_bool (by simp [h2]), rfl⟩
 ·go_enter Tryz.func93, Tryz.ntmps93
  go_wp2
  go_ret
  exact ⟨ret_bool (by simp; omega), rfl⟩
set_option maxHeartbeats 1000000 in
theorem implcopyNames_c (l : List ByteArray) (hl : l.length ≤ 1048576) : ∀ (w : World) (K : Nat → Prop) (_ : ∀ b, K b → b < w.heap.size) (v : Value) (_ : Rep w K (.sl (l.map encS)) [v]),
  Calls Tryz.prog 98 #[v] w fun e w' => ∃ v', e = .returned v' ∧ Gr w' w.heap.size 9 1 (l.map encS) v' [] ∧ Below w.heap.size w w' := by
 intro w K hK v h
 have G := Lib.hid (Gr.nil w w.heap.size 9 1)
 obtain ⟨a, cap, rfl, -, -, -, -⟩ := open_sl encS_w h
 go_enter Tryz.func98, Tryz.ntmps98
 go_wp2_with (with_reducible refine apf rfl _ _ 48 rfl (.string ⟨#[]⟩) 16 Tryz.underlying48 zinfoN zsizeN (by decide) rfl G.out rfl h encS_w flatS (by unfold maxLen; simp; omega) (by simp; omega) (Nat.le_refl _) ?_)
 intro v' w' hG hB hk
 have H := Lib.hid hG
 clear hG hk
 go_wp2
 go_ret
 exact ⟨v', rfl, by simpa using H.out, hB⟩
theorem infoC2 : (Tryz.prog.info? 81).map (·.size) = some 2 := by kernel_rfl
theorem infoSp : (Tryz.prog.info? 163).map (·.size) = some 14 := by kernel_rfl
theorem cmpNil_own (w : World) : Own w (TCode.enc ⟨0, []⟩) [.int .i64 0, .slice none 0 0] ([] ++ []) :=
 TCode.mk_own (x := ⟨0, []⟩) (inR_n 0 (by decide)) (own_nil (l := ([] : List TInstr)) rfl (by simp [maxLen]) (by simp))
theorem two_one {u v : Value} (hu : u.oneCell' = true) (hv : v.oneCell' = true) : ∀ x ∈ ([u, v] : List Value), x.oneCell' = true := by
 intro x hx
 simp only [List.mem_cons, List.not_mem_nil, or_false] at hx
 rcases hx with rfl | rfl
 ·exact hu
 ·exact hv
set_option maxRecDepth 100000 in
set_option maxHeartbeats 4000000 in
theorem specCompileSpecialization_c (x : TMonoProgram) (n : Int) (hz : x.sz ≤ 1048576) : ∀ (w : World) (K : Nat → Prop) (_ : ∀ b, K b → b < w.heap.size) (cs : List Value) (_ : Rep w K x.enc cs) (_ : InR n),
  Calls Tryz.prog 36 #[.agg cs.toArray, .int .i64 n] w fun e w' => ∃ cs' bs, e = .returned (.tuple #[.agg cs'.toArray, .bool (cmp x n).2]) ∧ Own w' (cmp x n).1.enc cs' bs ∧ bs.Nodup ∧ (∀ b ∈ bs, w.heap.size ≤ b ∧ b < w'.heap.size) ∧ Below w.heap.size w w' := by
 intro w K hK cs h hn
 obtain ⟨c0, c1, rfl, hC, -⟩ := TMonoProgram.opn h
 clear h
 obtain ⟨a, cap, rfl, hc, hm, -, hE⟩ := open_sl TSpecialization.width hC
 unfold maxLen at hm
 clear hC
 have hn1 := hn.lo
 have hn2 := hn.hi
 clear hn
 rw [TMonoProgram.sz_eq] at hz
 by_cases hin : 0 ≤ n ∧ n < x.fSpecializations.length
 ·obtain ⟨k, rfl⟩ := Int.eq_ofNat_of_zero_le hin.1
  have hk : k < x.fSpecializations.length := by omega
  obtain ⟨b, off, rfl, hKb, cs, hcs, hr⟩ := hE k hk
  rw [cmp_in hk]
  have hsz : TSpecialization.sz x.fSpecializations[k] ≤ 1048576 := by have := szL_le TSpecialization.sz (List.getElem_mem hk); unfold szs at hz; omega
  clear hE hz hin
  generalize x.fSpecializations[k] = t at *
  generalize x.fSpecializations.length = len at *
  have hss := spec_szs t
  have hone14 := Rep.one _ _ hr
  obtain ⟨d1, d2, d3, d4, d5, d6, d7, d8, d9, d10, d11, d12, d13, rfl, -, -, hP, hB⟩ := TSpecialization.opn hr
  obtain ⟨aP, cP, rfl, -, -, -, -⟩ := open_sl encS_w hP
  clear hr
  have hl0 : b < w.heap.size := hK b hKb
  have hBa : Below w.heap.size w (w.alloc (.cells #[.slice (some ⟨b, off, none⟩) len cap, c1] 35)) := (Below.refl _ _).alloc (Nat.le_refl _) _
  have hBb : Below (w.alloc (.cells #[.slice (some ⟨b, off, none⟩) len cap, c1] 35)).heap.size (w.alloc (.cells #[.slice (some ⟨b, off, none⟩) len cap, c1] 35)) ((w.alloc (.cells #[.slice (some ⟨b, off, none⟩) len cap, c1] 35)).alloc (.cells #[.int .i64 0, .slice none 0 0] 81)) := (Below.refl _ _).alloc (Nat.le_refl _) _
  have HRm := Lib.hid (row_below (show (w.alloc (.cells #[.slice (some ⟨b, off, none⟩) len cap, c1] 35)).heap[w.heap.size]? = some (.cells #[.slice (some ⟨b, off, none⟩) len cap, c1] 35 (0, 0)) from alloc_at rfl) hBb (by simp))
  have HR := Lib.hid (show ((w.alloc (.cells #[.slice (some ⟨b, off, none⟩) len cap, c1] 35)).alloc (.cells #[.int .i64 0, .slice none 0 0] 81)).heap[w.heap.size + 1]? = some (.cells #[.int .i64 0, .slice none 0 0] 81 (0, 0)) from alloc_at (by simp))
  have hV := hBa.trans (hBb.mono hBa.size)
  have hsz0 : ((w.alloc (.cells #[.slice (some ⟨b, off, none⟩) len cap, c1] 35)).alloc (.cells #[.int .i64 0, .slice none 0 0] 81)).heap.size = w.heap.size + 2 := by simp
  have hib : (Tryz.prog.info? 136).map (·.size) = some ([d3, d4, d5, d6, d7, d8, d9, d10, d11, d12, d13] : List Value).length := infoCo
  clear hBa hBb
  have hd : decide ((0 : Int) ≤ (k : Int) ∧ (k : Int) ≤ (len : Int) - 1) = true := by simp; omega
  have g2 : w.cell? ⟨b, off + k * 14 + 2, none⟩ = some (.slice aP t.fParams.length cP) := by simpa using hcs 2 _ rfl
  have hCb0 : Cells w b (off + k * 14 + 3) [d3, d4, d5, d6, d7, d8, d9, d10, d11, d12, d13] := fun j u hu => by have := hcs (j + 3) u hu; rwa [show off + k * 14 + (j + 3) = off + k * 14 + 3 + j by omega] at this
  go_enter Tryz.func36, Tryz.ntmps36
  go_wp2_with fail
  refine (specl1In_c _ _ _ _).mono ?_
  rintro e w1 ⟨rfl, rfl⟩
  rw [hd]
  have gM0 : ((w.alloc (.cells #[.slice (some ⟨b, off, none⟩) len cap, c1] 35)).alloc (.cells #[.int .i64 0, .slice none 0 0] 81)).cell? ⟨w.heap.size, 0, none⟩ = some (.slice (some ⟨b, off, none⟩) len cap) := row_cell HRm.out 0
  have gP0 : ((w.alloc (.cells #[.slice (some ⟨b, off, none⟩) len cap, c1] 35)).alloc (.cells #[.int .i64 0, .slice none 0 0] 81)).cell? ⟨b, off + k * 14 + 2, none⟩ = some (.slice aP t.fParams.length cP) := ((bcell hV).1 b _ hl0).trans g2
  have hlu : b < ((w.alloc (.cells #[.slice (some ⟨b, off, none⟩) len cap, c1] 35)).alloc (.cells #[.int .i64 0, .slice none 0 0] 81)).heap.size := by simp; omega
  have hpu : w.heap.size < ((w.alloc (.cells #[.slice (some ⟨b, off, none⟩) len cap, c1] 35)).alloc (.cells #[.int .i64 0, .slice none 0 0] 81)).heap.size := by simp; omega
  have hu2 := Nat.le_of_eq hsz0.symm
  clear g2 hsz0
  generalize ((w.alloc (.cells #[.slice (some ⟨b, off, none⟩) len cap, c1] 35)).alloc (.cells #[.int .i64 0, .slice none 0 0] 81)) = u at *
  have hBc : Below u.heap.size u (u.alloc (.cells #[] 9)) := (Below.refl _ _).alloc (Nat.le_refl _) _
  have hVa := hV.trans (hBc.mono hV.size)
  have G := Lib.hid (Gr.made (w := (u.alloc (.cells #[] 9))) (lo := w.heap.size + 2) (e := 9) (size := 1) (g := u.heap.size) (alloc_at rfl) (by omega))
  have hRP := Rep.ext hVa hK hP
  have hle2 : w.heap.size + 2 ≤ (u.alloc (.cells #[] 9)).heap.size := by simp; omega
  go_wp2_with (with_reducible refine apf rfl _ _ 48 rfl (.string ⟨#[]⟩) 16 Tryz.underlying48 zinfoN zsizeN (by decide) rfl G.out rfl hRP encS_w flatS (by unfold maxLen; simp; omega) (by simp; omega) hle2 ?_)
  intro v2 w2 hG hB2 _
  have HG := Lib.hid (show Gr w2 (w.heap.size + 2) 9 1 (t.fParams.map encS) v2 [] from by simpa using hG)
  have hV2 : Below w.heap.size w w2 := hVa.trans (hB2.mono (by omega))
  have HR2 := Lib.hid (row_below (row_below HR.out hBc (row_lt HR.out)) hB2 (by omega))
  have HM2 := Lib.hid (row_below (row_below HRm.out hBc (row_lt HRm.out)) hB2 (by omega))
  have hlt2 : w.heap.size + 2 ≤ w2.heap.size := Nat.le_trans hle2 hB2.size
  clear hG hB2 hRP G hVa HR HRm hle2 hBc gM0 gP0 hlu hpu
  obtain ⟨aV, cV, rfl⟩ := gl_slice HG.out
  have hB3 : Below w2.heap.size w2 (w2.alloc (.cells #[.slice none 0 0, (.slice aV t.fParams.length cV), .bool false] 169)) := (Below.refl _ _).alloc (Nat.le_refl _) _
  have hV3 : Below w.heap.size w (w2.alloc (.cells #[.slice none 0 0, (.slice aV t.fParams.length cV), .bool false] 169)) := hV2.trans (hB3.mono hV2.size)
  have hS3 : Ste (w2.alloc (.cells #[.slice none 0 0, (.slice aV t.fParams.length cV), .bool false] 169)) 169 173 9 (w.heap.size + 2) w2.heap.size (w2.heap.size :: (Value.slice aV t.fParams.length cV).ownBlock.toList) ⟨[], t.fParams, false⟩ (.slice none 0 0) (.slice aV t.fParams.length cV) :=
   ⟨alloc_at rfl, Gr.nil _ _ _ _, HG.out.below hB3, by simp, fun g hg => by simp [Value.ownBlock] at hg, fun g hg => ⟨by simp [hg], by have := (HG.out.block g hg).2; omega, by simp [Value.ownBlock]⟩, fun b hb => by
    rcases List.mem_cons.1 hb with rfl | hb
    ·exact ⟨by omega, by simp⟩
    ·have := HG.out.block b (by simpa using hb); exact ⟨this.1, by simp; omega⟩⟩
  have HS3 := Lib.hid hS3
  have HR3 := Lib.hid (row_below HR2.out hB3 (row_lt HR2.out))
  have HM3 := Lib.hid (row_below HM2.out hB3 (row_lt HM2.out))
  have hnf : ∀ p, p < w.heap.size + 2 → p ∉ (w2.heap.size :: (Value.slice aV t.fParams.length cV).ownBlock.toList) := fun p hp q => by
   rcases List.mem_cons.1 q with q | q
   ·omega
   ·have := HG.out.block _ (by simpa using q); omega
  have hb3 := Lib.hid hS3.hb
  have hl3 := hS3.lo
  have hCb : Cells (w2.alloc (.cells #[.slice none 0 0, (.slice aV t.fParams.length cV), .bool false] 169)) b (off + k * 14 + 3) [d3, d4, d5, d6, d7, d8, d9, d10, d11, d12, d13] := hCb0.ext hV3 hl0
  have hRb := Rep.ext hV3 hK hB
  have gM3 : (w2.alloc (.cells #[.slice none 0 0, (.slice aV t.fParams.length cV), .bool false] 169)).cell? ⟨w.heap.size, 0, none⟩ = some (.slice (some ⟨b, off, none⟩) len cap) := row_cell HM3.out 0
  clear hS3 hB3 HG HR2 HM2
  go_wp2_with (with_reducible refine ld rfl 136 _ rfl b _ rfl [d3, d4, d5, d6, d7, d8, d9, d10, d11, d12, d13] hCb _ Tryz.underlying136 hib ?_)
  clear hCb gM3
  refine (specCore_c t.fBody (by omega) ⟨[], t.fParams, false⟩ (by simp only [List.length_nil]; omega) (by show t.fParams.length + _ ≤ _; omega) _ (w.heap.size + 2) _ _ _ _ HS3.out K (fun b h => Nat.lt_of_lt_of_le (hK b h) (by omega)) _ hRb).mono ?_
  rintro e w4 ⟨rfl, fp4, vl4, vs4, hS4, hF4⟩
  have hbd := bd_sC (SizeOf.sizeOf t.fBody + 1) t.fBody ⟨[], t.fParams, false⟩
  obtain ⟨s4, Hs4⟩ : ∃ t_, t_ = sC (SizeOf.sizeOf t.fBody + 1) t.fBody ⟨[], t.fParams, false⟩ := ⟨_, rfl⟩
  rw [← Hs4] at hS4 hbd
  simp only [List.length_nil] at hbd
  have HE := Lib.hid (show cmpOf t = cmpEnd t.fParams s4 from by rw [show cmpOf t = cmpEnd t.fParams (sC (SizeOf.sizeOf t.fBody + 1) t.fBody ⟨[], t.fParams, false⟩) from rfl, ← Hs4])
  have HS4 := Lib.hid hS4; have HF4 := Lib.hid hF4
  clear hS4 hF4 HS3 hRb Hs4
  go_wp2_with fail
  refine (specAdd_c (opOne 14) (inR_n 14 (by decide)) (inR_n 0 (by decide)) (inR_n 0 (by decide)) sz0 sz0 s4 (by omega) _ (w.heap.size + 2) _ _ _ _ HS4.out).mono ?_
  rintro e w5 ⟨rfl, fp5, vl5, vs5, hS1, hF1⟩
  have HS5 := Lib.hid hS1; have HF5 := Lib.hid (HF4.out.trans hF1)
  clear hS1 hF1 HS4
  have gF := HS5.out.cell.2.2
  rw [CS.add_bad] at gF
  cases hbad : s4.bad with
  | true =>
   rw [hbad] at gF
   have hHE := HE.out.trans (cmpEnd_bad hbad)
   have HEb := Lib.hid hHE
   clear hbad hHE HE
   have haf := Lib.hid (show ((#[.int .i64 0, .slice none 0 0] : Array Value).toList.take 0 ++ ([.int .i64 0, .slice none 0 0] : List Value) ++ (#[.int .i64 0, .slice none 0 0] : Array Value).toList.drop (0 + ([.int .i64 0, .slice none 0 0] : List Value).length)).toArray = #[.int .i64 0, .slice none 0 0] from rfl)
   have hff := Lib.hid (show 0 + ([.int .i64 0, .slice none 0 0] : List Value).length ≤ (#[.int .i64 0, .slice none 0 0] : Array Value).size from (by decide : 0 + 2 ≤ 2))
   have hif2 := Lib.hid (show (Tryz.prog.info? 81).map (·.size) = some ([.int .i64 0, .slice none 0 0] : List Value).length from infoC2)
   have hone := two_one (u := .int .i64 0) (v := .slice none 0 0) rfl rfl
   have HRr := Lib.hid (HF5.out.row HR3.out (hnf _ (by omega)))
   have HV := Lib.hid (hV3.trans ((HF5.out.below hb3.out hl3).mono (by omega)))
   go_wp2_with (with_reducible refine stR rfl 81 _ _ rfl (w.heap.size + 1) 0 rfl [.int .i64 0, .slice none 0 0] rfl hif2.out hone #[.int .i64 0, .slice none 0 0] #[.int .i64 0, .slice none 0 0] 81 HRr.out hff.out haf.out ?_)
   intro vf hpf
   have hVf := hpf.below HV.out (by omega)
   have cR := row_cells (cs := [.int .i64 0, .slice none 0 0]) hpf.row
   go_wp2
   (try simp only [Exit.inBlock, Exit.then])
   refine bodyPost_ret (v := .tuple #[.agg #[.int .i64 0, .slice none 0 0], .bool false]) (run_res2 Tryz.results36 (w.heap.size + 1) rfl [.int .i64 0, .slice none 0 0] cR _ Tryz.underlying81 hif2.out (.bool false) rfl) rfl ?_
   rw [HEb.out]
   exact ⟨[.int .i64 0, .slice none 0 0], _, rfl, cmpNil_own _, List.nodup_nil, by simp, hVf⟩
  | false =>
   rw [hbad] at gF
   go_wp2_with fail
   clear gF
   have hHE := HE.out.trans (cmpEnd_ok hbad)
   have HEb := Lib.hid hHE
   clear hbad hHE HE
   have HV := Lib.hid (hV3.trans ((HF5.out.below hb3.out hl3).mono (by omega)))
   have HRr := Lib.hid (HF5.out.row HR3.out (hnf _ (by omega)))
   obtain ⟨a5, p5, b5, rfl, o5, n5, r5⟩ := HS5.out.gl.ownT
   have O5 := Lib.hid o5; clear o5
   have hI0 : Below w5.heap.size w5 w5.drew := (Below.refl _ _).drew
   have hHS := HS5.out
   have gL : ∀ w', Below w5.heap.size w5 w' → w'.cell? ⟨w2.heap.size, 0, none⟩ = some (.slice a5 (s4.add (opOne 14)).list.length p5) := fun w' h => (hHS.below h).cell.1
   have hM5 := HF5.out.row HM3.out (hnf _ (by omega))
   have gM : ∀ w', Below w5.heap.size w5 w' → w'.cell? ⟨w.heap.size, 0, none⟩ = some (.slice (some ⟨b, off, none⟩) len cap) := fun w' h => row_cell (row_below hM5 h (row_lt hM5)) 0
   have gP : ∀ w', Below w5.heap.size w5 w' → w'.cell? ⟨b, off + k * 14 + 2, none⟩ = some (.slice aP t.fParams.length cP) := fun w' h => by
    have := hcs.ext (HV.out.trans (h.mono HV.out.size)) hl0 2 _ rfl
    simpa using this
   have hif2 := Lib.hid (show (Tryz.prog.info? 81).map (·.size) = some ([.int .i64 (t.fParams.length : Int), .slice a5 (s4.add (opOne 14)).list.length p5] : List Value).length from infoC2)
   have hone := two_one (u := .int .i64 (t.fParams.length : Int)) (v := .slice a5 (s4.add (opOne 14)).list.length p5) rfl rfl
   generalize hln : (s4.add (opOne 14)).list.length = ln at *
   refine rj 14 12 (Below w5.heap.size w5) (by kernel_rfl) rfl ?_
   refine rj_seg (fuel := 2) [0, 1, 2, 3, 4, 5, 6, 7, 8, 9, 10, 11] hI0 (by kernel_rfl) rfl ?_
   simp only [pick, pD, pE]
   refine sg_fix _ rfl (fun w' hI => by have := gL w' hI; have := gM w' hI; have := gP w' hI; go_simp; first | rfl | rw [if_neg (by omega)]) ?_
   simp only [Act.put, pA, pB, pC]
   refine sg_fix _ rfl (fun w' hI => by have := gL w' hI; have := gM w' hI; have := gP w' hI; go_simp; first | rfl | rw [if_neg (by omega)]) ?_
   simp only [Act.put, pA, pB, pC]
   refine sg_fix _ rfl (fun w' hI => by have := gL w' hI; have := gM w' hI; have := gP w' hI; go_simp; first | rfl | rw [if_neg (by omega)]) ?_
   simp only [Act.put, pA, pB, pC]
   refine sg_fix _ rfl (fun w' hI => by have := gL w' hI; have := gM w' hI; have := gP w' hI; go_simp; first | rfl | rw [if_neg (by omega)]) ?_
   simp only [Act.put, pA, pB, pC]
   refine sg_fix _ rfl (fun w' hI => by have := gL w' hI; have := gM w' hI; have := gP w' hI; go_simp; first | rfl | rw [if_neg (by omega)]) ?_
   simp only [Act.put, pA, pB, pC]
   refine sg_fix _ rfl (fun w' hI => by have := gL w' hI; have := gM w' hI; have := gP w' hI; go_simp; first | rfl | rw [if_neg (by omega)]) ?_
   simp only [Act.put, pA, pB, pC]
   refine sg_fix _ rfl (fun w' hI => by have := gL w' hI; have := gM w' hI; have := gP w' hI; go_simp; first | rfl | rw [if_neg (by omega)]) ?_
   simp only [Act.put, pA, pB, pC]
   refine sg_fix _ rfl (fun w' hI => by have := gL w' hI; have := gM w' hI; have := gP w' hI; go_simp; first | rfl | rw [if_neg (by omega)]) ?_
   simp only [Act.put, pA, pB, pC]
   refine sg_fix _ rfl (fun w' hI => by have := gL w' hI; have := gM w' hI; have := gP w' hI; go_simp; first | rfl | rw [if_neg (by omega)]) ?_
   simp only [Act.put, pA, pB, pC]
   refine sg_fix _ rfl (fun w' hI => by have := gL w' hI; have := gM w' hI; have := gP w' hI; go_simp; first | rfl | rw [if_neg (by omega)]) ?_
   simp only [Act.put, pA, pB, pC]
   refine sg_fix _ rfl (fun w' hI => by have := gL w' hI; have := gM w' hI; have := gP w' hI; go_simp; first | rfl | rw [if_neg (by omega)]) ?_
   simp only [Act.put, pA, pB, pC]
   refine sg_fix _ rfl (fun w' hI => by have := gL w' hI; have := gM w' hI; have := gP w' hI; go_simp; first | rfl | rw [if_neg (by omega)]) ?_
   simp only [Act.put, pA, pB, pC]
   refine sg_nil ?_
   refine rj_one (fuel := 1) 12 (by kernel_rfl) rfl (fun K0 hK0 => ?_)
   simp only [pick, pD, pE]
   refine oj_stR rfl 81 (.tmp 4) (.tmp 52) rfl (w.heap.size + 1) 0 rfl [.int .i64 (t.fParams.length : Int), .slice a5 ln p5] rfl hif2.out hone _ _ (row_below HRr.out hI0 (row_lt HRr.out)) (by decide : 0 + 2 ≤ 2) ?_
   intro vf hpf
   refine hK0 _ _ (jw_done (by kernel_rfl)) ?_
   simp only [Act.put]
   refine rj_free' (fuel := 0) [13] (by kernel_rfl) rfl ?_
   simp only [pick, pD, pE]
   refine sg_fix _ rfl (fun w' hI => by go_simp; rfl) ?_
   simp only [Act.put, pA, pB, pC]
   refine sg_nil (rj_end (by kernel_rfl) ?_)
   have hVf := hpf.below (HV.out.trans (hI0.mono HV.out.size)) (by omega)
   have cR := row_cells (cs := [.int .i64 (t.fParams.length : Int), .slice a5 ln p5]) hpf.row
   have yf := hpf.size
   have OF := TCode.mk_own (x := ⟨(t.fParams.length : Int), (s4.add (opOne 14)).list⟩) (inR_n _ (by omega)) ((O5.out.below hI0).put hpf (fun x hx => by have := (r5 x hx).1; omega))
   go_wp2
   (try simp only [Exit.inBlock, Exit.then])
   refine bodyPost_ret (v := .tuple #[.agg #[.int .i64 (t.fParams.length : Int), .slice a5 ln p5], .bool true]) (run_res2 Tryz.results36 (w.heap.size + 1) rfl [.int .i64 (t.fParams.length : Int), .slice a5 ln p5] cR _ Tryz.underlying81 hif2.out (.bool true) rfl) rfl ?_
   rw [HEb.out]
   refine ⟨[.int .i64 (t.fParams.length : Int), .slice a5 ln p5], rfl, _, OF, by simpa using n5, ?_, hVf⟩
   intro x hx
   have := r5 x (by simpa using hx)
   have h5 : w5.drew.heap.size = w5.heap.size := rfl
   omega
 ·have Hq := Lib.hid (cmp_out (x := x) (show n < 0 ∨ (x.fSpecializations.length : Int) ≤ n by omega))
  have hd : decide ((0 : Int) ≤ n ∧ n ≤ (x.fSpecializations.length : Int) - 1) = false := by simp; omega
  have haf := Lib.hid (show ((#[.int .i64 0, .slice none 0 0] : Array Value).toList.take 0 ++ ([.int .i64 0, .slice none 0 0] : List Value) ++ (#[.int .i64 0, .slice none 0 0] : Array Value).toList.drop (0 + ([.int .i64 0, .slice none 0 0] : List Value).length)).toArray = #[.int .i64 0, .slice none 0 0] from rfl)
  have hff := Lib.hid (show 0 + ([.int .i64 0, .slice none 0 0] : List Value).length ≤ (#[.int .i64 0, .slice none 0 0] : Array Value).size from (by decide : 0 + 2 ≤ 2))
  have hif2 := Lib.hid (show (Tryz.prog.info? 81).map (·.size) = some ([.int .i64 0, .slice none 0 0] : List Value).length from infoC2)
  have hone := two_one (u := .int .i64 0) (v := .slice none 0 0) rfl rfl
  have hV : Below w.heap.size w ((w.alloc (.cells #[.slice a x.fSpecializations.length cap, c1] 35)).alloc (.cells #[.int .i64 0, .slice none 0 0] 81)) := ((Below.refl _ _).alloc (Nat.le_refl _) _).alloc (by simp) _
  have HR := Lib.hid (show ((w.alloc (.cells #[.slice a x.fSpecializations.length cap, c1] 35)).alloc (.cells #[.int .i64 0, .slice none 0 0] 81)).heap[w.heap.size + 1]? = some (.cells #[.int .i64 0, .slice none 0 0] 81 (0, 0)) from alloc_at (by simp))
  go_enter Tryz.func36, Tryz.ntmps36
  go_wp2_with fail
  refine (specl1In_c _ _ _ _).mono ?_
  rintro e w1 ⟨rfl, rfl⟩
  rw [hd]
  go_wp2_with (with_reducible refine stR rfl 81 _ _ rfl (w.heap.size + 1) 0 rfl [.int .i64 0, .slice none 0 0] rfl hif2.out hone #[.int .i64 0, .slice none 0 0] #[.int .i64 0, .slice none 0 0] 81 HR.out hff.out haf.out ?_)
  intro vf hpf
  have hVf := hpf.below hV (by omega)
  have cR := row_cells (cs := [.int .i64 0, .slice none 0 0]) hpf.row
  go_wp2
  (try simp only [Exit.inBlock, Exit.then])
  refine bodyPost_ret (v := .tuple #[.agg #[.int .i64 0, .slice none 0 0], .bool false]) (run_res2 Tryz.results36 (w.heap.size + 1) rfl [.int .i64 0, .slice none 0 0] cR _ Tryz.underlying81 hif2.out (.bool false) rfl) rfl ?_
  rw [Hq.out]
  exact ⟨[.int .i64 0, .slice none 0 0], _, rfl, cmpNil_own _, List.nodup_nil, by simp, hVf⟩
set_option maxRecDepth 100000 in
set_option maxHeartbeats 4000000 in
theorem implCompileSpecialization_c (x : TMonoProgram) (n : Int) (hz : x.sz ≤ 1048576) : ∀ (w : World) (K : Nat → Prop) (_ : ∀ b, K b → b < w.heap.size) (cs : List Value) (_ : Rep w K x.enc cs) (_ : InR n),
  Calls Tryz.prog 39 #[.agg cs.toArray, .int .i64 n] w fun e w' => ∃ cs' bs, e = .returned (.tuple #[.agg cs'.toArray, .bool (cmp x n).2]) ∧ Own w' (cmp x n).1.enc cs' bs ∧ bs.Nodup ∧ (∀ b ∈ bs, w.heap.size ≤ b ∧ b < w'.heap.size) ∧ Below w.heap.size w w' := by
 intro w K hK cs h hn
 obtain ⟨c0, c1, rfl, hC, -⟩ := TMonoProgram.opn h
 clear h
 obtain ⟨a, cap, rfl, hc, hm, -, hE⟩ := open_sl TSpecialization.width hC
 unfold maxLen at hm
 clear hC
 have hn1 := hn.lo
 have hn2 := hn.hi
 clear hn
 rw [TMonoProgram.sz_eq] at hz
 by_cases hin : 0 ≤ n ∧ n < x.fSpecializations.length
 ·obtain ⟨k, rfl⟩ := Int.eq_ofNat_of_zero_le hin.1
  have hk : k < x.fSpecializations.length := by omega
  obtain ⟨b, off, rfl, hKb, cs, hcs, hr⟩ := hE k hk
  rw [cmp_in hk]
  have hsz : TSpecialization.sz x.fSpecializations[k] ≤ 1048576 := by have := szL_le TSpecialization.sz (List.getElem_mem hk); unfold szs at hz; omega
  clear hE hz hin
  generalize x.fSpecializations[k] = t at *
  generalize x.fSpecializations.length = len at *
  have hss := spec_szs t
  have hone14 := Rep.one _ _ hr
  obtain ⟨d1, d2, d3, d4, d5, d6, d7, d8, d9, d10, d11, d12, d13, rfl, -, -, hP, hB⟩ := TSpecialization.opn hr
  obtain ⟨aP, cP, rfl, -, -, -, -⟩ := open_sl encS_w hP
  clear hr
  have hl0 : b < w.heap.size := hK b hKb
  have hBa : Below w.heap.size w (w.alloc (.cells #[.slice (some ⟨b, off, none⟩) len cap, c1] 35)) := (Below.refl _ _).alloc (Nat.le_refl _) _
  have hBb : Below (w.alloc (.cells #[.slice (some ⟨b, off, none⟩) len cap, c1] 35)).heap.size (w.alloc (.cells #[.slice (some ⟨b, off, none⟩) len cap, c1] 35)) ((w.alloc (.cells #[.slice (some ⟨b, off, none⟩) len cap, c1] 35)).alloc (.cells #[.int .i64 0, .slice none 0 0] 81)) := (Below.refl _ _).alloc (Nat.le_refl _) _
  have HRm := Lib.hid (row_below (show (w.alloc (.cells #[.slice (some ⟨b, off, none⟩) len cap, c1] 35)).heap[w.heap.size]? = some (.cells #[.slice (some ⟨b, off, none⟩) len cap, c1] 35 (0, 0)) from alloc_at rfl) hBb (by simp))
  have HR := Lib.hid (show ((w.alloc (.cells #[.slice (some ⟨b, off, none⟩) len cap, c1] 35)).alloc (.cells #[.int .i64 0, .slice none 0 0] 81)).heap[w.heap.size + 1]? = some (.cells #[.int .i64 0, .slice none 0 0] 81 (0, 0)) from alloc_at (by simp))
  have hV := hBa.trans (hBb.mono hBa.size)
  have hsz0 : ((w.alloc (.cells #[.slice (some ⟨b, off, none⟩) len cap, c1] 35)).alloc (.cells #[.int .i64 0, .slice none 0 0] 81)).heap.size = w.heap.size + 2 := by simp
  have hib : (Tryz.prog.info? 136).map (·.size) = some ([d3, d4, d5, d6, d7, d8, d9, d10, d11, d12, d13] : List Value).length := infoCo
  clear hBa hBb
  have e1 : ¬ ((k : Int) < 0) := by omega
  have e2 : ¬ ((len : Int) ≤ (k : Int)) := by omega
  have hi14 : (Tryz.prog.info? 163).map (·.size) = some ([.int .i64 t.fUnit, d1, .slice aP t.fParams.length cP, d3, d4, d5, d6, d7, d8, d9, d10, d11, d12, d13] : List Value).length := infoSp
  have hcs' : Cells ((w.alloc (.cells #[.slice (some ⟨b, off, none⟩) len cap, c1] 35)).alloc (.cells #[.int .i64 0, .slice none 0 0] 81)) b (off + k * 14) [.int .i64 t.fUnit, d1, .slice aP t.fParams.length cP, d3, d4, d5, d6, d7, d8, d9, d10, d11, d12, d13] := hcs.ext hV hl0
  have Hl14 := Lib.hid (show ([.int .i64 t.fUnit, d1, .slice aP t.fParams.length cP, d3, d4, d5, d6, d7, d8, d9, d10, d11, d12, d13] : List Value).length = 14 from rfl)
  have Hq2 := Lib.hid (show w.heap.size + 1 + 1 = ((w.alloc (.cells #[.slice (some ⟨b, off, none⟩) len cap, c1] 35)).alloc (.cells #[.int .i64 0, .slice none 0 0] 81)).heap.size from by simp)
  have hu2 := Nat.le_of_eq Hq2.out
  clear hsz0
  go_enter Tryz.func39, Tryz.ntmps39
  go_wp2_with (first | (with_reducible refine ld rfl 163 _ rfl b _ rfl [.int .i64 t.fUnit, d1, .slice aP t.fParams.length cP, d3, d4, d5, d6, d7, d8, d9, d10, d11, d12, d13] hcs' _ Tryz.underlying163 hi14 ?_) | (with_reducible refine stA rfl 163 _ _ rfl (w.heap.size + 1 + 1) 0 rfl [.int .i64 t.fUnit, d1, .slice aP t.fParams.length cP, d3, d4, d5, d6, d7, d8, d9, d10, d11, d12, d13] rfl hi14 hone14 _ 163 (alloc_at Hq2.out) (by rw [Hl14.out]; decide) ?_))
  intro w1 hst
  have hB1 : Below ((w.alloc (.cells #[.slice (some ⟨b, off, none⟩) len cap, c1] 35)).alloc (.cells #[.int .i64 0, .slice none 0 0] 81)).heap.size ((w.alloc (.cells #[.slice (some ⟨b, off, none⟩) len cap, c1] 35)).alloc (.cells #[.int .i64 0, .slice none 0 0] 81)) w1 := hst.below ((Below.refl _ _).alloc (Nat.le_refl _) _) (Nat.le_of_eq Hq2.out.symm)
  have hC1 := hst.at_
  clear hst hcs' hone14 Hl14
  generalize hqe : w.heap.size + 1 + 1 = q at *
  have hqlo : w.heap.size + 2 ≤ q := by omega
  have hqhi : q ≤ w.heap.size + 2 := by omega
  clear hqe
  generalize ((w.alloc (.cells #[.slice (some ⟨b, off, none⟩) len cap, c1] 35)).alloc (.cells #[.int .i64 0, .slice none 0 0] 81)) = u at *
  have hz1 := cells_lt hC1
  have hV1 : Below w.heap.size w w1 := hV.trans (hB1.mono hV.size)
  have HR1 := Lib.hid (row_below HR.out hB1 (row_lt HR.out))
  have HM1 := Lib.hid (row_below HRm.out hB1 (row_lt HRm.out))
  have g2 : w1.cell? ⟨q, 2, none⟩ = some (.slice aP t.fParams.length cP) := by simpa using hC1 2 _ rfl
  have HX := Lib.hid hC1
  clear hC1 HR HRm hB1
  go_wp2_with fail
  clear g2
  refine (implcopyNames_c t.fParams (by omega) _ K (fun b h => Nat.lt_of_lt_of_le (hK b h) hV1.size) _ (Rep.ext hV1 hK hP)).mono ?_
  rintro e w2 ⟨v2, rfl, hG, hB2⟩
  have HG := Lib.hid (hG.mono (show w.heap.size + 2 ≤ w1.heap.size by omega))
  have hV2 : Below w.heap.size w w2 := hV1.trans (hB2.mono hV1.size)
  have HR2 := Lib.hid (row_below HR1.out hB2 (row_lt HR1.out))
  have HM2 := Lib.hid (row_below HM1.out hB2 (row_lt HM1.out))
  have HX2 := Lib.hid (HX.out.ext hB2 hz1)
  have hltq : q < w2.heap.size := Nat.lt_of_lt_of_le hz1 hB2.size
  have hlt2 : w.heap.size + 2 ≤ w2.heap.size := Nat.le_trans hqlo (Nat.le_of_lt hltq)
  have hsz1 : q < w1.heap.size := hz1
  have hG1 := hG.block
  clear hG hB2 HX HR1 HM1 hz1
  obtain ⟨aV, cV, rfl⟩ := gl_slice HG.out
  have hB3 : Below w2.heap.size w2 (w2.alloc (.cells #[.slice none 0 0, (.slice aV t.fParams.length cV), .bool false] 179)) := (Below.refl _ _).alloc (Nat.le_refl _) _
  have hV3 : Below w.heap.size w (w2.alloc (.cells #[.slice none 0 0, (.slice aV t.fParams.length cV), .bool false] 179)) := hV2.trans (hB3.mono hV2.size)
  have hS3 : Ste (w2.alloc (.cells #[.slice none 0 0, (.slice aV t.fParams.length cV), .bool false] 179)) 179 173 9 (w.heap.size + 2) w2.heap.size (w2.heap.size :: (Value.slice aV t.fParams.length cV).ownBlock.toList) ⟨[], t.fParams, false⟩ (.slice none 0 0) (.slice aV t.fParams.length cV) :=
   ⟨alloc_at rfl, Gr.nil _ _ _ _, HG.out.below hB3, by simp, fun g hg => by simp [Value.ownBlock] at hg, fun g hg => ⟨by simp [hg], by have := (HG.out.block g hg).2; omega, by simp [Value.ownBlock]⟩, fun b hb => by
    rcases List.mem_cons.1 hb with rfl | hb
    ·exact ⟨by omega, by simp⟩
    ·have := HG.out.block b (by simpa using hb); exact ⟨this.1, by simp; omega⟩⟩
  have HS3 := Lib.hid hS3
  have HR3 := Lib.hid (row_below HR2.out hB3 (row_lt HR2.out))
  have HM3 := Lib.hid (row_below HM2.out hB3 (row_lt HM2.out))
  have hnf : ∀ p, p < w.heap.size + 2 → p ∉ (w2.heap.size :: (Value.slice aV t.fParams.length cV).ownBlock.toList) := fun p hp q => by
   rcases List.mem_cons.1 q with q | q
   ·omega
   ·have := HG.out.block _ (by simpa using q); omega
  have hb3 := Lib.hid hS3.hb
  have hl3 := hS3.lo
  have HX3 := Lib.hid (HX2.out.ext hB3 hltq)
  have hCb : Cells (w2.alloc (.cells #[.slice none 0 0, (.slice aV t.fParams.length cV), .bool false] 179)) q 3 [d3, d4, d5, d6, d7, d8, d9, d10, d11, d12, d13] := fun j u hu => by have := HX3.out (j + 3) u hu; rwa [show 0 + (j + 3) = 3 + j by omega] at this
  have hRb := Rep.ext hV3 hK hB
  have hnq : q ∉ (w2.heap.size :: (Value.slice aV t.fParams.length cV).ownBlock.toList) := fun z => by
   rcases List.mem_cons.1 z with z | z
   ·omega
   ·have := (hG1 _ (by simpa using z)).1; omega
  clear hS3 hB3 HG HR2 HM2 HX2
  go_wp2_with (with_reducible refine ld rfl 136 _ rfl q _ rfl [d3, d4, d5, d6, d7, d8, d9, d10, d11, d12, d13] hCb _ Tryz.underlying136 hib ?_)
  clear hCb
  refine (implCompile_c t.fBody (by omega) ⟨[], t.fParams, false⟩ (by simp only [List.length_nil]; omega) (by show t.fParams.length + _ ≤ _; omega) _ (w.heap.size + 2) _ _ _ _ HS3.out K (fun b h => Nat.lt_of_lt_of_le (hK b h) (by omega)) _ hRb).mono ?_
  rintro e w4 ⟨rfl, fp4, vl4, vs4, hS4, hF4⟩
  have hbd := bd_iC (SizeOf.sizeOf t.fBody + 1) t.fBody ⟨[], t.fParams, false⟩
  obtain ⟨s4, Hs4⟩ : ∃ t_, t_ = iC (SizeOf.sizeOf t.fBody + 1) t.fBody ⟨[], t.fParams, false⟩ := ⟨_, rfl⟩
  rw [← Hs4] at hS4 hbd
  simp only [List.length_nil] at hbd
  have HE := Lib.hid (show cmpOf t = cmpEnd t.fParams s4 from by rw [cmpOf_impl t, ← Hs4])
  have HS4 := Lib.hid hS4; have HF4 := Lib.hid hF4
  clear hS4 hF4 HS3 hRb Hs4
  have gF := HS4.out.cell.2.2
  cases hbad : s4.bad with
  | true =>
   rw [hbad] at gF
   have hHE := HE.out.trans (cmpEnd_bad hbad)
   have HEb := Lib.hid hHE
   clear hbad hHE HE
   have haf := Lib.hid (show ((#[.int .i64 0, .slice none 0 0] : Array Value).toList.take 0 ++ ([.int .i64 0, .slice none 0 0] : List Value) ++ (#[.int .i64 0, .slice none 0 0] : Array Value).toList.drop (0 + ([.int .i64 0, .slice none 0 0] : List Value).length)).toArray = #[.int .i64 0, .slice none 0 0] from rfl)
   have hff := Lib.hid (show 0 + ([.int .i64 0, .slice none 0 0] : List Value).length ≤ (#[.int .i64 0, .slice none 0 0] : Array Value).size from (by decide : 0 + 2 ≤ 2))
   have hif2 := Lib.hid (show (Tryz.prog.info? 81).map (·.size) = some ([.int .i64 0, .slice none 0 0] : List Value).length from infoC2)
   have hone := two_one (u := .int .i64 0) (v := .slice none 0 0) rfl rfl
   have HRr := Lib.hid (HF4.out.row HR3.out (hnf _ (by omega)))
   have HV := Lib.hid (hV3.trans ((HF4.out.below hb3.out hl3).mono (by omega)))
   go_wp2_with (with_reducible refine stR rfl 81 _ _ rfl (w.heap.size + 1) 0 rfl [.int .i64 0, .slice none 0 0] rfl hif2.out hone #[.int .i64 0, .slice none 0 0] #[.int .i64 0, .slice none 0 0] 81 HRr.out hff.out haf.out ?_)
   intro vf hpf
   have hVf := hpf.below HV.out (by omega)
   have cR := row_cells (cs := [.int .i64 0, .slice none 0 0]) hpf.row
   go_wp2
   (try simp only [Exit.inBlock, Exit.then])
   refine bodyPost_ret (v := .tuple #[.agg #[.int .i64 0, .slice none 0 0], .bool false]) (run_res2 Tryz.results39 (w.heap.size + 1) rfl [.int .i64 0, .slice none 0 0] cR _ Tryz.underlying81 hif2.out (.bool false) rfl) rfl ?_
   rw [HEb.out]
   exact ⟨[.int .i64 0, .slice none 0 0], _, rfl, cmpNil_own _, List.nodup_nil, by simp, hVf⟩
  | false =>
   rw [hbad] at gF
   go_wp2_with fail
   clear gF
   refine (implAdd_c (opOne 14) (inR_n 14 (by decide)) (inR_n 0 (by decide)) (inR_n 0 (by decide)) sz0 sz0 s4 (by omega) _ (w.heap.size + 2) _ _ _ _ HS4.out).mono ?_
   rintro e w5 ⟨rfl, fp5, vl5, vs5, hS1, hF1⟩
   have HS5 := Lib.hid hS1; have HF5 := Lib.hid (HF4.out.trans hF1)
   clear hS1 hF1 HS4
   go_wp2_with fail
   have hHE := HE.out.trans (cmpEnd_ok hbad)
   have HEb := Lib.hid hHE
   clear hbad hHE HE
   have HV := Lib.hid (hV3.trans ((HF5.out.below hb3.out hl3).mono (by omega)))
   have HRr := Lib.hid (HF5.out.row HR3.out (hnf _ (by omega)))
   obtain ⟨a5, p5, b5, rfl, o5, n5, r5⟩ := HS5.out.gl.ownT
   have O5 := Lib.hid o5; clear o5
   have hI0 : Below w5.heap.size w5 w5.drew := (Below.refl _ _).drew
   have hHS := HS5.out
   have gL : ∀ w', Below w5.heap.size w5 w' → w'.cell? ⟨w2.heap.size, 0, none⟩ = some (.slice a5 (s4.add (opOne 14)).list.length p5) := fun w' h => (hHS.below h).cell.1
   have hX5 := HX3.out.mono (HF5.out.kept.other _ (cells_lt HX3.out) hnq)
   have gP : ∀ w', Below w5.heap.size w5 w' → w'.cell? ⟨q, 2, none⟩ = some (.slice aP t.fParams.length cP) := fun w' h => by
    have := hX5.ext h (cells_lt hX5) 2 _ rfl
    simpa using this
   have hif2 := Lib.hid (show (Tryz.prog.info? 81).map (·.size) = some ([.int .i64 (t.fParams.length : Int), .slice a5 (s4.add (opOne 14)).list.length p5] : List Value).length from infoC2)
   have hone := two_one (u := .int .i64 (t.fParams.length : Int)) (v := .slice a5 (s4.add (opOne 14)).list.length p5) rfl rfl
   generalize hln : (s4.add (opOne 14)).list.length = ln at *
   refine rj 10 8 (Below w5.heap.size w5) (by kernel_rfl) rfl ?_
   refine rj_seg (fuel := 2) [0, 1, 2, 3, 4, 5, 6, 7] hI0 (by kernel_rfl) rfl ?_
   simp only [pick, pD, pE]
   refine sg_fix _ rfl (fun w' hI => by have := gL w' hI; have := gP w' hI; go_simp; first | rfl | rw [if_neg (by omega)]) ?_
   simp only [Act.put, pA, pB, pC]
   refine sg_fix _ rfl (fun w' hI => by have := gL w' hI; have := gP w' hI; go_simp; first | rfl | rw [if_neg (by omega)]) ?_
   simp only [Act.put, pA, pB, pC]
   refine sg_fix _ rfl (fun w' hI => by have := gL w' hI; have := gP w' hI; go_simp; first | rfl | rw [if_neg (by omega)]) ?_
   simp only [Act.put, pA, pB, pC]
   refine sg_fix _ rfl (fun w' hI => by have := gL w' hI; have := gP w' hI; go_simp; first | rfl | rw [if_neg (by omega)]) ?_
   simp only [Act.put, pA, pB, pC]
   refine sg_fix _ rfl (fun w' hI => by have := gL w' hI; have := gP w' hI; go_simp; first | rfl | rw [if_neg (by omega)]) ?_
   simp only [Act.put, pA, pB, pC]
   refine sg_fix _ rfl (fun w' hI => by have := gL w' hI; have := gP w' hI; go_simp; first | rfl | rw [if_neg (by omega)]) ?_
   simp only [Act.put, pA, pB, pC]
   refine sg_fix _ rfl (fun w' hI => by have := gL w' hI; have := gP w' hI; go_simp; first | rfl | rw [if_neg (by omega)]) ?_
   simp only [Act.put, pA, pB, pC]
   refine sg_fix _ rfl (fun w' hI => by have := gL w' hI; have := gP w' hI; go_simp; first | rfl | rw [if_neg (by omega)]) ?_
   simp only [Act.put, pA, pB, pC]
   refine sg_nil ?_
   refine rj_one (fuel := 1) 8 (by kernel_rfl) rfl (fun K0 hK0 => ?_)
   simp only [pick, pD, pE]
   refine oj_stR rfl 81 (.tmp 4) (.tmp 47) rfl (w.heap.size + 1) 0 rfl [.int .i64 (t.fParams.length : Int), .slice a5 ln p5] rfl hif2.out hone _ _ (row_below HRr.out hI0 (row_lt HRr.out)) (by decide : 0 + 2 ≤ 2) ?_
   intro vf hpf
   refine hK0 _ _ (jw_done (by kernel_rfl)) ?_
   simp only [Act.put]
   refine rj_free' (fuel := 0) [9] (by kernel_rfl) rfl ?_
   simp only [pick, pD, pE]
   refine sg_fix _ rfl (fun w' hI => by go_simp; rfl) ?_
   simp only [Act.put, pA, pB, pC]
   refine sg_nil (rj_end (by kernel_rfl) ?_)
   have hVf := hpf.below (HV.out.trans (hI0.mono HV.out.size)) (by omega)
   have cR := row_cells (cs := [.int .i64 (t.fParams.length : Int), .slice a5 ln p5]) hpf.row
   have yf := hpf.size
   have OF := TCode.mk_own (x := ⟨(t.fParams.length : Int), (s4.add (opOne 14)).list⟩) (inR_n _ (by omega)) ((O5.out.below hI0).put hpf (fun x hx => by have := (r5 x hx).1; omega))
   go_wp2
   (try simp only [Exit.inBlock, Exit.then])
   refine bodyPost_ret (v := .tuple #[.agg #[.int .i64 (t.fParams.length : Int), .slice a5 ln p5], .bool true]) (run_res2 Tryz.results39 (w.heap.size + 1) rfl [.int .i64 (t.fParams.length : Int), .slice a5 ln p5] cR _ Tryz.underlying81 hif2.out (.bool true) rfl) rfl ?_
   rw [HEb.out]
   refine ⟨[.int .i64 (t.fParams.length : Int), .slice a5 ln p5], rfl, _, OF, by simpa using n5, ?_, hVf⟩
   intro x hx
   have := r5 x (by simpa using hx)
   have h5 : w5.drew.heap.size = w5.heap.size := rfl
   omega
 ·have Hq := Lib.hid (cmp_out (x := x) (show n < 0 ∨ (x.fSpecializations.length : Int) ≤ n by omega))
  rcases (show n < 0 ∨ (0 ≤ n ∧ (x.fSpecializations.length : Int) ≤ n) by omega) with h0 | ⟨h0, h1⟩
  ·have haf := Lib.hid (show ((#[.int .i64 0, .slice none 0 0] : Array Value).toList.take 0 ++ ([.int .i64 0, .slice none 0 0] : List Value) ++ (#[.int .i64 0, .slice none 0 0] : Array Value).toList.drop (0 + ([.int .i64 0, .slice none 0 0] : List Value).length)).toArray = #[.int .i64 0, .slice none 0 0] from rfl)
   have hff := Lib.hid (show 0 + ([.int .i64 0, .slice none 0 0] : List Value).length ≤ (#[.int .i64 0, .slice none 0 0] : Array Value).size from (by decide : 0 + 2 ≤ 2))
   have hif2 := Lib.hid (show (Tryz.prog.info? 81).map (·.size) = some ([.int .i64 0, .slice none 0 0] : List Value).length from infoC2)
   have hone := two_one (u := .int .i64 0) (v := .slice none 0 0) rfl rfl
   have hV : Below w.heap.size w ((w.alloc (.cells #[.slice a x.fSpecializations.length cap, c1] 35)).alloc (.cells #[.int .i64 0, .slice none 0 0] 81)) := ((Below.refl _ _).alloc (Nat.le_refl _) _).alloc (by simp) _
   have HR := Lib.hid (show ((w.alloc (.cells #[.slice a x.fSpecializations.length cap, c1] 35)).alloc (.cells #[.int .i64 0, .slice none 0 0] 81)).heap[w.heap.size + 1]? = some (.cells #[.int .i64 0, .slice none 0 0] 81 (0, 0)) from alloc_at (by simp))
   go_enter Tryz.func39, Tryz.ntmps39
   go_wp2_with (with_reducible refine stR rfl 81 _ _ rfl (w.heap.size + 1) 0 rfl [.int .i64 0, .slice none 0 0] rfl hif2.out hone #[.int .i64 0, .slice none 0 0] #[.int .i64 0, .slice none 0 0] 81 HR.out hff.out haf.out ?_)
   intro vf hpf
   have hVf := hpf.below hV (by omega)
   have cR := row_cells (cs := [.int .i64 0, .slice none 0 0]) hpf.row
   go_wp2
   (try simp only [Exit.inBlock, Exit.then])
   refine bodyPost_ret (v := .tuple #[.agg #[.int .i64 0, .slice none 0 0], .bool false]) (run_res2 Tryz.results39 (w.heap.size + 1) rfl [.int .i64 0, .slice none 0 0] cR _ Tryz.underlying81 hif2.out (.bool false) rfl) rfl ?_
   rw [Hq.out]
   exact ⟨[.int .i64 0, .slice none 0 0], _, rfl, cmpNil_own _, List.nodup_nil, by simp, hVf⟩
  ·have e1 : ¬ (n < 0) := by omega
   have haf := Lib.hid (show ((#[.int .i64 0, .slice none 0 0] : Array Value).toList.take 0 ++ ([.int .i64 0, .slice none 0 0] : List Value) ++ (#[.int .i64 0, .slice none 0 0] : Array Value).toList.drop (0 + ([.int .i64 0, .slice none 0 0] : List Value).length)).toArray = #[.int .i64 0, .slice none 0 0] from rfl)
   have hff := Lib.hid (show 0 + ([.int .i64 0, .slice none 0 0] : List Value).length ≤ (#[.int .i64 0, .slice none 0 0] : Array Value).size from (by decide : 0 + 2 ≤ 2))
   have hif2 := Lib.hid (show (Tryz.prog.info? 81).map (·.size) = some ([.int .i64 0, .slice none 0 0] : List Value).length from infoC2)
   have hone := two_one (u := .int .i64 0) (v := .slice none 0 0) rfl rfl
   have hV : Below w.heap.size w ((w.alloc (.cells #[.slice a x.fSpecializations.length cap, c1] 35)).alloc (.cells #[.int .i64 0, .slice none 0 0] 81)) := ((Below.refl _ _).alloc (Nat.le_refl _) _).alloc (by simp) _
   have HR := Lib.hid (show ((w.alloc (.cells #[.slice a x.fSpecializations.length cap, c1] 35)).alloc (.cells #[.int .i64 0, .slice none 0 0] 81)).heap[w.heap.size + 1]? = some (.cells #[.int .i64 0, .slice none 0 0] 81 (0, 0)) from alloc_at (by simp))
   go_enter Tryz.func39, Tryz.ntmps39
   go_wp2_with (with_reducible refine stR rfl 81 _ _ rfl (w.heap.size + 1) 0 rfl [.int .i64 0, .slice none 0 0] rfl hif2.out hone #[.int .i64 0, .slice none 0 0] #[.int .i64 0, .slice none 0 0] 81 HR.out hff.out haf.out ?_)
   intro vf hpf
   have hVf := hpf.below hV (by omega)
   have cR := row_cells (cs := [.int .i64 0, .slice none 0 0]) hpf.row
   go_wp2
   (try simp only [Exit.inBlock, Exit.then])
   refine bodyPost_ret (v := .tuple #[.agg #[.int .i64 0, .slice none 0 0], .bool false]) (run_res2 Tryz.results39 (w.heap.size + 1) rfl [.int .i64 0, .slice none 0 0] cR _ Tryz.underlying81 hif2.out (.bool false) rfl) rfl ?_
   rw [Hq.out]
   exact ⟨[.int .i64 0, .slice none 0 0], _, rfl, cmpNil_own _, List.nodup_nil, by simp, hVf⟩
end Go.Proofs.YtkmiecgcibjkbaaGreat
