/- Functions that copy a value into memory of their own, each walked once. Condition: the value's size is at most 1048576. -/
import Derived.Test.YtkmiecgcibjkbaaGreatGrow
import Derived.Test.YtkmiecgcibjkbaaGreatTo
namespace Go.Proofs.YtkmiecgcibjkbaaGreat
open Go.RowKit
theorem TMethodEntry.flatD (x : TMethodEntry) : flatD x.enc = true := by
 rw [TMethodEntry.enc_eq]
 rfl
theorem infoC86 : (Tryz.prog.info? 86).map (·.size) = some 1 := by kernel_rfl
theorem infoC88 : (Tryz.prog.info? 88).map (·.size) = some 3 := by kernel_rfl
theorem zinfoC88 : (Tryz.prog.info? 88).map (fun i => (i.zero, i.size, i.bytes)) = some (some (.agg #[.int .i64 0, .string ⟨#[]⟩, .slice none 0 0]), 3, 48) := by kernel_rfl
theorem zsizeC88 : (.agg #[.int .i64 0, .string ⟨#[]⟩, .slice none 0 0] : Value).cells.size = 3 := rfl
theorem zinfoC95 : (Tryz.prog.info? 95).map (fun i => (i.zero, i.size, i.bytes)) = some (some (.agg #[.string ⟨#[]⟩, .string ⟨#[]⟩, .int .i64 0]), 3, 40) := by kernel_rfl
theorem zsizeC95 : (.agg #[.string ⟨#[]⟩, .string ⟨#[]⟩, .int .i64 0] : Value).cells.size = 3 := rfl
def CPimplcopyType_c (N : Nat) : Prop := ∀ (x : TType), SizeOf.sizeOf x < N → ∀ (_ : x.sz ≤ 1048576) (w : World) (K : Nat → Prop) (_ : ∀ b, K b → b < w.heap.size) (cs : List Value) (_ : Rep w K x.enc cs),
  Calls Tryz.prog 40 #[.agg cs.toArray] w fun e w' => ∃ cs' bs, e = .returned (.agg cs'.toArray) ∧ Own w' x.enc cs' bs ∧ bs.Nodup ∧ (∀ b ∈ bs, w.heap.size ≤ b ∧ b < w'.heap.size) ∧ Below w.heap.size w w'
def CPimplcopyTypes_c (N : Nat) : Prop := ∀ (l : List TType), SizeOf.sizeOf l < N → ∀ (_ : szs TType.sz l ≤ 1048576) (w : World) (K : Nat → Prop) (_ : ∀ b, K b → b < w.heap.size) (v : Value) (_ : Rep w K (.sl (l.map TType.enc)) [v]),
  Calls Tryz.prog 101 #[v] w fun e w' => ∃ a cap bs, e = .returned (.slice a l.length cap) ∧ Own w' (.sl (l.map TType.enc)) [.slice a l.length cap] bs ∧ bs.Nodup ∧ (∀ b ∈ bs, w.heap.size ≤ b ∧ b < w'.heap.size) ∧ Below w.heap.size w w'
set_option maxRecDepth 100000 in
set_option maxHeartbeats 1000000 in
theorem stepimplcopyType_c (N : Nat) (_iimplcopyType_c : CPimplcopyType_c N) (iimplcopyTypes_c : CPimplcopyTypes_c N) : CPimplcopyType_c (N + 1) := by
 intro x hN hz w K hK cs h
 obtain ⟨c2, rfl, hKind, hName, hArgs⟩ := TType.opn h
 clear h
 have HKind := Lib.hid hKind; clear hKind
 have HName := Lib.hid hName; clear hName
 have Hz := Lib.hid hz; clear hz
 have hV : Below w.heap.size w ((w.alloc (.cells #[.int .i64 x.fKind, .string x.fName, c2] 88)).alloc (.cells #[.int .i64 0, .string ⟨#[]⟩, .slice none 0 0] 88)) := ((Below.refl _ _).alloc (Nat.le_refl _) _).alloc (by simp) _
 have hs : w.heap.size + 1 < ((w.alloc (.cells #[.int .i64 x.fKind, .string x.fName, c2] 88)).alloc (.cells #[.int .i64 0, .string ⟨#[]⟩, .slice none 0 0] 88)).heap.size := by simp
 have HA := Lib.hid (show ((w.alloc (.cells #[.int .i64 x.fKind, .string x.fName, c2] 88)).alloc (.cells #[.int .i64 0, .string ⟨#[]⟩, .slice none 0 0] 88)).heap[w.heap.size]? = some (.cells #[.int .i64 x.fKind, .string x.fName, c2] 88 (0, 0)) from alloc_lt (by simp) (alloc_at rfl))
 have HR := Lib.hid (show ((w.alloc (.cells #[.int .i64 x.fKind, .string x.fName, c2] 88)).alloc (.cells #[.int .i64 0, .string ⟨#[]⟩, .slice none 0 0] 88)).heap[w.heap.size + 1]? = some (.cells #[.int .i64 0, .string ⟨#[]⟩, .slice none 0 0] 88 (0, 0)) from alloc_at (by simp))
 go_enter Tryz.func40, Tryz.ntmps40
 go_wp2_with fail
 refine (iimplcopyTypes_c x.fArgs (by have := TType.lt_fArgs x; omega) (by have := Hz.out; rw [TType.sz_eq] at this; omega) _ K (fun b hb => Nat.lt_of_lt_of_le (hK b hb) hV.size) _ (Rep.ext hV hK hArgs)).mono ?_
 rintro e w1 ⟨a1, p1, b1, rfl, o1, n1, r1, hB1⟩
 have O1 := Lib.hid o1; clear o1
 have s1 : ∀ b ∈ b1, w.heap.size + 1 + 1 ≤ b ∧ b < w1.heap.size := by intro b hb; have := r1 b hb; (try simp at this); omega
 have y1 : w.heap.size + 1 + 1 ≤ w1.heap.size := by have := hB1.size; (try simp at this); omega
 clear r1
 replace HA := Lib.hid (row_below HA.out hB1 (by omega))
 replace HR := Lib.hid (row_below HR.out hB1 hs)
 replace hs := Nat.lt_of_lt_of_le hs hB1.size
 replace hV := hV.trans (hB1.mono hV.size)
 clear hB1
 have ha := Lib.hid (show ((#[.int .i64 x.fKind, .string x.fName, c2] : Array Value).toList.take 2 ++ ([.slice a1 x.fArgs.length p1] : List Value) ++ (#[.int .i64 x.fKind, .string x.fName, c2] : Array Value).toList.drop (2 + ([.slice a1 x.fArgs.length p1] : List Value).length)).toArray = #[.int .i64 x.fKind, .string x.fName, .slice a1 x.fArgs.length p1] from rfl)
 have hf := Lib.hid (show 2 < (#[.int .i64 x.fKind, .string x.fName, c2] : Array Value).size from (by decide : 2 < 3))
 go_wp2_with (with_reducible refine stR1 rfl 86 _ _ rfl (w.heap.size) 2 rfl (.slice a1 x.fArgs.length p1) rfl infoC86 rfl (#[.int .i64 x.fKind, .string x.fName, c2] : Array Value) #[.int .i64 x.fKind, .string x.fName, .slice a1 x.fArgs.length p1] 88 HA.out hf.out ha.out ?_)
 intro v1 hp1
 clear ha hf
 replace HA := Lib.hid hp1.row
 replace HR := Lib.hid (row_put HR.out hp1 (by omega))
 replace hs : w.heap.size + 1 < v1.heap.size := by rw [hp1.size]; exact hs
 replace hV := hp1.below hV (by omega)
 replace O1 := Lib.hid (O1.out.put hp1 (fun x hx => by have := s1 x hx; omega))
 have x1 : w1.heap.size ≤ v1.heap.size := by rw [hp1.size]; exact Nat.le_refl _
 have x1' : v1.heap.size ≤ w1.heap.size := by rw [hp1.size]; exact Nat.le_refl _
 clear hp1
 have OO := TType.mk_own HKind.out HName.out O1.out
 have hone := Rep.one (K := fun _ => True) _ _ (Own.rep _ _ _ OO (fun _ _ => trivial))
 have C0 := row_cells (cs := [.int .i64 x.fKind, .string x.fName, .slice a1 x.fArgs.length p1]) HA.out
 have haf := Lib.hid (show ((#[.int .i64 0, .string ⟨#[]⟩, .slice none 0 0] : Array Value).toList.take 0 ++ ([.int .i64 x.fKind, .string x.fName, .slice a1 x.fArgs.length p1] : List Value) ++ (#[.int .i64 0, .string ⟨#[]⟩, .slice none 0 0] : Array Value).toList.drop (0 + ([.int .i64 x.fKind, .string x.fName, .slice a1 x.fArgs.length p1] : List Value).length)).toArray = #[.int .i64 x.fKind, .string x.fName, .slice a1 x.fArgs.length p1] from rfl)
 have hff := Lib.hid (show 0 + ([.int .i64 x.fKind, .string x.fName, .slice a1 x.fArgs.length p1] : List Value).length ≤ (#[.int .i64 0, .string ⟨#[]⟩, .slice none 0 0] : Array Value).size from (by decide : 0 + 3 ≤ 3))
 have hif := Lib.hid (show (Tryz.prog.info? 88).map (·.size) = some ([.int .i64 x.fKind, .string x.fName, .slice a1 x.fArgs.length p1] : List Value).length from infoC88)
 go_wp2_with (first | (with_reducible refine ld rfl 88 _ rfl (w.heap.size) _ rfl [.int .i64 x.fKind, .string x.fName, .slice a1 x.fArgs.length p1] C0 _ Tryz.underlying88 hif.out ?_) | (with_reducible refine stR rfl 88 _ _ rfl (w.heap.size + 1) 0 rfl [.int .i64 x.fKind, .string x.fName, .slice a1 x.fArgs.length p1] rfl hif.out hone (#[.int .i64 0, .string ⟨#[]⟩, .slice none 0 0] : Array Value) #[.int .i64 x.fKind, .string x.fName, .slice a1 x.fArgs.length p1] 88 HR.out hff.out haf.out ?_))
 intro vf hpf
 have hVf := hpf.below hV (by omega)
 have cR := row_cells (cs := [.int .i64 x.fKind, .string x.fName, .slice a1 x.fArgs.length p1]) hpf.row
 have yf := hpf.size
 have OF := OO.put hpf (by
  intro x hx
  simp only [List.mem_append, List.not_mem_nil, or_false] at hx
  have := s1 x hx; omega)
 have nd0 : ([] : List Nat).Nodup := List.nodup_nil
 have nd1 : (b1 ++ (([] : List Nat))).Nodup := by simpa using n1
 go_wp2
 refine bodyPost_ret (v := .agg #[.int .i64 x.fKind, .string x.fName, .slice a1 x.fArgs.length p1]) (run_res Tryz.results40 (w.heap.size + 1) rfl [.int .i64 x.fKind, .string x.fName, .slice a1 x.fArgs.length p1] cR _ Tryz.underlying88 hif.out) rfl ⟨[.int .i64 x.fKind, .string x.fName, .slice a1 x.fArgs.length p1], _, rfl, OF, nd1, ?_, hVf⟩
 intro b hb
 simp only [List.mem_append, List.not_mem_nil, or_false] at hb
 have := s1 b hb
 omega
set_option maxRecDepth 100000 in
set_option maxHeartbeats 1000000 in
theorem stepimplcopyTypes_c (N : Nat) (iimplcopyType_c : CPimplcopyType_c N) (_iimplcopyTypes_c : CPimplcopyTypes_c N) : CPimplcopyTypes_c (N + 1) := by
 intro l hN hz w K hK v h
 have hlen : l.length ≤ 1048576 := by unfold szs at hz; omega
 have Hz := Lib.hid hz; clear hz
 obtain ⟨a, cap, rfl, hc, hm, -, hE⟩ := open_sl TType.width h
 unfold maxLen at hm
 clear h
 obtain ⟨i0, h2, hz0, hz1, hz2⟩ := info_parts zinfoC88
 go_enter Tryz.func101, Tryz.ntmps101
 go_wp2_with (at_make; refine wpList_make_full _ rfl _ _ 86 rfl w.heap.size 88 i0 _ 3 Tryz.underlying86 h2 hz0 hz1 _ _ _ _ l.length rfl rfl rfl rfl (by rw [hz2]; omega) (by unfold maxLen; omega) (Nat.le_refl _) ?_)
 intro wm hown hgr
 have hB0 : Below w.heap.size w wm := (Below.refl _ _).grown hgr (Nat.le_refl _) (by simp)
 have hR : l.length = 0 ∨ RowOf wm w.heap.size 88 (l.length * 3) := (rowOf_made hown).symm
 clear hown hgr
 go_wp2
 go_loopw [11] (fun i wr => ∃ (k : Nat) (r : List Nat), k ≤ l.length ∧ i = .int .i64 k ∧ (l.length = 0 ∨ RowOf wr w.heap.size 88 (l.length * 3)) ∧ Hid (OwnE wr ((l.take k).map TType.enc) w.heap.size 0 r) ∧ r.Nodup ∧ (∀ b ∈ r, w.heap.size + 1 ≤ b ∧ b < wr.heap.size) ∧ Below w.heap.size w wr) (fun i _ => l.length - (intOf i).toNat)
 case atStart => exact ⟨0, [], Nat.zero_le _, rfl, hR, Lib.hid (by simp only [List.take_zero, List.map_nil, OwnE]), List.nodup_nil, by simp, hB0⟩
 case round =>
  clear hR hB0
  obtain ⟨k, r, hk, rfl, hR, h1, n1, r1, hB⟩ := hrel
  by_cases hlt : k < l.length
  ·obtain ⟨b, off, rfl, hKb, cs, hcs, hr⟩ := hE k hlt
   have hr' := Rep.ext hB hK hr
   have hcs' := hcs.ext hB (hK b hKb)
   have hK' : ∀ b, K b → b < wr.heap.size := fun b h => Nat.lt_of_lt_of_le (hK b h) hB.size
   have hR' : RowOf wr w.heap.size 88 (l.length * 3) := by rcases hR with h | h <;> first | omega | exact h
   have hroom : k * 3 + 3 ≤ l.length * 3 := by have := Nat.mul_le_mul_right 3 (show k + 1 ≤ l.length from hlt); rw [Nat.add_mul] at this; omega
   have Hroom := Lib.hid hroom
   clear hE hcs hr hR hroom
   have hl0 := (Rep.length _ _ hr').trans (TType.width _)
   have Hl0 := Lib.hid hl0
   have hi : (Tryz.prog.info? 88).map (·.size) = some cs.length := by rw [hl0]; exact infoC88
   have hone0 := Rep.one _ _ hr'
   have hmem : l[k] ∈ l := List.getElem_mem hlt
   have Hs := Lib.hid (show SizeOf.sizeOf l[k] < SizeOf.sizeOf l from List.sizeOf_lt_of_mem hmem)
   have Hb := Lib.hid (show TType.sz l[k] ≤ 1048576 from (by have := szL_le TType.sz hmem; have := Hz.out; unfold szs at this; omega))
   have hg : w.heap.size < wr.heap.size := hR'.lt
   have RS := Lib.hid (fun w1 w2 cs bs => @row_step _ TType.enc _ TType.width l k hlt wr w1 w2 w.heap.size r bs cs h1.out n1 r1 hg)
   clear hmem hl0 h1 n1 r1
   generalize l[k] = x at *
   go_wp2_with (first | (with_reducible refine ld rfl 88 _ rfl b _ rfl cs hcs' _ Tryz.underlying88 hi ?_) | (with_reducible refine stA rfl 88 _ _ rfl wr.heap.size 0 rfl cs rfl hi hone0 _ 88 (alloc_at rfl) (by rw [Hl0.out]; decide) ?_))
   intro w0 hst0
   have hB1 : Below wr.heap.size wr w0 := hst0.below ((Below.refl _ _).alloc (Nat.le_refl _) _) (Nat.le_refl _)
   have hC0 := hst0.at_
   clear hst0
   go_wp2_with (with_reducible refine ld rfl 88 _ rfl wr.heap.size _ rfl cs hC0 _ Tryz.underlying88 hi ?_)
   refine (iimplcopyType_c x (by have := Hs.out; omega) Hb.out _ K (fun b hb => Nat.lt_of_lt_of_le (hK' b hb) hB1.size) _ (Rep.ext hB1 hK' hr')).mono ?_
   rintro e w1 ⟨cs', bs, rfl, o1, n2, r2, hB2⟩
   have hB3 := hB1.trans (hB2.mono hB1.size)
   have r3 : ∀ x ∈ bs, wr.heap.size ≤ x ∧ x < w1.heap.size := fun x hx => ⟨Nat.le_trans hB1.size (r2 x hx).1, (r2 x hx).2⟩
   have RS2 := Lib.hid (RS.out w1)
   clear RS r2 hB1 hB2 hC0
   obtain ⟨cur, hcur, hsz⟩ := hR'.below hB3 hg
   have Hcur := Lib.hid hcur
   have Hsz := Lib.hid hsz
   clear hcur hsz
   have hl' := (Rep.length (K := fun _ => True) _ _ (Own.rep _ _ _ o1 (fun _ _ => trivial))).trans (TType.width _)
   have hone := Rep.one (K := fun _ => True) _ _ (Own.rep _ _ _ o1 (fun _ _ => trivial))
   have hi' : (Tryz.prog.info? 88).map (·.size) = some cs'.length := by rw [hl']; exact infoC88
   have Hl' := Lib.hid hl'
   clear hl'
   go_wp2_with (with_reducible refine stA rfl 88 _ _ rfl w.heap.size (k * 3) rfl cs' rfl hi' hone cur 88 Hcur.out (by rw [Hl'.out, Hsz.out]; have := Hroom.out; omega) ?_)
   intro w2 hst
   have R2 : RowOf w2 w.heap.size 88 (l.length * 3) := RowOf.stored ⟨cur, Hcur.out, Hsz.out⟩ hst
   obtain ⟨h1', n1', r1'⟩ := RS2.out w2 cs' bs hB3 o1 n2 r3 hst
   have hB4 := hst.below (hB.trans (hB3.mono hB.size)) (Nat.le_refl _)
   have A1 := Lib.hid h1'; have A2 := Lib.hid n1'; have A3 := Lib.hid r1'; have A4 := Lib.hid hB4; have A5 := Lib.hid R2
   clear h1' n1' r1' hB4 R2 hB r3 hst RS2 hone hi' Hl' hB3
   go_wp2
   go_roundw
   case rel => exact ⟨k + 1, _, hlt, by go_num, .inr A5.out, A1, A2.out, A3.out, A4.out⟩
   case measure => simp [intOf]; omega
  ·obtain rfl : k = l.length := by omega
   have h1' := h1.out
   rw [List.take_length] at h1'
   have H1 := Lib.hid h1'
   clear h1' h1
   go_wp2
   go_ret
   rcases hR with h | h
   ·exact ⟨_, _, [], rfl, own_nil (List.length_eq_zero_iff.1 h) (by unfold maxLen; omega) (by simp), List.nodup_nil, by simp, hB⟩
   ·obtain ⟨bs, o1, n2, r2⟩ := row_done (by unfold maxLen; omega) h H1.out n1 r1
    exact ⟨_, _, bs, rfl, o1, n2, r2, hB⟩
theorem implcopyType_c_all : ∀ N : Nat, CPimplcopyType_c N ∧ CPimplcopyTypes_c N
 | 0 => ⟨fun _ h => absurd h (Nat.not_lt_zero _), fun _ h => absurd h (Nat.not_lt_zero _)⟩
 | N + 1 => by
  obtain ⟨i0, i1⟩ := implcopyType_c_all N
  exact ⟨stepimplcopyType_c N i0 i1, stepimplcopyTypes_c N i0 i1⟩
theorem implcopyType_c (x : TType) : ∀ (_ : x.sz ≤ 1048576) (w : World) (K : Nat → Prop) (_ : ∀ b, K b → b < w.heap.size) (cs : List Value) (_ : Rep w K x.enc cs),
  Calls Tryz.prog 40 #[.agg cs.toArray] w fun e w' => ∃ cs' bs, e = .returned (.agg cs'.toArray) ∧ Own w' x.enc cs' bs ∧ bs.Nodup ∧ (∀ b ∈ bs, w.heap.size ≤ b ∧ b < w'.heap.size) ∧ Below w.heap.size w w' := (implcopyType_c_all (SizeOf.sizeOf x + 1)).1 x (Nat.lt_succ_self _)
theorem implcopyTypes_c (l : List TType) : ∀ (_ : szs TType.sz l ≤ 1048576) (w : World) (K : Nat → Prop) (_ : ∀ b, K b → b < w.heap.size) (v : Value) (_ : Rep w K (.sl (l.map TType.enc)) [v]),
  Calls Tryz.prog 101 #[v] w fun e w' => ∃ a cap bs, e = .returned (.slice a l.length cap) ∧ Own w' (.sl (l.map TType.enc)) [.slice a l.length cap] bs ∧ bs.Nodup ∧ (∀ b ∈ bs, w.heap.size ≤ b ∧ b < w'.heap.size) ∧ Below w.heap.size w w' := (implcopyType_c_all (SizeOf.sizeOf l + 1)).2 l (Nat.lt_succ_self _)
set_option maxRecDepth 100000 in
set_option maxHeartbeats 1000000 in
theorem slicesClone_implMethodEntry_implMethodEntry_c (l : List TMethodEntry) : ∀ (_ : szs TMethodEntry.sz l ≤ 1048576) (w : World) (K : Nat → Prop) (_ : ∀ b, K b → b < w.heap.size) (v : Value) (_ : Rep w K (.sl (l.map TMethodEntry.enc)) [v]),
  Calls Tryz.prog 41 #[v] w fun e w' => ∃ a cap bs, e = .returned (.slice a l.length cap) ∧ Own w' (.sl (l.map TMethodEntry.enc)) [.slice a l.length cap] bs ∧ bs.Nodup ∧ (∀ b ∈ bs, w.heap.size ≤ b ∧ b < w'.heap.size) ∧ Below w.heap.size w w' := by
 intro hz w K hK v h
 have hlen : l.length ≤ 1048576 := by unfold szs at hz; omega
 clear hz
 have hB0 : Below w.heap.size w (w.alloc (.cells #[] 95)) := (Below.refl _ _).alloc (Nat.le_refl _) _
 have G := Lib.hid (Gr.made (w := (w.alloc (.cells #[] 95))) (lo := w.heap.size) (e := 95) (size := 3) (g := w.heap.size) (alloc_at rfl) (Nat.le_refl _))
 obtain ⟨a0, cap0, rfl, hc, hm, hn, -⟩ := open_sl TMethodEntry.width h
 cases a0 with
 | none =>
  have hc0 := hn rfl
  have hl0 : l.length = 0 := by omega
  have H0 := Lib.hid hl0
  subst hc0
  clear G hl0 hc hm
  have kn : ∀ W, (binOp .eql 89 (.slice none l.length 0) (.slice none 0 0)).run Tryz.prog W = .ok (.bool true) W := fun W => run_eql_slice_nil W 89 95 none _ _ Tryz.underlying89
  go_enter Tryz.func41, Tryz.ntmps41
  go_wp2
  go_ret
  exact ⟨none, 0, by rw [H0.out]; rfl, [], own_nil (List.length_eq_zero_iff.1 H0.out) (by simp [maxLen]) (by simp), List.nodup_nil, by simp, Below.refl _ _⟩
 | some ad =>
  have kn : ∀ W, (binOp .eql 89 (.slice (some ad) l.length cap0) (.slice none 0 0)).run Tryz.prog W = .ok (.bool false) W := fun W => run_eql_slice_nil W 89 95 (some ad) _ _ Tryz.underlying89
  go_enter Tryz.func41, Tryz.ntmps41
  go_wp2_with (with_reducible refine apf rfl _ _ 89 rfl (.agg #[.string ⟨#[]⟩, .string ⟨#[]⟩, .int .i64 0]) 40 Tryz.underlying89 zinfoC95 zsizeC95 (by decide) rfl G.out rfl (Rep.ext hB0 hK h) TMethodEntry.width TMethodEntry.flatD (by unfold maxLen; simp; omega) (by simp; omega) (by simp) ?_)
  intro v' w' hG hB hk
  have H := Lib.hid hG
  clear hG hk
  go_wp2
  go_ret
  have hG := H.out
  (try simp only [List.nil_append] at hG)
  obtain ⟨a, cap, bs, rfl, o1, n1, r1⟩ := hG.ownT
  exact ⟨_, _, bs, rfl, o1, n1, r1, hB0.trans hB⟩
end Go.Proofs.YtkmiecgcibjkbaaGreat
