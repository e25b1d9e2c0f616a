/- What reads as data of this program's types is a mirror value's tree. No condition. -/
import Derived.Test.YtkmiecgcibjkbaaGreatOpen
import Derived.Test.YtkmiecgcibjkbaaGreatRows
namespace Go.Proofs.YtkmiecgcibjkbaaGreat
open Go.ChangeShapes Go.WideShapes Go.ChangeAt Go.RowKit
theorem cells150 : Tryz.prog.cellsOf 150 = 3 := by kernel_rfl
theorem cells3 : Tryz.prog.cellsOf 3 = 1 := by kernel_rfl
theorem cells9 : Tryz.prog.cellsOf 9 = 1 := by kernel_rfl
theorem cells148 : Tryz.prog.cellsOf 148 = 1 := by kernel_rfl
set_option maxRecDepth 100000 in
theorem openType_all {H : Type} {enc : TypeId × Value → H} {w : World} {spare : Nat → Bool} {held : Bool} (n : Nat) : (∀ {cs : List Value} {x : DataW H × List MemPlace}, DataW.trod enc Tryz.prog w 0 spare held n 150 cs = some x → ∃ y : TType, Rep w (Live w) y.enc cs) := by
  induction n using Nat.strongRecOn with
  | ind fuel ih =>
  have ihType : ∀ m, m < fuel → ∀ {cs : List Value} {x : DataW H × List MemPlace}, DataW.trod enc Tryz.prog w 0 spare held m 150 cs = some x → ∃ y : TType, Rep w (Live w) y.enc cs := fun m hm => (ih m hm)
  · intro cs x h
    obtain ⟨hl, n0, rfl, hf⟩ := open_F Tryz.underlying150 h
    rw [cells150] at hl
    obtain ⟨z0, y0⟩ := hf 0 _ rfl
    replace y0 : DataW.trod enc Tryz.prog w 0 spare held n0 3 ((cs.drop 0).take (Tryz.prog.cellsOf 3)) = some z0 := y0
    rw [cells3] at y0
    obtain ⟨x0, r0⟩ := open_I Tryz.underlying3 y0
    obtain ⟨z1, y1⟩ := hf 1 _ rfl
    replace y1 : DataW.trod enc Tryz.prog w 0 spare held n0 9 ((cs.drop 1).take (Tryz.prog.cellsOf 9)) = some z1 := y1
    rw [cells9] at y1
    obtain ⟨x1, r1⟩ := open_S Tryz.underlying9 y1
    obtain ⟨z2, y2⟩ := hf 2 _ rfl
    replace y2 : DataW.trod enc Tryz.prog w 0 spare held n0 148 ((cs.drop 2).take (Tryz.prog.cellsOf 148)) = some z2 := y2
    rw [cells148] at y2
    obtain ⟨x2, r2⟩ := open_L (ea := TType.enc) Tryz.underlying148 cells150 (by decide) TType.width (fun n cs x hn hq => ihType n (by omega) hq) y2
    refine ⟨⟨x0, x1, x2⟩, ?_⟩
    rw [TType.enc_eq]
    simp only [Rep]
    have hs := RepS.at_ (off := 0) (n := 1) (encI_w _) r0 (RepS.at_ (off := 1) (n := 1) (encS_w _) r1 (RepS.at_ (off := 2) (n := 1) (sl_w _) r2 (RepS.end_ (off := 3) hl)))
    simpa only [List.drop_zero] using hs
theorem openType_c {H : Type} {enc : TypeId × Value → H} {w : World} {spare : Nat → Bool} {held : Bool} : ∀ {fuel : Nat} {cs : List Value} {x : DataW H × List MemPlace}, DataW.trod enc Tryz.prog w 0 spare held fuel 150 cs = some x → ∃ y : TType, Rep w (Live w) y.enc cs := fun {fuel} {_} {_} h => (openType_all fuel) h
theorem cells189 : Tryz.prog.cellsOf 189 = 4 := by kernel_rfl
set_option maxRecDepth 100000 in
theorem openBinding_c {H : Type} {enc : TypeId × Value → H} {w : World} {spare : Nat → Bool} {held : Bool} : ∀ {fuel : Nat} {cs : List Value} {x : DataW H × List MemPlace}, DataW.trod enc Tryz.prog w 0 spare held fuel 189 cs = some x → ∃ y : TBinding, Rep w (Live w) y.enc cs := by
  intro fuel cs x h
  obtain ⟨hl, n0, rfl, hf⟩ := open_F Tryz.underlying189 h
  rw [cells189] at hl
  obtain ⟨z0, y0⟩ := hf 0 _ rfl
  replace y0 : DataW.trod enc Tryz.prog w 0 spare held n0 9 ((cs.drop 0).take (Tryz.prog.cellsOf 9)) = some z0 := y0
  rw [cells9] at y0
  obtain ⟨x0, r0⟩ := open_S Tryz.underlying9 y0
  obtain ⟨z1, y1⟩ := hf 1 _ rfl
  replace y1 : DataW.trod enc Tryz.prog w 0 spare held n0 150 ((cs.drop 1).take (Tryz.prog.cellsOf 150)) = some z1 := y1
  rw [cells150] at y1
  obtain ⟨x1, r1⟩ := openType_c y1
  refine ⟨⟨x0, x1⟩, ?_⟩
  rw [TBinding.enc_eq]
  simp only [Rep]
  have hs := RepS.at_ (off := 0) (n := 1) (encS_w _) r0 (RepS.at_ (off := 1) (n := 3) (TType.width _) r1 (RepS.end_ (off := 4) hl))
  simpa only [List.drop_zero] using hs
theorem cells195 : Tryz.prog.cellsOf 195 = 4 := by kernel_rfl
set_option maxRecDepth 100000 in
theorem openBound_c {H : Type} {enc : TypeId × Value → H} {w : World} {spare : Nat → Bool} {held : Bool} : ∀ {fuel : Nat} {cs : List Value} {x : DataW H × List MemPlace}, DataW.trod enc Tryz.prog w 0 spare held fuel 195 cs = some x → ∃ y : TBound, Rep w (Live w) y.enc cs := by
  intro fuel cs x h
  obtain ⟨hl, n0, rfl, hf⟩ := open_F Tryz.underlying195 h
  rw [cells195] at hl
  obtain ⟨z0, y0⟩ := hf 0 _ rfl
  replace y0 : DataW.trod enc Tryz.prog w 0 spare held n0 9 ((cs.drop 0).take (Tryz.prog.cellsOf 9)) = some z0 := y0
  rw [cells9] at y0
  obtain ⟨x0, r0⟩ := open_S Tryz.underlying9 y0
  obtain ⟨z1, y1⟩ := hf 1 _ rfl
  replace y1 : DataW.trod enc Tryz.prog w 0 spare held n0 150 ((cs.drop 1).take (Tryz.prog.cellsOf 150)) = some z1 := y1
  rw [cells150] at y1
  obtain ⟨x1, r1⟩ := openType_c y1
  refine ⟨⟨x0, x1⟩, ?_⟩
  rw [TBound.enc_eq]
  simp only [Rep]
  have hs := RepS.at_ (off := 0) (n := 1) (encS_w _) r0 (RepS.at_ (off := 1) (n := 3) (TType.width _) r1 (RepS.end_ (off := 4) hl))
  simpa only [List.drop_zero] using hs
theorem cells192 : Tryz.prog.cellsOf 192 = 7 := by kernel_rfl
set_option maxRecDepth 100000 in
theorem openEquation_c {H : Type} {enc : TypeId × Value → H} {w : World} {spare : Nat → Bool} {held : Bool} : ∀ {fuel : Nat} {cs : List Value} {x : DataW H × List MemPlace}, DataW.trod enc Tryz.prog w 0 spare held fuel 192 cs = some x → ∃ y : TEquation, Rep w (Live w) y.enc cs := by
  intro fuel cs x h
  obtain ⟨hl, n0, rfl, hf⟩ := open_F Tryz.underlying192 h
  rw [cells192] at hl
  obtain ⟨z0, y0⟩ := hf 0 _ rfl
  replace y0 : DataW.trod enc Tryz.prog w 0 spare held n0 150 ((cs.drop 0).take (Tryz.prog.cellsOf 150)) = some z0 := y0
  rw [cells150] at y0
  obtain ⟨x0, r0⟩ := openType_c y0
  obtain ⟨z1, y1⟩ := hf 1 _ rfl
  replace y1 : DataW.trod enc Tryz.prog w 0 spare held n0 150 ((cs.drop 3).take (Tryz.prog.cellsOf 150)) = some z1 := y1
  rw [cells150] at y1
  obtain ⟨x1, r1⟩ := openType_c y1
  obtain ⟨z2, y2⟩ := hf 2 _ rfl
  replace y2 : DataW.trod enc Tryz.prog w 0 spare held n0 3 ((cs.drop 6).take (Tryz.prog.cellsOf 3)) = some z2 := y2
  rw [cells3] at y2
  obtain ⟨x2, r2⟩ := open_I Tryz.underlying3 y2
  refine ⟨⟨x0, x1, x2⟩, ?_⟩
  rw [TEquation.enc_eq]
  simp only [Rep]
  have hs := RepS.at_ (off := 0) (n := 3) (TType.width _) r0 (RepS.at_ (off := 3) (n := 3) (TType.width _) r1 (RepS.at_ (off := 6) (n := 1) (encI_w _) r2 (RepS.end_ (off := 7) hl)))
  simpa only [List.drop_zero] using hs
theorem cells197 : Tryz.prog.cellsOf 197 = 5 := by kernel_rfl
set_option maxRecDepth 100000 in
theorem openObligation_c {H : Type} {enc : TypeId × Value → H} {w : World} {spare : Nat → Bool} {held : Bool} : ∀ {fuel : Nat} {cs : List Value} {x : DataW H × List MemPlace}, DataW.trod enc Tryz.prog w 0 spare held fuel 197 cs = some x → ∃ y : TObligation, Rep w (Live w) y.enc cs := by
  intro fuel cs x h
  obtain ⟨hl, n0, rfl, hf⟩ := open_F Tryz.underlying197 h
  rw [cells197] at hl
  obtain ⟨z0, y0⟩ := hf 0 _ rfl
  replace y0 : DataW.trod enc Tryz.prog w 0 spare held n0 195 ((cs.drop 0).take (Tryz.prog.cellsOf 195)) = some z0 := y0
  rw [cells195] at y0
  obtain ⟨x0, r0⟩ := openBound_c y0
  obtain ⟨z1, y1⟩ := hf 1 _ rfl
  replace y1 : DataW.trod enc Tryz.prog w 0 spare held n0 3 ((cs.drop 4).take (Tryz.prog.cellsOf 3)) = some z1 := y1
  rw [cells3] at y1
  obtain ⟨x1, r1⟩ := open_I Tryz.underlying3 y1
  refine ⟨⟨x0, x1⟩, ?_⟩
  rw [TObligation.enc_eq]
  simp only [Rep]
  have hs := RepS.at_ (off := 0) (n := 4) (TBound.width _) r0 (RepS.at_ (off := 4) (n := 1) (encI_w _) r1 (RepS.end_ (off := 5) hl))
  simpa only [List.drop_zero] using hs
theorem cells46 : Tryz.prog.cellsOf 46 = 8 := by kernel_rfl
theorem cells42 : Tryz.prog.cellsOf 42 = 1 := by kernel_rfl
theorem cells43 : Tryz.prog.cellsOf 43 = 1 := by kernel_rfl
theorem cells44 : Tryz.prog.cellsOf 44 = 1 := by kernel_rfl
set_option maxRecDepth 100000 in
theorem openInferState_c {H : Type} {enc : TypeId × Value → H} {w : World} {spare : Nat → Bool} {held : Bool} : ∀ {fuel : Nat} {cs : List Value} {x : DataW H × List MemPlace}, DataW.trod enc Tryz.prog w 0 spare held fuel 46 cs = some x → ∃ y : TInferState, Rep w (Live w) y.enc cs := by
  intro fuel cs x h
  obtain ⟨hl, n0, rfl, hf⟩ := open_F Tryz.underlying46 h
  rw [cells46] at hl
  obtain ⟨z0, y0⟩ := hf 0 _ rfl
  replace y0 : DataW.trod enc Tryz.prog w 0 spare held n0 3 ((cs.drop 0).take (Tryz.prog.cellsOf 3)) = some z0 := y0
  rw [cells3] at y0
  obtain ⟨x0, r0⟩ := open_I Tryz.underlying3 y0
  obtain ⟨z1, y1⟩ := hf 1 _ rfl
  replace y1 : DataW.trod enc Tryz.prog w 0 spare held n0 3 ((cs.drop 1).take (Tryz.prog.cellsOf 3)) = some z1 := y1
  rw [cells3] at y1
  obtain ⟨x1, r1⟩ := open_I Tryz.underlying3 y1
  obtain ⟨z2, y2⟩ := hf 2 _ rfl
  replace y2 : DataW.trod enc Tryz.prog w 0 spare held n0 3 ((cs.drop 2).take (Tryz.prog.cellsOf 3)) = some z2 := y2
  rw [cells3] at y2
  obtain ⟨x2, r2⟩ := open_I Tryz.underlying3 y2
  obtain ⟨z3, y3⟩ := hf 3 _ rfl
  replace y3 : DataW.trod enc Tryz.prog w 0 spare held n0 42 ((cs.drop 3).take (Tryz.prog.cellsOf 42)) = some z3 := y3
  rw [cells42] at y3
  obtain ⟨x3, r3⟩ := open_L (ea := TBinding.enc) Tryz.underlying42 cells189 (by decide) TBinding.width (fun n cs x _ hq => openBinding_c hq) y3
  obtain ⟨z4, y4⟩ := hf 4 _ rfl
  replace y4 : DataW.trod enc Tryz.prog w 0 spare held n0 43 ((cs.drop 4).take (Tryz.prog.cellsOf 43)) = some z4 := y4
  rw [cells43] at y4
  obtain ⟨x4, r4⟩ := open_L (ea := TEquation.enc) Tryz.underlying43 cells192 (by decide) TEquation.width (fun n cs x _ hq => openEquation_c hq) y4
  obtain ⟨z5, y5⟩ := hf 5 _ rfl
  replace y5 : DataW.trod enc Tryz.prog w 0 spare held n0 44 ((cs.drop 5).take (Tryz.prog.cellsOf 44)) = some z5 := y5
  rw [cells44] at y5
  obtain ⟨x5, r5⟩ := open_L (ea := TObligation.enc) Tryz.underlying44 cells197 (by decide) TObligation.width (fun n cs x _ hq => openObligation_c hq) y5
  obtain ⟨z6, y6⟩ := hf 6 _ rfl
  replace y6 : DataW.trod enc Tryz.prog w 0 spare held n0 3 ((cs.drop 6).take (Tryz.prog.cellsOf 3)) = some z6 := y6
  rw [cells3] at y6
  obtain ⟨x6, r6⟩ := open_I Tryz.underlying3 y6
  obtain ⟨z7, y7⟩ := hf 7 _ rfl
  replace y7 : DataW.trod enc Tryz.prog w 0 spare held n0 3 ((cs.drop 7).take (Tryz.prog.cellsOf 3)) = some z7 := y7
  rw [cells3] at y7
  obtain ⟨x7, r7⟩ := open_I Tryz.underlying3 y7
  refine ⟨⟨x0, x1, x2, x3, x4, x5, x6, x7⟩, ?_⟩
  rw [TInferState.enc_eq]
  simp only [Rep]
  have hs := RepS.at_ (off := 0) (n := 1) (encI_w _) r0 (RepS.at_ (off := 1) (n := 1) (encI_w _) r1 (RepS.at_ (off := 2) (n := 1) (encI_w _) r2 (RepS.at_ (off := 3) (n := 1) (sl_w _) r3 (RepS.at_ (off := 4) (n := 1) (sl_w _) r4 (RepS.at_ (off := 5) (n := 1) (sl_w _) r5 (RepS.at_ (off := 6) (n := 1) (encI_w _) r6 (RepS.at_ (off := 7) (n := 1) (encI_w _) r7 (RepS.end_ (off := 8) hl))))))))
  simpa only [List.drop_zero] using hs
end Go.Proofs.YtkmiecgcibjkbaaGreat
