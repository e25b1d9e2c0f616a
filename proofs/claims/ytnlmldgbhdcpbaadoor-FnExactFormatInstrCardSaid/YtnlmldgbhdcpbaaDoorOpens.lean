/- What reads as data of this program's types is a mirror value's tree. No condition. -/
import Derived.Test.YtnlmldgbhdcpbaaDoorOpen
import Derived.Test.YtnlmldgbhdcpbaaDoorRows
namespace Go.Proofs.YtnlmldgbhdcpbaaDoor
open Go.ChangeShapes Go.WideShapes Go.ChangeAt Go.RowKit
theorem cells23 : Tryd.prog.cellsOf 23 = 5 := by kernel_rfl
theorem cells3 : Tryd.prog.cellsOf 3 = 1 := by kernel_rfl
theorem cells9 : Tryd.prog.cellsOf 9 = 1 := by kernel_rfl
set_option maxRecDepth 100000 in
theorem openInstr_c {H : Type} {enc : TypeId × Value → H} {w : World} {spare : Nat → Bool} {held : Bool} : ∀ {fuel : Nat} {cs : List Value} {x : DataW H × List MemPlace}, DataW.trod enc Tryd.prog w 0 spare held fuel 23 cs = some x → ∃ y : TInstr, Rep w (Live w) y.enc cs := by
  intro fuel cs x h
  obtain ⟨hl, n0, rfl, hf⟩ := open_F Tryd.underlying23 h
  rw [cells23] at hl
  obtain ⟨z0, y0⟩ := hf 0 _ rfl
  replace y0 : DataW.trod enc Tryd.prog w 0 spare held n0 3 ((cs.drop 0).take (Tryd.prog.cellsOf 3)) = some z0 := y0
  rw [cells3] at y0
  obtain ⟨x0, r0⟩ := open_I Tryd.underlying3 y0
  obtain ⟨z1, y1⟩ := hf 1 _ rfl
  replace y1 : DataW.trod enc Tryd.prog w 0 spare held n0 3 ((cs.drop 1).take (Tryd.prog.cellsOf 3)) = some z1 := y1
  rw [cells3] at y1
  obtain ⟨x1, r1⟩ := open_I Tryd.underlying3 y1
  obtain ⟨z2, y2⟩ := hf 2 _ rfl
  replace y2 : DataW.trod enc Tryd.prog w 0 spare held n0 3 ((cs.drop 2).take (Tryd.prog.cellsOf 3)) = some z2 := y2
  rw [cells3] at y2
  obtain ⟨x2, r2⟩ := open_I Tryd.underlying3 y2
  obtain ⟨z3, y3⟩ := hf 3 _ rfl
  replace y3 : DataW.trod enc Tryd.prog w 0 spare held n0 9 ((cs.drop 3).take (Tryd.prog.cellsOf 9)) = some z3 := y3
  rw [cells9] at y3
  obtain ⟨x3, r3⟩ := open_S Tryd.underlying9 y3
  obtain ⟨z4, y4⟩ := hf 4 _ rfl
  replace y4 : DataW.trod enc Tryd.prog w 0 spare held n0 9 ((cs.drop 4).take (Tryd.prog.cellsOf 9)) = some z4 := y4
  rw [cells9] at y4
  obtain ⟨x4, r4⟩ := open_S Tryd.underlying9 y4
  refine ⟨⟨x0, x1, x2, x3, x4⟩, ?_⟩
  rw [TInstr.enc_eq]
  simp only [Rep]
  have hs := RepS.at_ (off := 0) (n := 1) (encI_w _) r0 (RepS.at_ (off := 1) (n := 1) (encI_w _) r1 (RepS.at_ (off := 2) (n := 1) (encI_w _) r2 (RepS.at_ (off := 3) (n := 1) (encS_w _) r3 (RepS.at_ (off := 4) (n := 1) (encS_w _) r4 (RepS.end_ (off := 5) hl)))))
  simpa only [List.drop_zero] using hs
end Go.Proofs.YtnlmldgbhdcpbaaDoor
