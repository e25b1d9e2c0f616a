/- What reads as data of this program's types is a mirror value's tree. No condition but sizes. -/
import Derived.Test.YtkadbimpaplnmaaGreatDoorM02
import Derived.Test.YtkadbimpaplnmaaGreatDoorRows
namespace Go.Proofs.YtkadbimpaplnmaaGreatDoor
open Go.ChangeShapes Go.WideShapes Go.ChangeAt Go.RowKit
theorem cells132 : Tryz.prog.cellsOf 132 = 3 := by kernel_rfl
theorem cells3 : Tryz.prog.cellsOf 3 = 1 := by kernel_rfl
theorem cells9 : Tryz.prog.cellsOf 9 = 1 := by kernel_rfl
theorem cells130 : Tryz.prog.cellsOf 130 = 1 := by kernel_rfl
set_option maxRecDepth 100000 in
theorem openType_all {H : Type} {enc : TypeId × Value → H} {w : World} {spare : Nat → Bool} {held : Bool} (n : Nat) : (∀ {cs : List Value} {x : DataW H × List MemPlace}, DataW.trod enc Tryz.prog w 0 spare held n 132 cs = some x → ∃ y : TType, Rep w (Live w) y.enc cs) := by
 induction n using Nat.strongRecOn with
 | ind fuel ih =>
 have ihType : ∀ m, m < fuel → ∀ {cs : List Value} {x : DataW H × List MemPlace}, DataW.trod enc Tryz.prog w 0 spare held m 132 cs = some x → ∃ y : TType, Rep w (Live w) y.enc cs := fun m hm => (ih m hm)
 ·intro cs x h
  obtain ⟨hl, n0, rfl, hf⟩ := open_F Tryz.underlying132 h
  rw [cells132] at hl
  obtain ⟨z0, y0⟩ := hf 0 _ rfl
  replace y0 : DataW.trod enc Tryz.prog w 0 spare held n0 3 ((cs.drop 0).take (Tryz.prog.cellsOf 3)) = some z0 := y0
  rw [cells3] at y0
  obtain ⟨x0, r0⟩ := open_I Tryz.underlying3 y0
  obtain ⟨z1, y1⟩ := hf 1 _ rfl
  replace y1 : DataW.trod enc Tryz.prog w 0 spare held n0 9 ((cs.drop 1).take (Tryz.prog.cellsOf 9)) = some z1 := y1
  rw [cells9] at y1
  obtain ⟨x1, r1⟩ := open_S Tryz.underlying9 y1
  obtain ⟨z2, y2⟩ := hf 2 _ rfl
  replace y2 : DataW.trod enc Tryz.prog w 0 spare held n0 130 ((cs.drop 2).take (Tryz.prog.cellsOf 130)) = some z2 := y2
  rw [cells130] at y2
  obtain ⟨x2, r2⟩ := open_L (ea := TType.enc) Tryz.underlying130 cells132 (by decide) TType.width (fun n cs x hn hq => ihType n (by omega) hq) y2
  refine ⟨⟨x0, x1, x2⟩, ?_⟩
  rw [TType.enc_eq]
  simp only [Rep]
  have hs := RepS.at_ (off := 0) (n := 1) (encI_w _) r0 (RepS.at_ (off := 1) (n := 1) (encS_w _) r1 (RepS.at_ (off := 2) (n := 1) (sl_w _) r2 (RepS.end_ (off := 3) hl)))
  simpa only [List.drop_zero] using hs
theorem openType_c {H : Type} {enc : TypeId × Value → H} {w : World} {spare : Nat → Bool} {held : Bool} : ∀ {fuel : Nat} {cs : List Value} {x : DataW H × List MemPlace}, DataW.trod enc Tryz.prog w 0 spare held fuel 132 cs = some x → ∃ y : TType, Rep w (Live w) y.enc cs := fun {fuel} {_} {_} h => (openType_all fuel) h
theorem cells298 : Tryz.prog.cellsOf 298 = 11 := by kernel_rfl
theorem cells38 : Tryz.prog.cellsOf 38 = 1 := by kernel_rfl
theorem cells142 : Tryz.prog.cellsOf 142 = 9 := by kernel_rfl
theorem cells139 : Tryz.prog.cellsOf 139 = 1 := by kernel_rfl
theorem cells140 : Tryz.prog.cellsOf 140 = 1 := by kernel_rfl
set_option maxRecDepth 100000 in
theorem openArmExpr_all {H : Type} {enc : TypeId × Value → H} {w : World} {spare : Nat → Bool} {held : Bool} (n : Nat) : (∀ {cs : List Value} {x : DataW H × List MemPlace}, DataW.trod enc Tryz.prog w 0 spare held n 298 cs = some x → ∃ y : TArm, Rep w (Live w) y.enc cs) ∧ (∀ {cs : List Value} {x : DataW H × List MemPlace}, DataW.trod enc Tryz.prog w 0 spare held n 142 cs = some x → ∃ y : TExpr, Rep w (Live w) y.enc cs) := by
 induction n using Nat.strongRecOn with
 | ind fuel ih =>
 have ihArm : ∀ m, m < fuel → ∀ {cs : List Value} {x : DataW H × List MemPlace}, DataW.trod enc Tryz.prog w 0 spare held m 298 cs = some x → ∃ y : TArm, Rep w (Live w) y.enc cs := fun m hm => (ih m hm).1
 have ihExpr : ∀ m, m < fuel → ∀ {cs : List Value} {x : DataW H × List MemPlace}, DataW.trod enc Tryz.prog w 0 spare held m 142 cs = some x → ∃ y : TExpr, Rep w (Live w) y.enc cs := fun m hm => (ih m hm).2
 refine ⟨?_, ?_⟩
 ·intro cs x h
  obtain ⟨hl, n0, rfl, hf⟩ := open_F Tryz.underlying298 h
  rw [cells298] at hl
  obtain ⟨z0, y0⟩ := hf 0 _ rfl
  replace y0 : DataW.trod enc Tryz.prog w 0 spare held n0 9 ((cs.drop 0).take (Tryz.prog.cellsOf 9)) = some z0 := y0
  rw [cells9] at y0
  obtain ⟨x0, r0⟩ := open_S Tryz.underlying9 y0
  obtain ⟨z1, y1⟩ := hf 1 _ rfl
  replace y1 : DataW.trod enc Tryz.prog w 0 spare held n0 38 ((cs.drop 1).take (Tryz.prog.cellsOf 38)) = some z1 := y1
  rw [cells38] at y1
  obtain ⟨x1, r1⟩ := open_L (ea := encS) Tryz.underlying38 cells9 (by decide) encS_w (fun n cs x _ hq => open_S Tryz.underlying9 hq) y1
  obtain ⟨z2, y2⟩ := hf 2 _ rfl
  replace y2 : DataW.trod enc Tryz.prog w 0 spare held n0 142 ((cs.drop 2).take (Tryz.prog.cellsOf 142)) = some z2 := y2
  rw [cells142] at y2
  obtain ⟨x2, r2⟩ := ihExpr n0 (by omega) y2
  refine ⟨⟨x0, x1, x2⟩, ?_⟩
  rw [TArm.enc_eq]
  simp only [Rep]
  have hs := RepS.at_ (off := 0) (n := 1) (encS_w _) r0 (RepS.at_ (off := 1) (n := 1) (sl_w _) r1 (RepS.at_ (off := 2) (n := 9) (TExpr.width _) r2 (RepS.end_ (off := 11) hl)))
  simpa only [List.drop_zero] using hs
 ·intro cs x h
  obtain ⟨hl, n0, rfl, hf⟩ := open_F Tryz.underlying142 h
  rw [cells142] at hl
  obtain ⟨z0, y0⟩ := hf 0 _ rfl
  replace y0 : DataW.trod enc Tryz.prog w 0 spare held n0 3 ((cs.drop 0).take (Tryz.prog.cellsOf 3)) = some z0 := y0
  rw [cells3] at y0
  obtain ⟨x0, r0⟩ := open_I Tryz.underlying3 y0
  obtain ⟨z1, y1⟩ := hf 1 _ rfl
  replace y1 : DataW.trod enc Tryz.prog w 0 spare held n0 9 ((cs.drop 1).take (Tryz.prog.cellsOf 9)) = some z1 := y1
  rw [cells9] at y1
  obtain ⟨x1, r1⟩ := open_S Tryz.underlying9 y1
  obtain ⟨z2, y2⟩ := hf 2 _ rfl
  replace y2 : DataW.trod enc Tryz.prog w 0 spare held n0 9 ((cs.drop 2).take (Tryz.prog.cellsOf 9)) = some z2 := y2
  rw [cells9] at y2
  obtain ⟨x2, r2⟩ := open_S Tryz.underlying9 y2
  obtain ⟨z3, y3⟩ := hf 3 _ rfl
  replace y3 : DataW.trod enc Tryz.prog w 0 spare held n0 3 ((cs.drop 3).take (Tryz.prog.cellsOf 3)) = some z3 := y3
  rw [cells3] at y3
  obtain ⟨x3, r3⟩ := open_I Tryz.underlying3 y3
  obtain ⟨z4, y4⟩ := hf 4 _ rfl
  replace y4 : DataW.trod enc Tryz.prog w 0 spare held n0 132 ((cs.drop 4).take (Tryz.prog.cellsOf 132)) = some z4 := y4
  rw [cells132] at y4
  obtain ⟨x4, r4⟩ := openType_c y4
  obtain ⟨z5, y5⟩ := hf 5 _ rfl
  replace y5 : DataW.trod enc Tryz.prog w 0 spare held n0 139 ((cs.drop 7).take (Tryz.prog.cellsOf 139)) = some z5 := y5
  rw [cells139] at y5
  obtain ⟨x5, r5⟩ := open_L (ea := TExpr.enc) Tryz.underlying139 cells142 (by decide) TExpr.width (fun n cs x hn hq => ihExpr n (by omega) hq) y5
  obtain ⟨z6, y6⟩ := hf 6 _ rfl
  replace y6 : DataW.trod enc Tryz.prog w 0 spare held n0 140 ((cs.drop 8).take (Tryz.prog.cellsOf 140)) = some z6 := y6
  rw [cells140] at y6
  obtain ⟨x6, r6⟩ := open_L (ea := TArm.enc) Tryz.underlying140 cells298 (by decide) TArm.width (fun n cs x hn hq => ihArm n (by omega) hq) y6
  refine ⟨⟨x0, x1, x2, x3, x4, x5, x6⟩, ?_⟩
  rw [TExpr.enc_eq]
  simp only [Rep]
  have hs := RepS.at_ (off := 0) (n := 1) (encI_w _) r0 (RepS.at_ (off := 1) (n := 1) (encS_w _) r1 (RepS.at_ (off := 2) (n := 1) (encS_w _) r2 (RepS.at_ (off := 3) (n := 1) (encI_w _) r3 (RepS.at_ (off := 4) (n := 3) (TType.width _) r4 (RepS.at_ (off := 7) (n := 1) (sl_w _) r5 (RepS.at_ (off := 8) (n := 1) (sl_w _) r6 (RepS.end_ (off := 9) hl)))))))
  simpa only [List.drop_zero] using hs
theorem openExpr_c {H : Type} {enc : TypeId × Value → H} {w : World} {spare : Nat → Bool} {held : Bool} : ∀ {fuel : Nat} {cs : List Value} {x : DataW H × List MemPlace}, DataW.trod enc Tryz.prog w 0 spare held fuel 142 cs = some x → ∃ y : TExpr, Rep w (Live w) y.enc cs := fun {fuel} {_} {_} h => (openArmExpr_all fuel).2 h
theorem cells247 : Tryz.prog.cellsOf 247 = 4 := by kernel_rfl
set_option maxRecDepth 100000 in
theorem openBound_c {H : Type} {enc : TypeId × Value → H} {w : World} {spare : Nat → Bool} {held : Bool} : ∀ {fuel : Nat} {cs : List Value} {x : DataW H × List MemPlace}, DataW.trod enc Tryz.prog w 0 spare held fuel 247 cs = some x → ∃ y : TBound, Rep w (Live w) y.enc cs := by
 intro fuel cs x h
 obtain ⟨hl, n0, rfl, hf⟩ := open_F Tryz.underlying247 h
 rw [cells247] at hl
 obtain ⟨z0, y0⟩ := hf 0 _ rfl
 replace y0 : DataW.trod enc Tryz.prog w 0 spare held n0 9 ((cs.drop 0).take (Tryz.prog.cellsOf 9)) = some z0 := y0
 rw [cells9] at y0
 obtain ⟨x0, r0⟩ := open_S Tryz.underlying9 y0
 obtain ⟨z1, y1⟩ := hf 1 _ rfl
 replace y1 : DataW.trod enc Tryz.prog w 0 spare held n0 132 ((cs.drop 1).take (Tryz.prog.cellsOf 132)) = some z1 := y1
 rw [cells132] at y1
 obtain ⟨x1, r1⟩ := openType_c y1
 refine ⟨⟨x0, x1⟩, ?_⟩
 rw [TBound.enc_eq]
 simp only [Rep]
 have hs := RepS.at_ (off := 0) (n := 1) (encS_w _) r0 (RepS.at_ (off := 1) (n := 3) (TType.width _) r1 (RepS.end_ (off := 4) hl))
 simpa only [List.drop_zero] using hs
theorem cells243 : Tryz.prog.cellsOf 243 = 2 := by kernel_rfl
set_option maxRecDepth 100000 in
theorem openConstructor_c {H : Type} {enc : TypeId × Value → H} {w : World} {spare : Nat → Bool} {held : Bool} : ∀ {fuel : Nat} {cs : List Value} {x : DataW H × List MemPlace}, DataW.trod enc Tryz.prog w 0 spare held fuel 243 cs = some x → ∃ y : TConstructor, Rep w (Live w) y.enc cs := by
 intro fuel cs x h
 obtain ⟨hl, n0, rfl, hf⟩ := open_F Tryz.underlying243 h
 rw [cells243] at hl
 obtain ⟨z0, y0⟩ := hf 0 _ rfl
 replace y0 : DataW.trod enc Tryz.prog w 0 spare held n0 9 ((cs.drop 0).take (Tryz.prog.cellsOf 9)) = some z0 := y0
 rw [cells9] at y0
 obtain ⟨x0, r0⟩ := open_S Tryz.underlying9 y0
 obtain ⟨z1, y1⟩ := hf 1 _ rfl
 replace y1 : DataW.trod enc Tryz.prog w 0 spare held n0 130 ((cs.drop 1).take (Tryz.prog.cellsOf 130)) = some z1 := y1
 rw [cells130] at y1
 obtain ⟨x1, r1⟩ := open_L (ea := TType.enc) Tryz.underlying130 cells132 (by decide) TType.width (fun n cs x _ hq => openType_c hq) y1
 refine ⟨⟨x0, x1⟩, ?_⟩
 rw [TConstructor.enc_eq]
 simp only [Rep]
 have hs := RepS.at_ (off := 0) (n := 1) (encS_w _) r0 (RepS.at_ (off := 1) (n := 1) (sl_w _) r1 (RepS.end_ (off := 2) hl))
 simpa only [List.drop_zero] using hs
theorem cells128 : Tryz.prog.cellsOf 128 = 3 := by kernel_rfl
theorem cells126 : Tryz.prog.cellsOf 126 = 1 := by kernel_rfl
set_option maxRecDepth 100000 in
theorem openDataType_c {H : Type} {enc : TypeId × Value → H} {w : World} {spare : Nat → Bool} {held : Bool} : ∀ {fuel : Nat} {cs : List Value} {x : DataW H × List MemPlace}, DataW.trod enc Tryz.prog w 0 spare held fuel 128 cs = some x → ∃ y : TDataType, Rep w (Live w) y.enc cs := by
 intro fuel cs x h
 obtain ⟨hl, n0, rfl, hf⟩ := open_F Tryz.underlying128 h
 rw [cells128] at hl
 obtain ⟨z0, y0⟩ := hf 0 _ rfl
 replace y0 : DataW.trod enc Tryz.prog w 0 spare held n0 9 ((cs.drop 0).take (Tryz.prog.cellsOf 9)) = some z0 := y0
 rw [cells9] at y0
 obtain ⟨x0, r0⟩ := open_S Tryz.underlying9 y0
 obtain ⟨z1, y1⟩ := hf 1 _ rfl
 replace y1 : DataW.trod enc Tryz.prog w 0 spare held n0 38 ((cs.drop 1).take (Tryz.prog.cellsOf 38)) = some z1 := y1
 rw [cells38] at y1
 obtain ⟨x1, r1⟩ := open_L (ea := encS) Tryz.underlying38 cells9 (by decide) encS_w (fun n cs x _ hq => open_S Tryz.underlying9 hq) y1
 obtain ⟨z2, y2⟩ := hf 2 _ rfl
 replace y2 : DataW.trod enc Tryz.prog w 0 spare held n0 126 ((cs.drop 2).take (Tryz.prog.cellsOf 126)) = some z2 := y2
 rw [cells126] at y2
 obtain ⟨x2, r2⟩ := open_L (ea := TConstructor.enc) Tryz.underlying126 cells243 (by decide) TConstructor.width (fun n cs x _ hq => openConstructor_c hq) y2
 refine ⟨⟨x0, x1, x2⟩, ?_⟩
 rw [TDataType.enc_eq]
 simp only [Rep]
 have hs := RepS.at_ (off := 0) (n := 1) (encS_w _) r0 (RepS.at_ (off := 1) (n := 1) (sl_w _) r1 (RepS.at_ (off := 2) (n := 1) (sl_w _) r2 (RepS.end_ (off := 3) hl)))
 simpa only [List.drop_zero] using hs
theorem cells250 : Tryz.prog.cellsOf 250 = 11 := by kernel_rfl
set_option maxRecDepth 100000 in
theorem openMethod_c {H : Type} {enc : TypeId × Value → H} {w : World} {spare : Nat → Bool} {held : Bool} : ∀ {fuel : Nat} {cs : List Value} {x : DataW H × List MemPlace}, DataW.trod enc Tryz.prog w 0 spare held fuel 250 cs = some x → ∃ y : TMethod, Rep w (Live w) y.enc cs := by
 intro fuel cs x h
 obtain ⟨hl, n0, rfl, hf⟩ := open_F Tryz.underlying250 h
 rw [cells250] at hl
 obtain ⟨z0, y0⟩ := hf 0 _ rfl
 replace y0 : DataW.trod enc Tryz.prog w 0 spare held n0 9 ((cs.drop 0).take (Tryz.prog.cellsOf 9)) = some z0 := y0
 rw [cells9] at y0
 obtain ⟨x0, r0⟩ := open_S Tryz.underlying9 y0
 obtain ⟨z1, y1⟩ := hf 1 _ rfl
 replace y1 : DataW.trod enc Tryz.prog w 0 spare held n0 38 ((cs.drop 1).take (Tryz.prog.cellsOf 38)) = some z1 := y1
 rw [cells38] at y1
 obtain ⟨x1, r1⟩ := open_L (ea := encS) Tryz.underlying38 cells9 (by decide) encS_w (fun n cs x _ hq => open_S Tryz.underlying9 hq) y1
 obtain ⟨z2, y2⟩ := hf 2 _ rfl
 replace y2 : DataW.trod enc Tryz.prog w 0 spare held n0 142 ((cs.drop 2).take (Tryz.prog.cellsOf 142)) = some z2 := y2
 rw [cells142] at y2
 obtain ⟨x2, r2⟩ := openExpr_c y2
 refine ⟨⟨x0, x1, x2⟩, ?_⟩
 rw [TMethod.enc_eq]
 simp only [Rep]
 have hs := RepS.at_ (off := 0) (n := 1) (encS_w _) r0 (RepS.at_ (off := 1) (n := 1) (sl_w _) r1 (RepS.at_ (off := 2) (n := 9) (TExpr.width _) r2 (RepS.end_ (off := 11) hl)))
 simpa only [List.drop_zero] using hs
theorem cells136 : Tryz.prog.cellsOf 136 = 12 := by kernel_rfl
theorem cells133 : Tryz.prog.cellsOf 133 = 1 := by kernel_rfl
theorem cells4 : Tryz.prog.cellsOf 4 = 1 := by kernel_rfl
theorem cells134 : Tryz.prog.cellsOf 134 = 1 := by kernel_rfl
set_option maxRecDepth 100000 in
theorem openInstance_c {H : Type} {enc : TypeId × Value → H} {w : World} {spare : Nat → Bool} {held : Bool} : ∀ {fuel : Nat} {cs : List Value} {x : DataW H × List MemPlace}, DataW.trod enc Tryz.prog w 0 spare held fuel 136 cs = some x → ∃ y : TInstance, Rep w (Live w) y.enc cs := by
 intro fuel cs x h
 obtain ⟨hl, n0, rfl, hf⟩ := open_F Tryz.underlying136 h
 rw [cells136] at hl
 obtain ⟨z0, y0⟩ := hf 0 _ rfl
 replace y0 : DataW.trod enc Tryz.prog w 0 spare held n0 9 ((cs.drop 0).take (Tryz.prog.cellsOf 9)) = some z0 := y0
 rw [cells9] at y0
 obtain ⟨x0, r0⟩ := open_S Tryz.underlying9 y0
 obtain ⟨z1, y1⟩ := hf 1 _ rfl
 replace y1 : DataW.trod enc Tryz.prog w 0 spare held n0 38 ((cs.drop 1).take (Tryz.prog.cellsOf 38)) = some z1 := y1
 rw [cells38] at y1
 obtain ⟨x1, r1⟩ := open_L (ea := encS) Tryz.underlying38 cells9 (by decide) encS_w (fun n cs x _ hq => open_S Tryz.underlying9 hq) y1
 obtain ⟨z2, y2⟩ := hf 2 _ rfl
 replace y2 : DataW.trod enc Tryz.prog w 0 spare held n0 132 ((cs.drop 2).take (Tryz.prog.cellsOf 132)) = some z2 := y2
 rw [cells132] at y2
 obtain ⟨x2, r2⟩ := openType_c y2
 obtain ⟨z3, y3⟩ := hf 3 _ rfl
 replace y3 : DataW.trod enc Tryz.prog w 0 spare held n0 133 ((cs.drop 5).take (Tryz.prog.cellsOf 133)) = some z3 := y3
 rw [cells133] at y3
 obtain ⟨x3, r3⟩ := open_L (ea := TBound.enc) Tryz.underlying133 cells247 (by decide) TBound.width (fun n cs x _ hq => openBound_c hq) y3
 obtain ⟨z4, y4⟩ := hf 4 _ rfl
 replace y4 : DataW.trod enc Tryz.prog w 0 spare held n0 4 ((cs.drop 6).take (Tryz.prog.cellsOf 4)) = some z4 := y4
 rw [cells4] at y4
 obtain ⟨x4, r4⟩ := open_B Tryz.underlying4 y4
 obtain ⟨z5, y5⟩ := hf 5 _ rfl
 replace y5 : DataW.trod enc Tryz.prog w 0 spare held n0 4 ((cs.drop 7).take (Tryz.prog.cellsOf 4)) = some z5 := y5
 rw [cells4] at y5
 obtain ⟨x5, r5⟩ := open_B Tryz.underlying4 y5
 obtain ⟨z6, y6⟩ := hf 6 _ rfl
 replace y6 : DataW.trod enc Tryz.prog w 0 spare held n0 132 ((cs.drop 8).take (Tryz.prog.cellsOf 132)) = some z6 := y6
 rw [cells132] at y6
 obtain ⟨x6, r6⟩ := openType_c y6
 obtain ⟨z7, y7⟩ := hf 7 _ rfl
 replace y7 : DataW.trod enc Tryz.prog w 0 spare held n0 134 ((cs.drop 11).take (Tryz.prog.cellsOf 134)) = some z7 := y7
 rw [cells134] at y7
 obtain ⟨x7, r7⟩ := open_L (ea := TMethod.enc) Tryz.underlying134 cells250 (by decide) TMethod.width (fun n cs x _ hq => openMethod_c hq) y7
 refine ⟨⟨x0, x1, x2, x3, x4, x5, x6, x7⟩, ?_⟩
 rw [TInstance.enc_eq]
 simp only [Rep]
 have hs := RepS.at_ (off := 0) (n := 1) (encS_w _) r0 (RepS.at_ (off := 1) (n := 1) (sl_w _) r1 (RepS.at_ (off := 2) (n := 3) (TType.width _) r2 (RepS.at_ (off := 5) (n := 1) (sl_w _) r3 (RepS.at_ (off := 6) (n := 1) (encB_w _) r4 (RepS.at_ (off := 7) (n := 1) (encB_w _) r5 (RepS.at_ (off := 8) (n := 3) (TType.width _) r6 (RepS.at_ (off := 11) (n := 1) (sl_w _) r7 (RepS.end_ (off := 12) hl))))))))
 simpa only [List.drop_zero] using hs
theorem cells253 : Tryz.prog.cellsOf 253 = 4 := by kernel_rfl
set_option maxRecDepth 100000 in
theorem openParam_c {H : Type} {enc : TypeId × Value → H} {w : World} {spare : Nat → Bool} {held : Bool} : ∀ {fuel : Nat} {cs : List Value} {x : DataW H × List MemPlace}, DataW.trod enc Tryz.prog w 0 spare held fuel 253 cs = some x → ∃ y : TParam, Rep w (Live w) y.enc cs := by
 intro fuel cs x h
 obtain ⟨hl, n0, rfl, hf⟩ := open_F Tryz.underlying253 h
 rw [cells253] at hl
 obtain ⟨z0, y0⟩ := hf 0 _ rfl
 replace y0 : DataW.trod enc Tryz.prog w 0 spare held n0 9 ((cs.drop 0).take (Tryz.prog.cellsOf 9)) = some z0 := y0
 rw [cells9] at y0
 obtain ⟨x0, r0⟩ := open_S Tryz.underlying9 y0
 obtain ⟨z1, y1⟩ := hf 1 _ rfl
 replace y1 : DataW.trod enc Tryz.prog w 0 spare held n0 132 ((cs.drop 1).take (Tryz.prog.cellsOf 132)) = some z1 := y1
 rw [cells132] at y1
 obtain ⟨x1, r1⟩ := openType_c y1
 refine ⟨⟨x0, x1⟩, ?_⟩
 rw [TParam.enc_eq]
 simp only [Rep]
 have hs := RepS.at_ (off := 0) (n := 1) (encS_w _) r0 (RepS.at_ (off := 1) (n := 3) (TType.width _) r1 (RepS.end_ (off := 4) hl))
 simpa only [List.drop_zero] using hs
theorem cells144 : Tryz.prog.cellsOf 144 = 16 := by kernel_rfl
theorem cells138 : Tryz.prog.cellsOf 138 = 1 := by kernel_rfl
set_option maxRecDepth 100000 in
theorem openFunction_c {H : Type} {enc : TypeId × Value → H} {w : World} {spare : Nat → Bool} {held : Bool} : ∀ {fuel : Nat} {cs : List Value} {x : DataW H × List MemPlace}, DataW.trod enc Tryz.prog w 0 spare held fuel 144 cs = some x → ∃ y : TFunction, Rep w (Live w) y.enc cs := by
 intro fuel cs x h
 obtain ⟨hl, n0, rfl, hf⟩ := open_F Tryz.underlying144 h
 rw [cells144] at hl
 obtain ⟨z0, y0⟩ := hf 0 _ rfl
 replace y0 : DataW.trod enc Tryz.prog w 0 spare held n0 9 ((cs.drop 0).take (Tryz.prog.cellsOf 9)) = some z0 := y0
 rw [cells9] at y0
 obtain ⟨x0, r0⟩ := open_S Tryz.underlying9 y0
 obtain ⟨z1, y1⟩ := hf 1 _ rfl
 replace y1 : DataW.trod enc Tryz.prog w 0 spare held n0 38 ((cs.drop 1).take (Tryz.prog.cellsOf 38)) = some z1 := y1
 rw [cells38] at y1
 obtain ⟨x1, r1⟩ := open_L (ea := encS) Tryz.underlying38 cells9 (by decide) encS_w (fun n cs x _ hq => open_S Tryz.underlying9 hq) y1
 obtain ⟨z2, y2⟩ := hf 2 _ rfl
 replace y2 : DataW.trod enc Tryz.prog w 0 spare held n0 133 ((cs.drop 2).take (Tryz.prog.cellsOf 133)) = some z2 := y2
 rw [cells133] at y2
 obtain ⟨x2, r2⟩ := open_L (ea := TBound.enc) Tryz.underlying133 cells247 (by decide) TBound.width (fun n cs x _ hq => openBound_c hq) y2
 obtain ⟨z3, y3⟩ := hf 3 _ rfl
 replace y3 : DataW.trod enc Tryz.prog w 0 spare held n0 138 ((cs.drop 3).take (Tryz.prog.cellsOf 138)) = some z3 := y3
 rw [cells138] at y3
 obtain ⟨x3, r3⟩ := open_L (ea := TParam.enc) Tryz.underlying138 cells253 (by decide) TParam.width (fun n cs x _ hq => openParam_c hq) y3
 obtain ⟨z4, y4⟩ := hf 4 _ rfl
 replace y4 : DataW.trod enc Tryz.prog w 0 spare held n0 132 ((cs.drop 4).take (Tryz.prog.cellsOf 132)) = some z4 := y4
 rw [cells132] at y4
 obtain ⟨x4, r4⟩ := openType_c y4
 obtain ⟨z5, y5⟩ := hf 5 _ rfl
 replace y5 : DataW.trod enc Tryz.prog w 0 spare held n0 142 ((cs.drop 7).take (Tryz.prog.cellsOf 142)) = some z5 := y5
 rw [cells142] at y5
 obtain ⟨x5, r5⟩ := openExpr_c y5
 refine ⟨⟨x0, x1, x2, x3, x4, x5⟩, ?_⟩
 rw [TFunction.enc_eq]
 simp only [Rep]
 have hs := RepS.at_ (off := 0) (n := 1) (encS_w _) r0 (RepS.at_ (off := 1) (n := 1) (sl_w _) r1 (RepS.at_ (off := 2) (n := 1) (sl_w _) r2 (RepS.at_ (off := 3) (n := 1) (sl_w _) r3 (RepS.at_ (off := 4) (n := 3) (TType.width _) r4 (RepS.at_ (off := 7) (n := 9) (TExpr.width _) r5 (RepS.end_ (off := 16) hl))))))
 simpa only [List.drop_zero] using hs
theorem cells240 : Tryz.prog.cellsOf 240 = 16 := by kernel_rfl
set_option maxRecDepth 100000 in
theorem openSignature_c {H : Type} {enc : TypeId × Value → H} {w : World} {spare : Nat → Bool} {held : Bool} : ∀ {fuel : Nat} {cs : List Value} {x : DataW H × List MemPlace}, DataW.trod enc Tryz.prog w 0 spare held fuel 240 cs = some x → ∃ y : TSignature, Rep w (Live w) y.enc cs := by
 intro fuel cs x h
 obtain ⟨hl, n0, rfl, hf⟩ := open_F Tryz.underlying240 h
 rw [cells240] at hl
 obtain ⟨z0, y0⟩ := hf 0 _ rfl
 replace y0 : DataW.trod enc Tryz.prog w 0 spare held n0 9 ((cs.drop 0).take (Tryz.prog.cellsOf 9)) = some z0 := y0
 rw [cells9] at y0
 obtain ⟨x0, r0⟩ := open_S Tryz.underlying9 y0
 obtain ⟨z1, y1⟩ := hf 1 _ rfl
 replace y1 : DataW.trod enc Tryz.prog w 0 spare held n0 130 ((cs.drop 1).take (Tryz.prog.cellsOf 130)) = some z1 := y1
 rw [cells130] at y1
 obtain ⟨x1, r1⟩ := open_L (ea := TType.enc) Tryz.underlying130 cells132 (by decide) TType.width (fun n cs x _ hq => openType_c hq) y1
 obtain ⟨z2, y2⟩ := hf 2 _ rfl
 replace y2 : DataW.trod enc Tryz.prog w 0 spare held n0 132 ((cs.drop 2).take (Tryz.prog.cellsOf 132)) = some z2 := y2
 rw [cells132] at y2
 obtain ⟨x2, r2⟩ := openType_c y2
 obtain ⟨z3, y3⟩ := hf 3 _ rfl
 replace y3 : DataW.trod enc Tryz.prog w 0 spare held n0 4 ((cs.drop 5).take (Tryz.prog.cellsOf 4)) = some z3 := y3
 rw [cells4] at y3
 obtain ⟨x3, r3⟩ := open_B Tryz.underlying4 y3
 obtain ⟨z4, y4⟩ := hf 4 _ rfl
 replace y4 : DataW.trod enc Tryz.prog w 0 spare held n0 38 ((cs.drop 6).take (Tryz.prog.cellsOf 38)) = some z4 := y4
 rw [cells38] at y4
 obtain ⟨x4, r4⟩ := open_L (ea := encS) Tryz.underlying38 cells9 (by decide) encS_w (fun n cs x _ hq => open_S Tryz.underlying9 hq) y4
 obtain ⟨z5, y5⟩ := hf 5 _ rfl
 replace y5 : DataW.trod enc Tryz.prog w 0 spare held n0 142 ((cs.drop 7).take (Tryz.prog.cellsOf 142)) = some z5 := y5
 rw [cells142] at y5
 obtain ⟨x5, r5⟩ := openExpr_c y5
 refine ⟨⟨x0, x1, x2, x3, x4, x5⟩, ?_⟩
 rw [TSignature.enc_eq]
 simp only [Rep]
 have hs := RepS.at_ (off := 0) (n := 1) (encS_w _) r0 (RepS.at_ (off := 1) (n := 1) (sl_w _) r1 (RepS.at_ (off := 2) (n := 3) (TType.width _) r2 (RepS.at_ (off := 5) (n := 1) (encB_w _) r3 (RepS.at_ (off := 6) (n := 1) (sl_w _) r4 (RepS.at_ (off := 7) (n := 9) (TExpr.width _) r5 (RepS.end_ (off := 16) hl))))))
 simpa only [List.drop_zero] using hs
theorem cells124 : Tryz.prog.cellsOf 124 = 5 := by kernel_rfl
theorem cells122 : Tryz.prog.cellsOf 122 = 1 := by kernel_rfl
set_option maxRecDepth 100000 in
theorem openTrait_c {H : Type} {enc : TypeId × Value → H} {w : World} {spare : Nat → Bool} {held : Bool} : ∀ {fuel : Nat} {cs : List Value} {x : DataW H × List MemPlace}, DataW.trod enc Tryz.prog w 0 spare held fuel 124 cs = some x → ∃ y : TTrait, Rep w (Live w) y.enc cs := by
 intro fuel cs x h
 obtain ⟨hl, n0, rfl, hf⟩ := open_F Tryz.underlying124 h
 rw [cells124] at hl
 obtain ⟨z0, y0⟩ := hf 0 _ rfl
 replace y0 : DataW.trod enc Tryz.prog w 0 spare held n0 9 ((cs.drop 0).take (Tryz.prog.cellsOf 9)) = some z0 := y0
 rw [cells9] at y0
 obtain ⟨x0, r0⟩ := open_S Tryz.underlying9 y0
 obtain ⟨z1, y1⟩ := hf 1 _ rfl
 replace y1 : DataW.trod enc Tryz.prog w 0 spare held n0 38 ((cs.drop 1).take (Tryz.prog.cellsOf 38)) = some z1 := y1
 rw [cells38] at y1
 obtain ⟨x1, r1⟩ := open_L (ea := encS) Tryz.underlying38 cells9 (by decide) encS_w (fun n cs x _ hq => open_S Tryz.underlying9 hq) y1
 obtain ⟨z2, y2⟩ := hf 2 _ rfl
 replace y2 : DataW.trod enc Tryz.prog w 0 spare held n0 4 ((cs.drop 2).take (Tryz.prog.cellsOf 4)) = some z2 := y2
 rw [cells4] at y2
 obtain ⟨x2, r2⟩ := open_B Tryz.underlying4 y2
 obtain ⟨z3, y3⟩ := hf 3 _ rfl
 replace y3 : DataW.trod enc Tryz.prog w 0 spare held n0 4 ((cs.drop 3).take (Tryz.prog.cellsOf 4)) = some z3 := y3
 rw [cells4] at y3
 obtain ⟨x3, r3⟩ := open_B Tryz.underlying4 y3
 obtain ⟨z4, y4⟩ := hf 4 _ rfl
 replace y4 : DataW.trod enc Tryz.prog w 0 spare held n0 122 ((cs.drop 4).take (Tryz.prog.cellsOf 122)) = some z4 := y4
 rw [cells122] at y4
 obtain ⟨x4, r4⟩ := open_L (ea := TSignature.enc) Tryz.underlying122 cells240 (by decide) TSignature.width (fun n cs x _ hq => openSignature_c hq) y4
 refine ⟨⟨x0, x1, x2, x3, x4⟩, ?_⟩
 rw [TTrait.enc_eq]
 simp only [Rep]
 have hs := RepS.at_ (off := 0) (n := 1) (encS_w _) r0 (RepS.at_ (off := 1) (n := 1) (sl_w _) r1 (RepS.at_ (off := 2) (n := 1) (encB_w _) r2 (RepS.at_ (off := 3) (n := 1) (encB_w _) r3 (RepS.at_ (off := 4) (n := 1) (sl_w _) r4 (RepS.end_ (off := 5) hl)))))
 simpa only [List.drop_zero] using hs
theorem cells53 : Tryz.prog.cellsOf 53 = 6 := by kernel_rfl
theorem cells48 : Tryz.prog.cellsOf 48 = 1 := by kernel_rfl
theorem cells49 : Tryz.prog.cellsOf 49 = 1 := by kernel_rfl
theorem cells50 : Tryz.prog.cellsOf 50 = 1 := by kernel_rfl
theorem cells51 : Tryz.prog.cellsOf 51 = 1 := by kernel_rfl
set_option maxRecDepth 100000 in
theorem openPackage_c {H : Type} {enc : TypeId × Value → H} {w : World} {spare : Nat → Bool} {held : Bool} : ∀ {fuel : Nat} {cs : List Value} {x : DataW H × List MemPlace}, DataW.trod enc Tryz.prog w 0 spare held fuel 53 cs = some x → ∃ y : TPackage, Rep w (Live w) y.enc cs := by
 intro fuel cs x h
 obtain ⟨hl, n0, rfl, hf⟩ := open_F Tryz.underlying53 h
 rw [cells53] at hl
 obtain ⟨z0, y0⟩ := hf 0 _ rfl
 replace y0 : DataW.trod enc Tryz.prog w 0 spare held n0 9 ((cs.drop 0).take (Tryz.prog.cellsOf 9)) = some z0 := y0
 rw [cells9] at y0
 obtain ⟨x0, r0⟩ := open_S Tryz.underlying9 y0
 obtain ⟨z1, y1⟩ := hf 1 _ rfl
 replace y1 : DataW.trod enc Tryz.prog w 0 spare held n0 38 ((cs.drop 1).take (Tryz.prog.cellsOf 38)) = some z1 := y1
 rw [cells38] at y1
 obtain ⟨x1, r1⟩ := open_L (ea := encS) Tryz.underlying38 cells9 (by decide) encS_w (fun n cs x _ hq => open_S Tryz.underlying9 hq) y1
 obtain ⟨z2, y2⟩ := hf 2 _ rfl
 replace y2 : DataW.trod enc Tryz.prog w 0 spare held n0 48 ((cs.drop 2).take (Tryz.prog.cellsOf 48)) = some z2 := y2
 rw [cells48] at y2
 obtain ⟨x2, r2⟩ := open_L (ea := TTrait.enc) Tryz.underlying48 cells124 (by decide) TTrait.width (fun n cs x _ hq => openTrait_c hq) y2
 obtain ⟨z3, y3⟩ := hf 3 _ rfl
 replace y3 : DataW.trod enc Tryz.prog w 0 spare held n0 49 ((cs.drop 3).take (Tryz.prog.cellsOf 49)) = some z3 := y3
 rw [cells49] at y3
 obtain ⟨x3, r3⟩ := open_L (ea := TDataType.enc) Tryz.underlying49 cells128 (by decide) TDataType.width (fun n cs x _ hq => openDataType_c hq) y3
 obtain ⟨z4, y4⟩ := hf 4 _ rfl
 replace y4 : DataW.trod enc Tryz.prog w 0 spare held n0 50 ((cs.drop 4).take (Tryz.prog.cellsOf 50)) = some z4 := y4
 rw [cells50] at y4
 obtain ⟨x4, r4⟩ := open_L (ea := TInstance.enc) Tryz.underlying50 cells136 (by decide) TInstance.width (fun n cs x _ hq => openInstance_c hq) y4
 obtain ⟨z5, y5⟩ := hf 5 _ rfl
 replace y5 : DataW.trod enc Tryz.prog w 0 spare held n0 51 ((cs.drop 5).take (Tryz.prog.cellsOf 51)) = some z5 := y5
 rw [cells51] at y5
 obtain ⟨x5, r5⟩ := open_L (ea := TFunction.enc) Tryz.underlying51 cells144 (by decide) TFunction.width (fun n cs x _ hq => openFunction_c hq) y5
 refine ⟨⟨x0, x1, x2, x3, x4, x5⟩, ?_⟩
 rw [TPackage.enc_eq]
 simp only [Rep]
 have hs := RepS.at_ (off := 0) (n := 1) (encS_w _) r0 (RepS.at_ (off := 1) (n := 1) (sl_w _) r1 (RepS.at_ (off := 2) (n := 1) (sl_w _) r2 (RepS.at_ (off := 3) (n := 1) (sl_w _) r3 (RepS.at_ (off := 4) (n := 1) (sl_w _) r4 (RepS.at_ (off := 5) (n := 1) (sl_w _) r5 (RepS.end_ (off := 6) hl))))))
 simpa only [List.drop_zero] using hs
theorem cells24 : Tryz.prog.cellsOf 24 = 1 := by kernel_rfl
theorem cells22 : Tryz.prog.cellsOf 22 = 1 := by kernel_rfl
set_option maxRecDepth 100000 in
theorem openProgram_c {H : Type} {enc : TypeId × Value → H} {w : World} {spare : Nat → Bool} {held : Bool} : ∀ {fuel : Nat} {cs : List Value} {x : DataW H × List MemPlace}, DataW.trod enc Tryz.prog w 0 spare held fuel 24 cs = some x → ∃ y : TProgram, Rep w (Live w) y.enc cs := by
 intro fuel cs x h
 obtain ⟨hl, n0, rfl, hf⟩ := open_F Tryz.underlying24 h
 rw [cells24] at hl
 obtain ⟨z0, y0⟩ := hf 0 _ rfl
 replace y0 : DataW.trod enc Tryz.prog w 0 spare held n0 22 ((cs.drop 0).take (Tryz.prog.cellsOf 22)) = some z0 := y0
 rw [cells22] at y0
 obtain ⟨x0, r0⟩ := open_L (ea := TPackage.enc) Tryz.underlying22 cells53 (by decide) TPackage.width (fun n cs x _ hq => openPackage_c hq) y0
 refine ⟨⟨x0⟩, ?_⟩
 rw [TProgram.enc_eq]
 simp only [Rep]
 have hs := RepS.at_ (off := 0) (n := 1) (sl_w _) r0 (RepS.end_ (off := 1) hl)
 simpa only [List.drop_zero] using hs
end Go.Proofs.YtkadbimpaplnmaaGreatDoor
