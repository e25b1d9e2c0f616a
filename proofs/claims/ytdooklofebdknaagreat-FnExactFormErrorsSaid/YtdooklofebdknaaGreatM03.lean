/- What reads as data of this program's types is a mirror value's tree. No condition but sizes. -/
import Derived.Test.YtdooklofebdknaaGreatM02
import Derived.Test.YtdooklofebdknaaGreatRows
namespace Go.Proofs.YtdooklofebdknaaGreat
open Go.ChangeShapes Go.WideShapes Go.ChangeAt Go.RowKit
theorem cells215 : Tryz.prog.cellsOf 215 = 3 := by kernel_rfl
theorem cells3 : Tryz.prog.cellsOf 3 = 1 := by kernel_rfl
theorem cells9 : Tryz.prog.cellsOf 9 = 1 := by kernel_rfl
theorem cells213 : Tryz.prog.cellsOf 213 = 1 := by kernel_rfl
set_option maxRecDepth 100000 in
theorem openType_all {H : Type} {enc : TypeId × Value → H} {w : World} {spare : Nat → Bool} {held : Bool} (n : Nat) : (∀ {cs : List Value} {x : DataW H × List MemPlace}, DataW.trod enc Tryz.prog w 0 spare held n 215 cs = some x → ∃ y : TType, Rep w (Live w) y.enc cs) := by
 induction n using Nat.strongRecOn with
 | ind fuel ih =>
 have ihType : ∀ m, m < fuel → ∀ {cs : List Value} {x : DataW H × List MemPlace}, DataW.trod enc Tryz.prog w 0 spare held m 215 cs = some x → ∃ y : TType, Rep w (Live w) y.enc cs := fun m hm => (ih m hm)
 ·intro cs x h
  obtain ⟨hl, n0, rfl, hf⟩ := open_F Tryz.underlying215 h
  rw [cells215] at hl
  obtain ⟨z0, y0⟩ := hf 0 _ rfl
  replace y0 : DataW.trod enc Tryz.prog w 0 spare held n0 3 ((cs.drop 0).take (Tryz.prog.cellsOf 3)) = some z0 := y0
  rw [cells3] at y0
  obtain ⟨x0, r0⟩ := open_I Tryz.underlying3 y0
  obtain ⟨z1, y1⟩ := hf 1 _ rfl
  replace y1 : DataW.trod enc Tryz.prog w 0 spare held n0 9 ((cs.drop 1).take (Tryz.prog.cellsOf 9)) = some z1 := y1
  rw [cells9] at y1
  obtain ⟨x1, r1⟩ := open_S Tryz.underlying9 y1
  obtain ⟨z2, y2⟩ := hf 2 _ rfl
  replace y2 : DataW.trod enc Tryz.prog w 0 spare held n0 213 ((cs.drop 2).take (Tryz.prog.cellsOf 213)) = some z2 := y2
  rw [cells213] at y2
  obtain ⟨x2, r2⟩ := open_L (ea := TType.enc) Tryz.underlying213 cells215 (by decide) TType.width (fun n cs x hn hq => ihType n (by omega) hq) y2
  refine ⟨⟨x0, x1, x2⟩, ?_⟩
  rw [TType.enc_eq]
  simp only [Rep]
  have hs := RepS.at_ (off := 0) (n := 1) (encI_w _) r0 (RepS.at_ (off := 1) (n := 1) (encS_w _) r1 (RepS.at_ (off := 2) (n := 1) (sl_w _) r2 (RepS.end_ (off := 3) hl)))
  simpa only [List.drop_zero] using hs
theorem openType_c {H : Type} {enc : TypeId × Value → H} {w : World} {spare : Nat → Bool} {held : Bool} : ∀ {fuel : Nat} {cs : List Value} {x : DataW H × List MemPlace}, DataW.trod enc Tryz.prog w 0 spare held fuel 215 cs = some x → ∃ y : TType, Rep w (Live w) y.enc cs := fun {fuel} {_} {_} h => (openType_all fuel) h
theorem cells388 : Tryz.prog.cellsOf 388 = 11 := by kernel_rfl
theorem cells43 : Tryz.prog.cellsOf 43 = 1 := by kernel_rfl
theorem cells225 : Tryz.prog.cellsOf 225 = 9 := by kernel_rfl
theorem cells222 : Tryz.prog.cellsOf 222 = 1 := by kernel_rfl
theorem cells223 : Tryz.prog.cellsOf 223 = 1 := by kernel_rfl
set_option maxRecDepth 100000 in
theorem openArmExpr_all {H : Type} {enc : TypeId × Value → H} {w : World} {spare : Nat → Bool} {held : Bool} (n : Nat) : (∀ {cs : List Value} {x : DataW H × List MemPlace}, DataW.trod enc Tryz.prog w 0 spare held n 388 cs = some x → ∃ y : TArm, Rep w (Live w) y.enc cs) ∧ (∀ {cs : List Value} {x : DataW H × List MemPlace}, DataW.trod enc Tryz.prog w 0 spare held n 225 cs = some x → ∃ y : TExpr, Rep w (Live w) y.enc cs) := by
 induction n using Nat.strongRecOn with
 | ind fuel ih =>
 have ihArm : ∀ m, m < fuel → ∀ {cs : List Value} {x : DataW H × List MemPlace}, DataW.trod enc Tryz.prog w 0 spare held m 388 cs = some x → ∃ y : TArm, Rep w (Live w) y.enc cs := fun m hm => (ih m hm).1
 have ihExpr : ∀ m, m < fuel → ∀ {cs : List Value} {x : DataW H × List MemPlace}, DataW.trod enc Tryz.prog w 0 spare held m 225 cs = some x → ∃ y : TExpr, Rep w (Live w) y.enc cs := fun m hm => (ih m hm).2
 refine ⟨?_, ?_⟩
 ·intro cs x h
  obtain ⟨hl, n0, rfl, hf⟩ := open_F Tryz.underlying388 h
  rw [cells388] at hl
  obtain ⟨z0, y0⟩ := hf 0 _ rfl
  replace y0 : DataW.trod enc Tryz.prog w 0 spare held n0 9 ((cs.drop 0).take (Tryz.prog.cellsOf 9)) = some z0 := y0
  rw [cells9] at y0
  obtain ⟨x0, r0⟩ := open_S Tryz.underlying9 y0
  obtain ⟨z1, y1⟩ := hf 1 _ rfl
  replace y1 : DataW.trod enc Tryz.prog w 0 spare held n0 43 ((cs.drop 1).take (Tryz.prog.cellsOf 43)) = some z1 := y1
  rw [cells43] at y1
  obtain ⟨x1, r1⟩ := open_L (ea := encS) Tryz.underlying43 cells9 (by decide) encS_w (fun n cs x _ hq => open_S Tryz.underlying9 hq) y1
  obtain ⟨z2, y2⟩ := hf 2 _ rfl
  replace y2 : DataW.trod enc Tryz.prog w 0 spare held n0 225 ((cs.drop 2).take (Tryz.prog.cellsOf 225)) = some z2 := y2
  rw [cells225] at y2
  obtain ⟨x2, r2⟩ := ihExpr n0 (by omega) y2
  refine ⟨⟨x0, x1, x2⟩, ?_⟩
  rw [TArm.enc_eq]
  simp only [Rep]
  have hs := RepS.at_ (off := 0) (n := 1) (encS_w _) r0 (RepS.at_ (off := 1) (n := 1) (sl_w _) r1 (RepS.at_ (off := 2) (n := 9) (TExpr.width _) r2 (RepS.end_ (off := 11) hl)))
  simpa only [List.drop_zero] using hs
 ·intro cs x h
  obtain ⟨hl, n0, rfl, hf⟩ := open_F Tryz.underlying225 h
  rw [cells225] at hl
  obtain ⟨z0, y0⟩ := hf 0 _ rfl
  replace y0 : DataW.trod enc Tryz.prog w 0 spare held n0 3 ((cs.drop 0).take (Tryz.prog.cellsOf 3)) = some z0 := y0
  rw [cells3] at y0
  obtain ⟨x0, r0⟩ := open_I Tryz.underlying3 y0
  obtain ⟨z1, y1⟩ := hf 1 _ rfl
  replace y1 : DataW.trod enc Tryz.prog w 0 spare held n0 9 ((cs.drop 1).take (Tryz.prog.cellsOf 9)) = some z1 := y1
  rw [cells9] at y1
  obtain ⟨x1, r1⟩ := open_S Tryz.underlying9 y1
  obtain ⟨z2, y2⟩ := hf 2 _ rfl
  replace y2 : DataW.trod enc Tryz.prog w 0 spare held n0 9 ((cs.drop 2).take (Tryz.prog.cellsOf 9)) = some z2 := y2
  rw [cells9] at y2
  obtain ⟨x2, r2⟩ := open_S Tryz.underlying9 y2
  obtain ⟨z3, y3⟩ := hf 3 _ rfl
  replace y3 : DataW.trod enc Tryz.prog w 0 spare held n0 3 ((cs.drop 3).take (Tryz.prog.cellsOf 3)) = some z3 := y3
  rw [cells3] at y3
  obtain ⟨x3, r3⟩ := open_I Tryz.underlying3 y3
  obtain ⟨z4, y4⟩ := hf 4 _ rfl
  replace y4 : DataW.trod enc Tryz.prog w 0 spare held n0 215 ((cs.drop 4).take (Tryz.prog.cellsOf 215)) = some z4 := y4
  rw [cells215] at y4
  obtain ⟨x4, r4⟩ := openType_c y4
  obtain ⟨z5, y5⟩ := hf 5 _ rfl
  replace y5 : DataW.trod enc Tryz.prog w 0 spare held n0 222 ((cs.drop 7).take (Tryz.prog.cellsOf 222)) = some z5 := y5
  rw [cells222] at y5
  obtain ⟨x5, r5⟩ := open_L (ea := TExpr.enc) Tryz.underlying222 cells225 (by decide) TExpr.width (fun n cs x hn hq => ihExpr n (by omega) hq) y5
  obtain ⟨z6, y6⟩ := hf 6 _ rfl
  replace y6 : DataW.trod enc Tryz.prog w 0 spare held n0 223 ((cs.drop 8).take (Tryz.prog.cellsOf 223)) = some z6 := y6
  rw [cells223] at y6
  obtain ⟨x6, r6⟩ := open_L (ea := TArm.enc) Tryz.underlying223 cells388 (by decide) TArm.width (fun n cs x hn hq => ihArm n (by omega) hq) y6
  refine ⟨⟨x0, x1, x2, x3, x4, x5, x6⟩, ?_⟩
  rw [TExpr.enc_eq]
  simp only [Rep]
  have hs := RepS.at_ (off := 0) (n := 1) (encI_w _) r0 (RepS.at_ (off := 1) (n := 1) (encS_w _) r1 (RepS.at_ (off := 2) (n := 1) (encS_w _) r2 (RepS.at_ (off := 3) (n := 1) (encI_w _) r3 (RepS.at_ (off := 4) (n := 3) (TType.width _) r4 (RepS.at_ (off := 7) (n := 1) (sl_w _) r5 (RepS.at_ (off := 8) (n := 1) (sl_w _) r6 (RepS.end_ (off := 9) hl)))))))
  simpa only [List.drop_zero] using hs
theorem openExpr_c {H : Type} {enc : TypeId × Value → H} {w : World} {spare : Nat → Bool} {held : Bool} : ∀ {fuel : Nat} {cs : List Value} {x : DataW H × List MemPlace}, DataW.trod enc Tryz.prog w 0 spare held fuel 225 cs = some x → ∃ y : TExpr, Rep w (Live w) y.enc cs := fun {fuel} {_} {_} h => (openArmExpr_all fuel).2 h
theorem cells335 : Tryz.prog.cellsOf 335 = 4 := by kernel_rfl
set_option maxRecDepth 100000 in
theorem openBound_c {H : Type} {enc : TypeId × Value → H} {w : World} {spare : Nat → Bool} {held : Bool} : ∀ {fuel : Nat} {cs : List Value} {x : DataW H × List MemPlace}, DataW.trod enc Tryz.prog w 0 spare held fuel 335 cs = some x → ∃ y : TBound, Rep w (Live w) y.enc cs := by
 intro fuel cs x h
 obtain ⟨hl, n0, rfl, hf⟩ := open_F Tryz.underlying335 h
 rw [cells335] at hl
 obtain ⟨z0, y0⟩ := hf 0 _ rfl
 replace y0 : DataW.trod enc Tryz.prog w 0 spare held n0 9 ((cs.drop 0).take (Tryz.prog.cellsOf 9)) = some z0 := y0
 rw [cells9] at y0
 obtain ⟨x0, r0⟩ := open_S Tryz.underlying9 y0
 obtain ⟨z1, y1⟩ := hf 1 _ rfl
 replace y1 : DataW.trod enc Tryz.prog w 0 spare held n0 215 ((cs.drop 1).take (Tryz.prog.cellsOf 215)) = some z1 := y1
 rw [cells215] at y1
 obtain ⟨x1, r1⟩ := openType_c y1
 refine ⟨⟨x0, x1⟩, ?_⟩
 rw [TBound.enc_eq]
 simp only [Rep]
 have hs := RepS.at_ (off := 0) (n := 1) (encS_w _) r0 (RepS.at_ (off := 1) (n := 3) (TType.width _) r1 (RepS.end_ (off := 4) hl))
 simpa only [List.drop_zero] using hs
theorem cells331 : Tryz.prog.cellsOf 331 = 2 := by kernel_rfl
set_option maxRecDepth 100000 in
theorem openConstructor_c {H : Type} {enc : TypeId × Value → H} {w : World} {spare : Nat → Bool} {held : Bool} : ∀ {fuel : Nat} {cs : List Value} {x : DataW H × List MemPlace}, DataW.trod enc Tryz.prog w 0 spare held fuel 331 cs = some x → ∃ y : TConstructor, Rep w (Live w) y.enc cs := by
 intro fuel cs x h
 obtain ⟨hl, n0, rfl, hf⟩ := open_F Tryz.underlying331 h
 rw [cells331] at hl
 obtain ⟨z0, y0⟩ := hf 0 _ rfl
 replace y0 : DataW.trod enc Tryz.prog w 0 spare held n0 9 ((cs.drop 0).take (Tryz.prog.cellsOf 9)) = some z0 := y0
 rw [cells9] at y0
 obtain ⟨x0, r0⟩ := open_S Tryz.underlying9 y0
 obtain ⟨z1, y1⟩ := hf 1 _ rfl
 replace y1 : DataW.trod enc Tryz.prog w 0 spare held n0 213 ((cs.drop 1).take (Tryz.prog.cellsOf 213)) = some z1 := y1
 rw [cells213] at y1
 obtain ⟨x1, r1⟩ := open_L (ea := TType.enc) Tryz.underlying213 cells215 (by decide) TType.width (fun n cs x _ hq => openType_c hq) y1
 refine ⟨⟨x0, x1⟩, ?_⟩
 rw [TConstructor.enc_eq]
 simp only [Rep]
 have hs := RepS.at_ (off := 0) (n := 1) (encS_w _) r0 (RepS.at_ (off := 1) (n := 1) (sl_w _) r1 (RepS.end_ (off := 2) hl))
 simpa only [List.drop_zero] using hs
theorem cells211 : Tryz.prog.cellsOf 211 = 3 := by kernel_rfl
theorem cells209 : Tryz.prog.cellsOf 209 = 1 := by kernel_rfl
set_option maxRecDepth 100000 in
theorem openDataType_c {H : Type} {enc : TypeId × Value → H} {w : World} {spare : Nat → Bool} {held : Bool} : ∀ {fuel : Nat} {cs : List Value} {x : DataW H × List MemPlace}, DataW.trod enc Tryz.prog w 0 spare held fuel 211 cs = some x → ∃ y : TDataType, Rep w (Live w) y.enc cs := by
 intro fuel cs x h
 obtain ⟨hl, n0, rfl, hf⟩ := open_F Tryz.underlying211 h
 rw [cells211] at hl
 obtain ⟨z0, y0⟩ := hf 0 _ rfl
 replace y0 : DataW.trod enc Tryz.prog w 0 spare held n0 9 ((cs.drop 0).take (Tryz.prog.cellsOf 9)) = some z0 := y0
 rw [cells9] at y0
 obtain ⟨x0, r0⟩ := open_S Tryz.underlying9 y0
 obtain ⟨z1, y1⟩ := hf 1 _ rfl
 replace y1 : DataW.trod enc Tryz.prog w 0 spare held n0 43 ((cs.drop 1).take (Tryz.prog.cellsOf 43)) = some z1 := y1
 rw [cells43] at y1
 obtain ⟨x1, r1⟩ := open_L (ea := encS) Tryz.underlying43 cells9 (by decide) encS_w (fun n cs x _ hq => open_S Tryz.underlying9 hq) y1
 obtain ⟨z2, y2⟩ := hf 2 _ rfl
 replace y2 : DataW.trod enc Tryz.prog w 0 spare held n0 209 ((cs.drop 2).take (Tryz.prog.cellsOf 209)) = some z2 := y2
 rw [cells209] at y2
 obtain ⟨x2, r2⟩ := open_L (ea := TConstructor.enc) Tryz.underlying209 cells331 (by decide) TConstructor.width (fun n cs x _ hq => openConstructor_c hq) y2
 refine ⟨⟨x0, x1, x2⟩, ?_⟩
 rw [TDataType.enc_eq]
 simp only [Rep]
 have hs := RepS.at_ (off := 0) (n := 1) (encS_w _) r0 (RepS.at_ (off := 1) (n := 1) (sl_w _) r1 (RepS.at_ (off := 2) (n := 1) (sl_w _) r2 (RepS.end_ (off := 3) hl)))
 simpa only [List.drop_zero] using hs
theorem cells338 : Tryz.prog.cellsOf 338 = 11 := by kernel_rfl
set_option maxRecDepth 100000 in
theorem openMethod_c {H : Type} {enc : TypeId × Value → H} {w : World} {spare : Nat → Bool} {held : Bool} : ∀ {fuel : Nat} {cs : List Value} {x : DataW H × List MemPlace}, DataW.trod enc Tryz.prog w 0 spare held fuel 338 cs = some x → ∃ y : TMethod, Rep w (Live w) y.enc cs := by
 intro fuel cs x h
 obtain ⟨hl, n0, rfl, hf⟩ := open_F Tryz.underlying338 h
 rw [cells338] at hl
 obtain ⟨z0, y0⟩ := hf 0 _ rfl
 replace y0 : DataW.trod enc Tryz.prog w 0 spare held n0 9 ((cs.drop 0).take (Tryz.prog.cellsOf 9)) = some z0 := y0
 rw [cells9] at y0
 obtain ⟨x0, r0⟩ := open_S Tryz.underlying9 y0
 obtain ⟨z1, y1⟩ := hf 1 _ rfl
 replace y1 : DataW.trod enc Tryz.prog w 0 spare held n0 43 ((cs.drop 1).take (Tryz.prog.cellsOf 43)) = some z1 := y1
 rw [cells43] at y1
 obtain ⟨x1, r1⟩ := open_L (ea := encS) Tryz.underlying43 cells9 (by decide) encS_w (fun n cs x _ hq => open_S Tryz.underlying9 hq) y1
 obtain ⟨z2, y2⟩ := hf 2 _ rfl
 replace y2 : DataW.trod enc Tryz.prog w 0 spare held n0 225 ((cs.drop 2).take (Tryz.prog.cellsOf 225)) = some z2 := y2
 rw [cells225] at y2
 obtain ⟨x2, r2⟩ := openExpr_c y2
 refine ⟨⟨x0, x1, x2⟩, ?_⟩
 rw [TMethod.enc_eq]
 simp only [Rep]
 have hs := RepS.at_ (off := 0) (n := 1) (encS_w _) r0 (RepS.at_ (off := 1) (n := 1) (sl_w _) r1 (RepS.at_ (off := 2) (n := 9) (TExpr.width _) r2 (RepS.end_ (off := 11) hl)))
 simpa only [List.drop_zero] using hs
theorem cells219 : Tryz.prog.cellsOf 219 = 12 := by kernel_rfl
theorem cells216 : Tryz.prog.cellsOf 216 = 1 := by kernel_rfl
theorem cells4 : Tryz.prog.cellsOf 4 = 1 := by kernel_rfl
theorem cells217 : Tryz.prog.cellsOf 217 = 1 := by kernel_rfl
set_option maxRecDepth 100000 in
theorem openInstance_c {H : Type} {enc : TypeId × Value → H} {w : World} {spare : Nat → Bool} {held : Bool} : ∀ {fuel : Nat} {cs : List Value} {x : DataW H × List MemPlace}, DataW.trod enc Tryz.prog w 0 spare held fuel 219 cs = some x → ∃ y : TInstance, Rep w (Live w) y.enc cs := by
 intro fuel cs x h
 obtain ⟨hl, n0, rfl, hf⟩ := open_F Tryz.underlying219 h
 rw [cells219] at hl
 obtain ⟨z0, y0⟩ := hf 0 _ rfl
 replace y0 : DataW.trod enc Tryz.prog w 0 spare held n0 9 ((cs.drop 0).take (Tryz.prog.cellsOf 9)) = some z0 := y0
 rw [cells9] at y0
 obtain ⟨x0, r0⟩ := open_S Tryz.underlying9 y0
 obtain ⟨z1, y1⟩ := hf 1 _ rfl
 replace y1 : DataW.trod enc Tryz.prog w 0 spare held n0 43 ((cs.drop 1).take (Tryz.prog.cellsOf 43)) = some z1 := y1
 rw [cells43] at y1
 obtain ⟨x1, r1⟩ := open_L (ea := encS) Tryz.underlying43 cells9 (by decide) encS_w (fun n cs x _ hq => open_S Tryz.underlying9 hq) y1
 obtain ⟨z2, y2⟩ := hf 2 _ rfl
 replace y2 : DataW.trod enc Tryz.prog w 0 spare held n0 215 ((cs.drop 2).take (Tryz.prog.cellsOf 215)) = some z2 := y2
 rw [cells215] at y2
 obtain ⟨x2, r2⟩ := openType_c y2
 obtain ⟨z3, y3⟩ := hf 3 _ rfl
 replace y3 : DataW.trod enc Tryz.prog w 0 spare held n0 216 ((cs.drop 5).take (Tryz.prog.cellsOf 216)) = some z3 := y3
 rw [cells216] at y3
 obtain ⟨x3, r3⟩ := open_L (ea := TBound.enc) Tryz.underlying216 cells335 (by decide) TBound.width (fun n cs x _ hq => openBound_c hq) y3
 obtain ⟨z4, y4⟩ := hf 4 _ rfl
 replace y4 : DataW.trod enc Tryz.prog w 0 spare held n0 4 ((cs.drop 6).take (Tryz.prog.cellsOf 4)) = some z4 := y4
 rw [cells4] at y4
 obtain ⟨x4, r4⟩ := open_B Tryz.underlying4 y4
 obtain ⟨z5, y5⟩ := hf 5 _ rfl
 replace y5 : DataW.trod enc Tryz.prog w 0 spare held n0 4 ((cs.drop 7).take (Tryz.prog.cellsOf 4)) = some z5 := y5
 rw [cells4] at y5
 obtain ⟨x5, r5⟩ := open_B Tryz.underlying4 y5
 obtain ⟨z6, y6⟩ := hf 6 _ rfl
 replace y6 : DataW.trod enc Tryz.prog w 0 spare held n0 215 ((cs.drop 8).take (Tryz.prog.cellsOf 215)) = some z6 := y6
 rw [cells215] at y6
 obtain ⟨x6, r6⟩ := openType_c y6
 obtain ⟨z7, y7⟩ := hf 7 _ rfl
 replace y7 : DataW.trod enc Tryz.prog w 0 spare held n0 217 ((cs.drop 11).take (Tryz.prog.cellsOf 217)) = some z7 := y7
 rw [cells217] at y7
 obtain ⟨x7, r7⟩ := open_L (ea := TMethod.enc) Tryz.underlying217 cells338 (by decide) TMethod.width (fun n cs x _ hq => openMethod_c hq) y7
 refine ⟨⟨x0, x1, x2, x3, x4, x5, x6, x7⟩, ?_⟩
 rw [TInstance.enc_eq]
 simp only [Rep]
 have hs := RepS.at_ (off := 0) (n := 1) (encS_w _) r0 (RepS.at_ (off := 1) (n := 1) (sl_w _) r1 (RepS.at_ (off := 2) (n := 3) (TType.width _) r2 (RepS.at_ (off := 5) (n := 1) (sl_w _) r3 (RepS.at_ (off := 6) (n := 1) (encB_w _) r4 (RepS.at_ (off := 7) (n := 1) (encB_w _) r5 (RepS.at_ (off := 8) (n := 3) (TType.width _) r6 (RepS.at_ (off := 11) (n := 1) (sl_w _) r7 (RepS.end_ (off := 12) hl))))))))
 simpa only [List.drop_zero] using hs
theorem cells341 : Tryz.prog.cellsOf 341 = 4 := by kernel_rfl
set_option maxRecDepth 100000 in
theorem openParam_c {H : Type} {enc : TypeId × Value → H} {w : World} {spare : Nat → Bool} {held : Bool} : ∀ {fuel : Nat} {cs : List Value} {x : DataW H × List MemPlace}, DataW.trod enc Tryz.prog w 0 spare held fuel 341 cs = some x → ∃ y : TParam, Rep w (Live w) y.enc cs := by
 intro fuel cs x h
 obtain ⟨hl, n0, rfl, hf⟩ := open_F Tryz.underlying341 h
 rw [cells341] at hl
 obtain ⟨z0, y0⟩ := hf 0 _ rfl
 replace y0 : DataW.trod enc Tryz.prog w 0 spare held n0 9 ((cs.drop 0).take (Tryz.prog.cellsOf 9)) = some z0 := y0
 rw [cells9] at y0
 obtain ⟨x0, r0⟩ := open_S Tryz.underlying9 y0
 obtain ⟨z1, y1⟩ := hf 1 _ rfl
 replace y1 : DataW.trod enc Tryz.prog w 0 spare held n0 215 ((cs.drop 1).take (Tryz.prog.cellsOf 215)) = some z1 := y1
 rw [cells215] at y1
 obtain ⟨x1, r1⟩ := openType_c y1
 refine ⟨⟨x0, x1⟩, ?_⟩
 rw [TParam.enc_eq]
 simp only [Rep]
 have hs := RepS.at_ (off := 0) (n := 1) (encS_w _) r0 (RepS.at_ (off := 1) (n := 3) (TType.width _) r1 (RepS.end_ (off := 4) hl))
 simpa only [List.drop_zero] using hs
theorem cells227 : Tryz.prog.cellsOf 227 = 16 := by kernel_rfl
theorem cells221 : Tryz.prog.cellsOf 221 = 1 := by kernel_rfl
set_option maxRecDepth 100000 in
theorem openFunction_c {H : Type} {enc : TypeId × Value → H} {w : World} {spare : Nat → Bool} {held : Bool} : ∀ {fuel : Nat} {cs : List Value} {x : DataW H × List MemPlace}, DataW.trod enc Tryz.prog w 0 spare held fuel 227 cs = some x → ∃ y : TFunction, Rep w (Live w) y.enc cs := by
 intro fuel cs x h
 obtain ⟨hl, n0, rfl, hf⟩ := open_F Tryz.underlying227 h
 rw [cells227] at hl
 obtain ⟨z0, y0⟩ := hf 0 _ rfl
 replace y0 : DataW.trod enc Tryz.prog w 0 spare held n0 9 ((cs.drop 0).take (Tryz.prog.cellsOf 9)) = some z0 := y0
 rw [cells9] at y0
 obtain ⟨x0, r0⟩ := open_S Tryz.underlying9 y0
 obtain ⟨z1, y1⟩ := hf 1 _ rfl
 replace y1 : DataW.trod enc Tryz.prog w 0 spare held n0 43 ((cs.drop 1).take (Tryz.prog.cellsOf 43)) = some z1 := y1
 rw [cells43] at y1
 obtain ⟨x1, r1⟩ := open_L (ea := encS) Tryz.underlying43 cells9 (by decide) encS_w (fun n cs x _ hq => open_S Tryz.underlying9 hq) y1
 obtain ⟨z2, y2⟩ := hf 2 _ rfl
 replace y2 : DataW.trod enc Tryz.prog w 0 spare held n0 216 ((cs.drop 2).take (Tryz.prog.cellsOf 216)) = some z2 := y2
 rw [cells216] at y2
 obtain ⟨x2, r2⟩ := open_L (ea := TBound.enc) Tryz.underlying216 cells335 (by decide) TBound.width (fun n cs x _ hq => openBound_c hq) y2
 obtain ⟨z3, y3⟩ := hf 3 _ rfl
 replace y3 : DataW.trod enc Tryz.prog w 0 spare held n0 221 ((cs.drop 3).take (Tryz.prog.cellsOf 221)) = some z3 := y3
 rw [cells221] at y3
 obtain ⟨x3, r3⟩ := open_L (ea := TParam.enc) Tryz.underlying221 cells341 (by decide) TParam.width (fun n cs x _ hq => openParam_c hq) y3
 obtain ⟨z4, y4⟩ := hf 4 _ rfl
 replace y4 : DataW.trod enc Tryz.prog w 0 spare held n0 215 ((cs.drop 4).take (Tryz.prog.cellsOf 215)) = some z4 := y4
 rw [cells215] at y4
 obtain ⟨x4, r4⟩ := openType_c y4
 obtain ⟨z5, y5⟩ := hf 5 _ rfl
 replace y5 : DataW.trod enc Tryz.prog w 0 spare held n0 225 ((cs.drop 7).take (Tryz.prog.cellsOf 225)) = some z5 := y5
 rw [cells225] at y5
 obtain ⟨x5, r5⟩ := openExpr_c y5
 refine ⟨⟨x0, x1, x2, x3, x4, x5⟩, ?_⟩
 rw [TFunction.enc_eq]
 simp only [Rep]
 have hs := RepS.at_ (off := 0) (n := 1) (encS_w _) r0 (RepS.at_ (off := 1) (n := 1) (sl_w _) r1 (RepS.at_ (off := 2) (n := 1) (sl_w _) r2 (RepS.at_ (off := 3) (n := 1) (sl_w _) r3 (RepS.at_ (off := 4) (n := 3) (TType.width _) r4 (RepS.at_ (off := 7) (n := 9) (TExpr.width _) r5 (RepS.end_ (off := 16) hl))))))
 simpa only [List.drop_zero] using hs
theorem cells328 : Tryz.prog.cellsOf 328 = 16 := by kernel_rfl
set_option maxRecDepth 100000 in
theorem openSignature_c {H : Type} {enc : TypeId × Value → H} {w : World} {spare : Nat → Bool} {held : Bool} : ∀ {fuel : Nat} {cs : List Value} {x : DataW H × List MemPlace}, DataW.trod enc Tryz.prog w 0 spare held fuel 328 cs = some x → ∃ y : TSignature, Rep w (Live w) y.enc cs := by
 intro fuel cs x h
 obtain ⟨hl, n0, rfl, hf⟩ := open_F Tryz.underlying328 h
 rw [cells328] at hl
 obtain ⟨z0, y0⟩ := hf 0 _ rfl
 replace y0 : DataW.trod enc Tryz.prog w 0 spare held n0 9 ((cs.drop 0).take (Tryz.prog.cellsOf 9)) = some z0 := y0
 rw [cells9] at y0
 obtain ⟨x0, r0⟩ := open_S Tryz.underlying9 y0
 obtain ⟨z1, y1⟩ := hf 1 _ rfl
 replace y1 : DataW.trod enc Tryz.prog w 0 spare held n0 213 ((cs.drop 1).take (Tryz.prog.cellsOf 213)) = some z1 := y1
 rw [cells213] at y1
 obtain ⟨x1, r1⟩ := open_L (ea := TType.enc) Tryz.underlying213 cells215 (by decide) TType.width (fun n cs x _ hq => openType_c hq) y1
 obtain ⟨z2, y2⟩ := hf 2 _ rfl
 replace y2 : DataW.trod enc Tryz.prog w 0 spare held n0 215 ((cs.drop 2).take (Tryz.prog.cellsOf 215)) = some z2 := y2
 rw [cells215] at y2
 obtain ⟨x2, r2⟩ := openType_c y2
 obtain ⟨z3, y3⟩ := hf 3 _ rfl
 replace y3 : DataW.trod enc Tryz.prog w 0 spare held n0 4 ((cs.drop 5).take (Tryz.prog.cellsOf 4)) = some z3 := y3
 rw [cells4] at y3
 obtain ⟨x3, r3⟩ := open_B Tryz.underlying4 y3
 obtain ⟨z4, y4⟩ := hf 4 _ rfl
 replace y4 : DataW.trod enc Tryz.prog w 0 spare held n0 43 ((cs.drop 6).take (Tryz.prog.cellsOf 43)) = some z4 := y4
 rw [cells43] at y4
 obtain ⟨x4, r4⟩ := open_L (ea := encS) Tryz.underlying43 cells9 (by decide) encS_w (fun n cs x _ hq => open_S Tryz.underlying9 hq) y4
 obtain ⟨z5, y5⟩ := hf 5 _ rfl
 replace y5 : DataW.trod enc Tryz.prog w 0 spare held n0 225 ((cs.drop 7).take (Tryz.prog.cellsOf 225)) = some z5 := y5
 rw [cells225] at y5
 obtain ⟨x5, r5⟩ := openExpr_c y5
 refine ⟨⟨x0, x1, x2, x3, x4, x5⟩, ?_⟩
 rw [TSignature.enc_eq]
 simp only [Rep]
 have hs := RepS.at_ (off := 0) (n := 1) (encS_w _) r0 (RepS.at_ (off := 1) (n := 1) (sl_w _) r1 (RepS.at_ (off := 2) (n := 3) (TType.width _) r2 (RepS.at_ (off := 5) (n := 1) (encB_w _) r3 (RepS.at_ (off := 6) (n := 1) (sl_w _) r4 (RepS.at_ (off := 7) (n := 9) (TExpr.width _) r5 (RepS.end_ (off := 16) hl))))))
 simpa only [List.drop_zero] using hs
theorem cells207 : Tryz.prog.cellsOf 207 = 5 := by kernel_rfl
theorem cells205 : Tryz.prog.cellsOf 205 = 1 := by kernel_rfl
set_option maxRecDepth 100000 in
theorem openTrait_c {H : Type} {enc : TypeId × Value → H} {w : World} {spare : Nat → Bool} {held : Bool} : ∀ {fuel : Nat} {cs : List Value} {x : DataW H × List MemPlace}, DataW.trod enc Tryz.prog w 0 spare held fuel 207 cs = some x → ∃ y : TTrait, Rep w (Live w) y.enc cs := by
 intro fuel cs x h
 obtain ⟨hl, n0, rfl, hf⟩ := open_F Tryz.underlying207 h
 rw [cells207] at hl
 obtain ⟨z0, y0⟩ := hf 0 _ rfl
 replace y0 : DataW.trod enc Tryz.prog w 0 spare held n0 9 ((cs.drop 0).take (Tryz.prog.cellsOf 9)) = some z0 := y0
 rw [cells9] at y0
 obtain ⟨x0, r0⟩ := open_S Tryz.underlying9 y0
 obtain ⟨z1, y1⟩ := hf 1 _ rfl
 replace y1 : DataW.trod enc Tryz.prog w 0 spare held n0 43 ((cs.drop 1).take (Tryz.prog.cellsOf 43)) = some z1 := y1
 rw [cells43] at y1
 obtain ⟨x1, r1⟩ := open_L (ea := encS) Tryz.underlying43 cells9 (by decide) encS_w (fun n cs x _ hq => open_S Tryz.underlying9 hq) y1
 obtain ⟨z2, y2⟩ := hf 2 _ rfl
 replace y2 : DataW.trod enc Tryz.prog w 0 spare held n0 4 ((cs.drop 2).take (Tryz.prog.cellsOf 4)) = some z2 := y2
 rw [cells4] at y2
 obtain ⟨x2, r2⟩ := open_B Tryz.underlying4 y2
 obtain ⟨z3, y3⟩ := hf 3 _ rfl
 replace y3 : DataW.trod enc Tryz.prog w 0 spare held n0 4 ((cs.drop 3).take (Tryz.prog.cellsOf 4)) = some z3 := y3
 rw [cells4] at y3
 obtain ⟨x3, r3⟩ := open_B Tryz.underlying4 y3
 obtain ⟨z4, y4⟩ := hf 4 _ rfl
 replace y4 : DataW.trod enc Tryz.prog w 0 spare held n0 205 ((cs.drop 4).take (Tryz.prog.cellsOf 205)) = some z4 := y4
 rw [cells205] at y4
 obtain ⟨x4, r4⟩ := open_L (ea := TSignature.enc) Tryz.underlying205 cells328 (by decide) TSignature.width (fun n cs x _ hq => openSignature_c hq) y4
 refine ⟨⟨x0, x1, x2, x3, x4⟩, ?_⟩
 rw [TTrait.enc_eq]
 simp only [Rep]
 have hs := RepS.at_ (off := 0) (n := 1) (encS_w _) r0 (RepS.at_ (off := 1) (n := 1) (sl_w _) r1 (RepS.at_ (off := 2) (n := 1) (encB_w _) r2 (RepS.at_ (off := 3) (n := 1) (encB_w _) r3 (RepS.at_ (off := 4) (n := 1) (sl_w _) r4 (RepS.end_ (off := 5) hl)))))
 simpa only [List.drop_zero] using hs
theorem cells91 : Tryz.prog.cellsOf 91 = 6 := by kernel_rfl
theorem cells86 : Tryz.prog.cellsOf 86 = 1 := by kernel_rfl
theorem cells87 : Tryz.prog.cellsOf 87 = 1 := by kernel_rfl
theorem cells88 : Tryz.prog.cellsOf 88 = 1 := by kernel_rfl
theorem cells89 : Tryz.prog.cellsOf 89 = 1 := by kernel_rfl
set_option maxRecDepth 100000 in
theorem openPackage_c {H : Type} {enc : TypeId × Value → H} {w : World} {spare : Nat → Bool} {held : Bool} : ∀ {fuel : Nat} {cs : List Value} {x : DataW H × List MemPlace}, DataW.trod enc Tryz.prog w 0 spare held fuel 91 cs = some x → ∃ y : TPackage, Rep w (Live w) y.enc cs := by
 intro fuel cs x h
 obtain ⟨hl, n0, rfl, hf⟩ := open_F Tryz.underlying91 h
 rw [cells91] at hl
 obtain ⟨z0, y0⟩ := hf 0 _ rfl
 replace y0 : DataW.trod enc Tryz.prog w 0 spare held n0 9 ((cs.drop 0).take (Tryz.prog.cellsOf 9)) = some z0 := y0
 rw [cells9] at y0
 obtain ⟨x0, r0⟩ := open_S Tryz.underlying9 y0
 obtain ⟨z1, y1⟩ := hf 1 _ rfl
 replace y1 : DataW.trod enc Tryz.prog w 0 spare held n0 43 ((cs.drop 1).take (Tryz.prog.cellsOf 43)) = some z1 := y1
 rw [cells43] at y1
 obtain ⟨x1, r1⟩ := open_L (ea := encS) Tryz.underlying43 cells9 (by decide) encS_w (fun n cs x _ hq => open_S Tryz.underlying9 hq) y1
 obtain ⟨z2, y2⟩ := hf 2 _ rfl
 replace y2 : DataW.trod enc Tryz.prog w 0 spare held n0 86 ((cs.drop 2).take (Tryz.prog.cellsOf 86)) = some z2 := y2
 rw [cells86] at y2
 obtain ⟨x2, r2⟩ := open_L (ea := TTrait.enc) Tryz.underlying86 cells207 (by decide) TTrait.width (fun n cs x _ hq => openTrait_c hq) y2
 obtain ⟨z3, y3⟩ := hf 3 _ rfl
 replace y3 : DataW.trod enc Tryz.prog w 0 spare held n0 87 ((cs.drop 3).take (Tryz.prog.cellsOf 87)) = some z3 := y3
 rw [cells87] at y3
 obtain ⟨x3, r3⟩ := open_L (ea := TDataType.enc) Tryz.underlying87 cells211 (by decide) TDataType.width (fun n cs x _ hq => openDataType_c hq) y3
 obtain ⟨z4, y4⟩ := hf 4 _ rfl
 replace y4 : DataW.trod enc Tryz.prog w 0 spare held n0 88 ((cs.drop 4).take (Tryz.prog.cellsOf 88)) = some z4 := y4
 rw [cells88] at y4
 obtain ⟨x4, r4⟩ := open_L (ea := TInstance.enc) Tryz.underlying88 cells219 (by decide) TInstance.width (fun n cs x _ hq => openInstance_c hq) y4
 obtain ⟨z5, y5⟩ := hf 5 _ rfl
 replace y5 : DataW.trod enc Tryz.prog w 0 spare held n0 89 ((cs.drop 5).take (Tryz.prog.cellsOf 89)) = some z5 := y5
 rw [cells89] at y5
 obtain ⟨x5, r5⟩ := open_L (ea := TFunction.enc) Tryz.underlying89 cells227 (by decide) TFunction.width (fun n cs x _ hq => openFunction_c hq) y5
 refine ⟨⟨x0, x1, x2, x3, x4, x5⟩, ?_⟩
 rw [TPackage.enc_eq]
 simp only [Rep]
 have hs := RepS.at_ (off := 0) (n := 1) (encS_w _) r0 (RepS.at_ (off := 1) (n := 1) (sl_w _) r1 (RepS.at_ (off := 2) (n := 1) (sl_w _) r2 (RepS.at_ (off := 3) (n := 1) (sl_w _) r3 (RepS.at_ (off := 4) (n := 1) (sl_w _) r4 (RepS.at_ (off := 5) (n := 1) (sl_w _) r5 (RepS.end_ (off := 6) hl))))))
 simpa only [List.drop_zero] using hs
theorem cells24 : Tryz.prog.cellsOf 24 = 1 := by kernel_rfl
theorem cells22 : Tryz.prog.cellsOf 22 = 1 := by kernel_rfl
set_option maxRecDepth 100000 in
theorem openProgram_c {H : Type} {enc : TypeId × Value → H} {w : World} {spare : Nat → Bool} {held : Bool} : ∀ {fuel : Nat} {cs : List Value} {x : DataW H × List MemPlace}, DataW.trod enc Tryz.prog w 0 spare held fuel 24 cs = some x → ∃ y : TProgram, Rep w (Live w) y.enc cs := by
 intro fuel cs x h
 obtain ⟨hl, n0, rfl, hf⟩ := open_F Tryz.underlying24 h
 rw [cells24] at hl
 obtain ⟨z0, y0⟩ := hf 0 _ rfl
 replace y0 : DataW.trod enc Tryz.prog w 0 spare held n0 22 ((cs.drop 0).take (Tryz.prog.cellsOf 22)) = some z0 := y0
 rw [cells22] at y0
 obtain ⟨x0, r0⟩ := open_L (ea := TPackage.enc) Tryz.underlying22 cells91 (by decide) TPackage.width (fun n cs x _ hq => openPackage_c hq) y0
 refine ⟨⟨x0⟩, ?_⟩
 rw [TProgram.enc_eq]
 simp only [Rep]
 have hs := RepS.at_ (off := 0) (n := 1) (sl_w _) r0 (RepS.end_ (off := 1) hl)
 simpa only [List.drop_zero] using hs
end Go.Proofs.YtdooklofebdknaaGreat
