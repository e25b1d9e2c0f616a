/- What reads as data of this program's types is a mirror value's tree. No condition. -/
import Derived.Test.YtkmiecgcibjkbaaGreatOpen
import Derived.Test.YtkmiecgcibjkbaaGreatRows
namespace Go.Proofs.YtkmiecgcibjkbaaGreat
open Go.ChangeShapes Go.WideShapes Go.ChangeAt Go.RowKit
theorem cells323 : Tryz.prog.cellsOf 323 = 2 := by kernel_rfl
theorem cells3 : Tryz.prog.cellsOf 3 = 1 := by kernel_rfl
set_option maxRecDepth 100000 in
theorem openInstanceRef_c {H : Type} {enc : TypeId × Value → H} {w : World} {spare : Nat → Bool} {held : Bool} : ∀ {fuel : Nat} {cs : List Value} {x : DataW H × List MemPlace}, DataW.trod enc Tryz.prog w 0 spare held fuel 323 cs = some x → ∃ y : TInstanceRef, Rep w (Live w) y.enc cs := by
  intro fuel cs x h
  obtain ⟨hl, n0, rfl, hf⟩ := open_F Tryz.underlying323 h
  rw [cells323] at hl
  obtain ⟨z0, y0⟩ := hf 0 _ rfl
  replace y0 : DataW.trod enc Tryz.prog w 0 spare held n0 3 ((cs.drop 0).take (Tryz.prog.cellsOf 3)) = some z0 := y0
  rw [cells3] at y0
  obtain ⟨x0, r0⟩ := open_I Tryz.underlying3 y0
  obtain ⟨z1, y1⟩ := hf 1 _ rfl
  replace y1 : DataW.trod enc Tryz.prog w 0 spare held n0 3 ((cs.drop 1).take (Tryz.prog.cellsOf 3)) = some z1 := y1
  rw [cells3] at y1
  obtain ⟨x1, r1⟩ := open_I Tryz.underlying3 y1
  refine ⟨⟨x0, x1⟩, ?_⟩
  rw [TInstanceRef.enc_eq]
  simp only [Rep]
  have hs := RepS.at_ (off := 0) (n := 1) (encI_w _) r0 (RepS.at_ (off := 1) (n := 1) (encI_w _) r1 (RepS.end_ (off := 2) hl))
  simpa only [List.drop_zero] using hs
theorem cells325 : Tryz.prog.cellsOf 325 = 5 := by kernel_rfl
theorem cells151 : Tryz.prog.cellsOf 151 = 1 := by kernel_rfl
set_option maxRecDepth 100000 in
theorem openEvidence_all {H : Type} {enc : TypeId × Value → H} {w : World} {spare : Nat → Bool} {held : Bool} (n : Nat) : (∀ {cs : List Value} {x : DataW H × List MemPlace}, DataW.trod enc Tryz.prog w 0 spare held n 325 cs = some x → ∃ y : TEvidence, Rep w (Live w) y.enc cs) := by
  induction n using Nat.strongRecOn with
  | ind fuel ih =>
  have ihEvidence : ∀ m, m < fuel → ∀ {cs : List Value} {x : DataW H × List MemPlace}, DataW.trod enc Tryz.prog w 0 spare held m 325 cs = some x → ∃ y : TEvidence, Rep w (Live w) y.enc cs := fun m hm => (ih m hm)
  · intro cs x h
    obtain ⟨hl, n0, rfl, hf⟩ := open_F Tryz.underlying325 h
    rw [cells325] at hl
    obtain ⟨z0, y0⟩ := hf 0 _ rfl
    replace y0 : DataW.trod enc Tryz.prog w 0 spare held n0 3 ((cs.drop 0).take (Tryz.prog.cellsOf 3)) = some z0 := y0
    rw [cells3] at y0
    obtain ⟨x0, r0⟩ := open_I Tryz.underlying3 y0
    obtain ⟨z1, y1⟩ := hf 1 _ rfl
    replace y1 : DataW.trod enc Tryz.prog w 0 spare held n0 3 ((cs.drop 1).take (Tryz.prog.cellsOf 3)) = some z1 := y1
    rw [cells3] at y1
    obtain ⟨x1, r1⟩ := open_I Tryz.underlying3 y1
    obtain ⟨z2, y2⟩ := hf 2 _ rfl
    replace y2 : DataW.trod enc Tryz.prog w 0 spare held n0 323 ((cs.drop 2).take (Tryz.prog.cellsOf 323)) = some z2 := y2
    rw [cells323] at y2
    obtain ⟨x2, r2⟩ := openInstanceRef_c y2
    obtain ⟨z3, y3⟩ := hf 3 _ rfl
    replace y3 : DataW.trod enc Tryz.prog w 0 spare held n0 151 ((cs.drop 4).take (Tryz.prog.cellsOf 151)) = some z3 := y3
    rw [cells151] at y3
    obtain ⟨x3, r3⟩ := open_L (ea := TEvidence.enc) Tryz.underlying151 cells325 (by decide) TEvidence.width (fun n cs x hn hq => ihEvidence n (by omega) hq) y3
    refine ⟨⟨x0, x1, x2, x3⟩, ?_⟩
    rw [TEvidence.enc_eq]
    simp only [Rep]
    have hs := RepS.at_ (off := 0) (n := 1) (encI_w _) r0 (RepS.at_ (off := 1) (n := 1) (encI_w _) r1 (RepS.at_ (off := 2) (n := 2) (TInstanceRef.width _) r2 (RepS.at_ (off := 4) (n := 1) (sl_w _) r3 (RepS.end_ (off := 5) hl))))
    simpa only [List.drop_zero] using hs
theorem openEvidence_c {H : Type} {enc : TypeId × Value → H} {w : World} {spare : Nat → Bool} {held : Bool} : ∀ {fuel : Nat} {cs : List Value} {x : DataW H × List MemPlace}, DataW.trod enc Tryz.prog w 0 spare held fuel 325 cs = some x → ∃ y : TEvidence, Rep w (Live w) y.enc cs := fun {fuel} {_} {_} h => (openEvidence_all fuel) h
theorem cells150 : Tryz.prog.cellsOf 150 = 3 := by kernel_rfl
theorem cells9 : Tryz.prog.cellsOf 9 = 1 := by kernel_rfl
theorem cells148 : Tryz.prog.cellsOf 148 = 1 := by kernel_rfl
set_option maxRecDepth 100000 in
theorem openType_all {H : Type} {enc : TypeId × Value → H} {w : World} {spare : Nat → Bool} {held : Bool} (n : Nat) : (∀ {cs : List Value} {x : DataW H × List MemPlace}, DataW.trod enc Tryz.prog w 0 spare held n 150 cs = some x → ∃ y : TType, Rep w (Live w) y.enc cs) := by
  induction n using Nat.strongRecOn with
  | ind fuel ih =>
  have ihType : ∀ m, m < fuel → ∀ {cs : List Value} {x : DataW H × List MemPlace}, DataW.trod enc Tryz.prog w 0 spare held m 150 cs = some x → ∃ y : TType, Rep w (Live w) y.enc cs := fun m hm => (ih m hm)
  · intro cs x h
    obtain ⟨hl, n0, rfl, hf⟩ := open_F Tryz.underlying150 h
    rw [cells150] at hl
    obtain ⟨z0, y0⟩ := hf 0 _ rfl
    replace y0 : DataW.trod enc Tryz.prog w 0 spare held n0 3 ((cs.drop 0).take (Tryz.prog.cellsOf 3)) = some z0 := y0
    rw [cells3] at y0
    obtain ⟨x0, r0⟩ := open_I Tryz.underlying3 y0
    obtain ⟨z1, y1⟩ := hf 1 _ rfl
    replace y1 : DataW.trod enc Tryz.prog w 0 spare held n0 9 ((cs.drop 1).take (Tryz.prog.cellsOf 9)) = some z1 := y1
    rw [cells9] at y1
    obtain ⟨x1, r1⟩ := open_S Tryz.underlying9 y1
    obtain ⟨z2, y2⟩ := hf 2 _ rfl
    replace y2 : DataW.trod enc Tryz.prog w 0 spare held n0 148 ((cs.drop 2).take (Tryz.prog.cellsOf 148)) = some z2 := y2
    rw [cells148] at y2
    obtain ⟨x2, r2⟩ := open_L (ea := TType.enc) Tryz.underlying148 cells150 (by decide) TType.width (fun n cs x hn hq => ihType n (by omega) hq) y2
    refine ⟨⟨x0, x1, x2⟩, ?_⟩
    rw [TType.enc_eq]
    simp only [Rep]
    have hs := RepS.at_ (off := 0) (n := 1) (encI_w _) r0 (RepS.at_ (off := 1) (n := 1) (encS_w _) r1 (RepS.at_ (off := 2) (n := 1) (sl_w _) r2 (RepS.end_ (off := 3) hl)))
    simpa only [List.drop_zero] using hs
theorem openType_c {H : Type} {enc : TypeId × Value → H} {w : World} {spare : Nat → Bool} {held : Bool} : ∀ {fuel : Nat} {cs : List Value} {x : DataW H × List MemPlace}, DataW.trod enc Tryz.prog w 0 spare held fuel 150 cs = some x → ∃ y : TType, Rep w (Live w) y.enc cs := fun {fuel} {_} {_} h => (openType_all fuel) h
theorem cells195 : Tryz.prog.cellsOf 195 = 4 := by kernel_rfl
set_option maxRecDepth 100000 in
theorem openBound_c {H : Type} {enc : TypeId × Value → H} {w : World} {spare : Nat → Bool} {held : Bool} : ∀ {fuel : Nat} {cs : List Value} {x : DataW H × List MemPlace}, DataW.trod enc Tryz.prog w 0 spare held fuel 195 cs = some x → ∃ y : TBound, Rep w (Live w) y.enc cs := by
  intro fuel cs x h
  obtain ⟨hl, n0, rfl, hf⟩ := open_F Tryz.underlying195 h
  rw [cells195] at hl
  obtain ⟨z0, y0⟩ := hf 0 _ rfl
  replace y0 : DataW.trod enc Tryz.prog w 0 spare held n0 9 ((cs.drop 0).take (Tryz.prog.cellsOf 9)) = some z0 := y0
  rw [cells9] at y0
  obtain ⟨x0, r0⟩ := open_S Tryz.underlying9 y0
  obtain ⟨z1, y1⟩ := hf 1 _ rfl
  replace y1 : DataW.trod enc Tryz.prog w 0 spare held n0 150 ((cs.drop 1).take (Tryz.prog.cellsOf 150)) = some z1 := y1
  rw [cells150] at y1
  obtain ⟨x1, r1⟩ := openType_c y1
  refine ⟨⟨x0, x1⟩, ?_⟩
  rw [TBound.enc_eq]
  simp only [Rep]
  have hs := RepS.at_ (off := 0) (n := 1) (encS_w _) r0 (RepS.at_ (off := 1) (n := 3) (TType.width _) r1 (RepS.end_ (off := 4) hl))
  simpa only [List.drop_zero] using hs
theorem cells328 : Tryz.prog.cellsOf 328 = 13 := by kernel_rfl
theorem cells48 : Tryz.prog.cellsOf 48 = 1 := by kernel_rfl
theorem cells155 : Tryz.prog.cellsOf 155 = 11 := by kernel_rfl
theorem cells152 : Tryz.prog.cellsOf 152 = 1 := by kernel_rfl
theorem cells153 : Tryz.prog.cellsOf 153 = 1 := by kernel_rfl
set_option maxRecDepth 100000 in
theorem openCoreArmCore_all {H : Type} {enc : TypeId × Value → H} {w : World} {spare : Nat → Bool} {held : Bool} (n : Nat) : (∀ {cs : List Value} {x : DataW H × List MemPlace}, DataW.trod enc Tryz.prog w 0 spare held n 328 cs = some x → ∃ y : TCoreArm, Rep w (Live w) y.enc cs) ∧ (∀ {cs : List Value} {x : DataW H × List MemPlace}, DataW.trod enc Tryz.prog w 0 spare held n 155 cs = some x → ∃ y : TCore, Rep w (Live w) y.enc cs) := by
  induction n using Nat.strongRecOn with
  | ind fuel ih =>
  have ihCoreArm : ∀ m, m < fuel → ∀ {cs : List Value} {x : DataW H × List MemPlace}, DataW.trod enc Tryz.prog w 0 spare held m 328 cs = some x → ∃ y : TCoreArm, Rep w (Live w) y.enc cs := fun m hm => (ih m hm).1
  have ihCore : ∀ m, m < fuel → ∀ {cs : List Value} {x : DataW H × List MemPlace}, DataW.trod enc Tryz.prog w 0 spare held m 155 cs = some x → ∃ y : TCore, Rep w (Live w) y.enc cs := fun m hm => (ih m hm).2
  refine ⟨?_, ?_⟩
  · intro cs x h
    obtain ⟨hl, n0, rfl, hf⟩ := open_F Tryz.underlying328 h
    rw [cells328] at hl
    obtain ⟨z0, y0⟩ := hf 0 _ rfl
    replace y0 : DataW.trod enc Tryz.prog w 0 spare held n0 9 ((cs.drop 0).take (Tryz.prog.cellsOf 9)) = some z0 := y0
    rw [cells9] at y0
    obtain ⟨x0, r0⟩ := open_S Tryz.underlying9 y0
    obtain ⟨z1, y1⟩ := hf 1 _ rfl
    replace y1 : DataW.trod enc Tryz.prog w 0 spare held n0 48 ((cs.drop 1).take (Tryz.prog.cellsOf 48)) = some z1 := y1
    rw [cells48] at y1
    obtain ⟨x1, r1⟩ := open_L (ea := encS) Tryz.underlying48 cells9 (by decide) encS_w (fun n cs x _ hq => open_S Tryz.underlying9 hq) y1
    obtain ⟨z2, y2⟩ := hf 2 _ rfl
    replace y2 : DataW.trod enc Tryz.prog w 0 spare held n0 155 ((cs.drop 2).take (Tryz.prog.cellsOf 155)) = some z2 := y2
    rw [cells155] at y2
    obtain ⟨x2, r2⟩ := ihCore n0 (by omega) y2
    refine ⟨⟨x0, x1, x2⟩, ?_⟩
    rw [TCoreArm.enc_eq]
    simp only [Rep]
    have hs := RepS.at_ (off := 0) (n := 1) (encS_w _) r0 (RepS.at_ (off := 1) (n := 1) (sl_w _) r1 (RepS.at_ (off := 2) (n := 11) (TCore.width _) r2 (RepS.end_ (off := 13) hl)))
    simpa only [List.drop_zero] using hs
  · intro cs x h
    obtain ⟨hl, n0, rfl, hf⟩ := open_F Tryz.underlying155 h
    rw [cells155] at hl
    obtain ⟨z0, y0⟩ := hf 0 _ rfl
    replace y0 : DataW.trod enc Tryz.prog w 0 spare held n0 3 ((cs.drop 0).take (Tryz.prog.cellsOf 3)) = some z0 := y0
    rw [cells3] at y0
    obtain ⟨x0, r0⟩ := open_I Tryz.underlying3 y0
    obtain ⟨z1, y1⟩ := hf 1 _ rfl
    replace y1 : DataW.trod enc Tryz.prog w 0 spare held n0 9 ((cs.drop 1).take (Tryz.prog.cellsOf 9)) = some z1 := y1
    rw [cells9] at y1
    obtain ⟨x1, r1⟩ := open_S Tryz.underlying9 y1
    obtain ⟨z2, y2⟩ := hf 2 _ rfl
    replace y2 : DataW.trod enc Tryz.prog w 0 spare held n0 9 ((cs.drop 2).take (Tryz.prog.cellsOf 9)) = some z2 := y2
    rw [cells9] at y2
    obtain ⟨x2, r2⟩ := open_S Tryz.underlying9 y2
    obtain ⟨z3, y3⟩ := hf 3 _ rfl
    replace y3 : DataW.trod enc Tryz.prog w 0 spare held n0 3 ((cs.drop 3).take (Tryz.prog.cellsOf 3)) = some z3 := y3
    rw [cells3] at y3
    obtain ⟨x3, r3⟩ := open_I Tryz.underlying3 y3
    obtain ⟨z4, y4⟩ := hf 4 _ rfl
    replace y4 : DataW.trod enc Tryz.prog w 0 spare held n0 150 ((cs.drop 4).take (Tryz.prog.cellsOf 150)) = some z4 := y4
    rw [cells150] at y4
    obtain ⟨x4, r4⟩ := openType_c y4
    obtain ⟨z5, y5⟩ := hf 5 _ rfl
    replace y5 : DataW.trod enc Tryz.prog w 0 spare held n0 148 ((cs.drop 7).take (Tryz.prog.cellsOf 148)) = some z5 := y5
    rw [cells148] at y5
    obtain ⟨x5, r5⟩ := open_L (ea := TType.enc) Tryz.underlying148 cells150 (by decide) TType.width (fun n cs x _ hq => openType_c hq) y5
    obtain ⟨z6, y6⟩ := hf 6 _ rfl
    replace y6 : DataW.trod enc Tryz.prog w 0 spare held n0 151 ((cs.drop 8).take (Tryz.prog.cellsOf 151)) = some z6 := y6
    rw [cells151] at y6
    obtain ⟨x6, r6⟩ := open_L (ea := TEvidence.enc) Tryz.underlying151 cells325 (by decide) TEvidence.width (fun n cs x _ hq => openEvidence_c hq) y6
    obtain ⟨z7, y7⟩ := hf 7 _ rfl
    replace y7 : DataW.trod enc Tryz.prog w 0 spare held n0 152 ((cs.drop 9).take (Tryz.prog.cellsOf 152)) = some z7 := y7
    rw [cells152] at y7
    obtain ⟨x7, r7⟩ := open_L (ea := TCore.enc) Tryz.underlying152 cells155 (by decide) TCore.width (fun n cs x hn hq => ihCore n (by omega) hq) y7
    obtain ⟨z8, y8⟩ := hf 8 _ rfl
    replace y8 : DataW.trod enc Tryz.prog w 0 spare held n0 153 ((cs.drop 10).take (Tryz.prog.cellsOf 153)) = some z8 := y8
    rw [cells153] at y8
    obtain ⟨x8, r8⟩ := open_L (ea := TCoreArm.enc) Tryz.underlying153 cells328 (by decide) TCoreArm.width (fun n cs x hn hq => ihCoreArm n (by omega) hq) y8
    refine ⟨⟨x0, x1, x2, x3, x4, x5, x6, x7, x8⟩, ?_⟩
    rw [TCore.enc_eq]
    simp only [Rep]
    have hs := RepS.at_ (off := 0) (n := 1) (encI_w _) r0 (RepS.at_ (off := 1) (n := 1) (encS_w _) r1 (RepS.at_ (off := 2) (n := 1) (encS_w _) r2 (RepS.at_ (off := 3) (n := 1) (encI_w _) r3 (RepS.at_ (off := 4) (n := 3) (TType.width _) r4 (RepS.at_ (off := 7) (n := 1) (sl_w _) r5 (RepS.at_ (off := 8) (n := 1) (sl_w _) r6 (RepS.at_ (off := 9) (n := 1) (sl_w _) r7 (RepS.at_ (off := 10) (n := 1) (sl_w _) r8 (RepS.end_ (off := 11) hl)))))))))
    simpa only [List.drop_zero] using hs
theorem openCoreArm_c {H : Type} {enc : TypeId × Value → H} {w : World} {spare : Nat → Bool} {held : Bool} : ∀ {fuel : Nat} {cs : List Value} {x : DataW H × List MemPlace}, DataW.trod enc Tryz.prog w 0 spare held fuel 328 cs = some x → ∃ y : TCoreArm, Rep w (Live w) y.enc cs := fun {fuel} {_} {_} h => (openCoreArmCore_all fuel).1 h
theorem openCore_c {H : Type} {enc : TypeId × Value → H} {w : World} {spare : Nat → Bool} {held : Bool} : ∀ {fuel : Nat} {cs : List Value} {x : DataW H × List MemPlace}, DataW.trod enc Tryz.prog w 0 spare held fuel 155 cs = some x → ∃ y : TCore, Rep w (Live w) y.enc cs := fun {fuel} {_} {_} h => (openCoreArmCore_all fuel).2 h
theorem cells348 : Tryz.prog.cellsOf 348 = 4 := by kernel_rfl
set_option maxRecDepth 100000 in
theorem openParam_c {H : Type} {enc : TypeId × Value → H} {w : World} {spare : Nat → Bool} {held : Bool} : ∀ {fuel : Nat} {cs : List Value} {x : DataW H × List MemPlace}, DataW.trod enc Tryz.prog w 0 spare held fuel 348 cs = some x → ∃ y : TParam, Rep w (Live w) y.enc cs := by
  intro fuel cs x h
  obtain ⟨hl, n0, rfl, hf⟩ := open_F Tryz.underlying348 h
  rw [cells348] at hl
  obtain ⟨z0, y0⟩ := hf 0 _ rfl
  replace y0 : DataW.trod enc Tryz.prog w 0 spare held n0 9 ((cs.drop 0).take (Tryz.prog.cellsOf 9)) = some z0 := y0
  rw [cells9] at y0
  obtain ⟨x0, r0⟩ := open_S Tryz.underlying9 y0
  obtain ⟨z1, y1⟩ := hf 1 _ rfl
  replace y1 : DataW.trod enc Tryz.prog w 0 spare held n0 150 ((cs.drop 1).take (Tryz.prog.cellsOf 150)) = some z1 := y1
  rw [cells150] at y1
  obtain ⟨x1, r1⟩ := openType_c y1
  refine ⟨⟨x0, x1⟩, ?_⟩
  rw [TParam.enc_eq]
  simp only [Rep]
  have hs := RepS.at_ (off := 0) (n := 1) (encS_w _) r0 (RepS.at_ (off := 1) (n := 3) (TType.width _) r1 (RepS.end_ (off := 4) hl))
  simpa only [List.drop_zero] using hs
theorem cells315 : Tryz.prog.cellsOf 315 = 21 := by kernel_rfl
theorem cells312 : Tryz.prog.cellsOf 312 = 1 := by kernel_rfl
theorem cells313 : Tryz.prog.cellsOf 313 = 1 := by kernel_rfl
set_option maxRecDepth 100000 in
theorem openUnit_c {H : Type} {enc : TypeId × Value → H} {w : World} {spare : Nat → Bool} {held : Bool} : ∀ {fuel : Nat} {cs : List Value} {x : DataW H × List MemPlace}, DataW.trod enc Tryz.prog w 0 spare held fuel 315 cs = some x → ∃ y : TUnit, Rep w (Live w) y.enc cs := by
  intro fuel cs x h
  obtain ⟨hl, n0, rfl, hf⟩ := open_F Tryz.underlying315 h
  rw [cells315] at hl
  obtain ⟨z0, y0⟩ := hf 0 _ rfl
  replace y0 : DataW.trod enc Tryz.prog w 0 spare held n0 3 ((cs.drop 0).take (Tryz.prog.cellsOf 3)) = some z0 := y0
  rw [cells3] at y0
  obtain ⟨x0, r0⟩ := open_I Tryz.underlying3 y0
  obtain ⟨z1, y1⟩ := hf 1 _ rfl
  replace y1 : DataW.trod enc Tryz.prog w 0 spare held n0 3 ((cs.drop 1).take (Tryz.prog.cellsOf 3)) = some z1 := y1
  rw [cells3] at y1
  obtain ⟨x1, r1⟩ := open_I Tryz.underlying3 y1
  obtain ⟨z2, y2⟩ := hf 2 _ rfl
  replace y2 : DataW.trod enc Tryz.prog w 0 spare held n0 3 ((cs.drop 2).take (Tryz.prog.cellsOf 3)) = some z2 := y2
  rw [cells3] at y2
  obtain ⟨x2, r2⟩ := open_I Tryz.underlying3 y2
  obtain ⟨z3, y3⟩ := hf 3 _ rfl
  replace y3 : DataW.trod enc Tryz.prog w 0 spare held n0 3 ((cs.drop 3).take (Tryz.prog.cellsOf 3)) = some z3 := y3
  rw [cells3] at y3
  obtain ⟨x3, r3⟩ := open_I Tryz.underlying3 y3
  obtain ⟨z4, y4⟩ := hf 4 _ rfl
  replace y4 : DataW.trod enc Tryz.prog w 0 spare held n0 48 ((cs.drop 4).take (Tryz.prog.cellsOf 48)) = some z4 := y4
  rw [cells48] at y4
  obtain ⟨x4, r4⟩ := open_L (ea := encS) Tryz.underlying48 cells9 (by decide) encS_w (fun n cs x _ hq => open_S Tryz.underlying9 hq) y4
  obtain ⟨z5, y5⟩ := hf 5 _ rfl
  replace y5 : DataW.trod enc Tryz.prog w 0 spare held n0 312 ((cs.drop 5).take (Tryz.prog.cellsOf 312)) = some z5 := y5
  rw [cells312] at y5
  obtain ⟨x5, r5⟩ := open_L (ea := TBound.enc) Tryz.underlying312 cells195 (by decide) TBound.width (fun n cs x _ hq => openBound_c hq) y5
  obtain ⟨z6, y6⟩ := hf 6 _ rfl
  replace y6 : DataW.trod enc Tryz.prog w 0 spare held n0 313 ((cs.drop 6).take (Tryz.prog.cellsOf 313)) = some z6 := y6
  rw [cells313] at y6
  obtain ⟨x6, r6⟩ := open_L (ea := TParam.enc) Tryz.underlying313 cells348 (by decide) TParam.width (fun n cs x _ hq => openParam_c hq) y6
  obtain ⟨z7, y7⟩ := hf 7 _ rfl
  replace y7 : DataW.trod enc Tryz.prog w 0 spare held n0 150 ((cs.drop 7).take (Tryz.prog.cellsOf 150)) = some z7 := y7
  rw [cells150] at y7
  obtain ⟨x7, r7⟩ := openType_c y7
  obtain ⟨z8, y8⟩ := hf 8 _ rfl
  replace y8 : DataW.trod enc Tryz.prog w 0 spare held n0 155 ((cs.drop 10).take (Tryz.prog.cellsOf 155)) = some z8 := y8
  rw [cells155] at y8
  obtain ⟨x8, r8⟩ := openCore_c y8
  refine ⟨⟨x0, x1, x2, x3, x4, x5, x6, x7, x8⟩, ?_⟩
  rw [TUnit.enc_eq]
  simp only [Rep]
  have hs := RepS.at_ (off := 0) (n := 1) (encI_w _) r0 (RepS.at_ (off := 1) (n := 1) (encI_w _) r1 (RepS.at_ (off := 2) (n := 1) (encI_w _) r2 (RepS.at_ (off := 3) (n := 1) (encI_w _) r3 (RepS.at_ (off := 4) (n := 1) (sl_w _) r4 (RepS.at_ (off := 5) (n := 1) (sl_w _) r5 (RepS.at_ (off := 6) (n := 1) (sl_w _) r6 (RepS.at_ (off := 7) (n := 3) (TType.width _) r7 (RepS.at_ (off := 10) (n := 11) (TCore.width _) r8 (RepS.end_ (off := 21) hl)))))))))
  simpa only [List.drop_zero] using hs
theorem cells318 : Tryz.prog.cellsOf 318 = 6 := by kernel_rfl
set_option maxRecDepth 100000 in
theorem openUnitError_c {H : Type} {enc : TypeId × Value → H} {w : World} {spare : Nat → Bool} {held : Bool} : ∀ {fuel : Nat} {cs : List Value} {x : DataW H × List MemPlace}, DataW.trod enc Tryz.prog w 0 spare held fuel 318 cs = some x → ∃ y : TUnitError, Rep w (Live w) y.enc cs := by
  intro fuel cs x h
  obtain ⟨hl, n0, rfl, hf⟩ := open_F Tryz.underlying318 h
  rw [cells318] at hl
  obtain ⟨z0, y0⟩ := hf 0 _ rfl
  replace y0 : DataW.trod enc Tryz.prog w 0 spare held n0 3 ((cs.drop 0).take (Tryz.prog.cellsOf 3)) = some z0 := y0
  rw [cells3] at y0
  obtain ⟨x0, r0⟩ := open_I Tryz.underlying3 y0
  obtain ⟨z1, y1⟩ := hf 1 _ rfl
  replace y1 : DataW.trod enc Tryz.prog w 0 spare held n0 3 ((cs.drop 1).take (Tryz.prog.cellsOf 3)) = some z1 := y1
  rw [cells3] at y1
  obtain ⟨x1, r1⟩ := open_I Tryz.underlying3 y1
  obtain ⟨z2, y2⟩ := hf 2 _ rfl
  replace y2 : DataW.trod enc Tryz.prog w 0 spare held n0 3 ((cs.drop 2).take (Tryz.prog.cellsOf 3)) = some z2 := y2
  rw [cells3] at y2
  obtain ⟨x2, r2⟩ := open_I Tryz.underlying3 y2
  obtain ⟨z3, y3⟩ := hf 3 _ rfl
  replace y3 : DataW.trod enc Tryz.prog w 0 spare held n0 3 ((cs.drop 3).take (Tryz.prog.cellsOf 3)) = some z3 := y3
  rw [cells3] at y3
  obtain ⟨x3, r3⟩ := open_I Tryz.underlying3 y3
  obtain ⟨z4, y4⟩ := hf 4 _ rfl
  replace y4 : DataW.trod enc Tryz.prog w 0 spare held n0 3 ((cs.drop 4).take (Tryz.prog.cellsOf 3)) = some z4 := y4
  rw [cells3] at y4
  obtain ⟨x4, r4⟩ := open_I Tryz.underlying3 y4
  obtain ⟨z5, y5⟩ := hf 5 _ rfl
  replace y5 : DataW.trod enc Tryz.prog w 0 spare held n0 3 ((cs.drop 5).take (Tryz.prog.cellsOf 3)) = some z5 := y5
  rw [cells3] at y5
  obtain ⟨x5, r5⟩ := open_I Tryz.underlying3 y5
  refine ⟨⟨x0, x1, x2, x3, x4, x5⟩, ?_⟩
  rw [TUnitError.enc_eq]
  simp only [Rep]
  have hs := RepS.at_ (off := 0) (n := 1) (encI_w _) r0 (RepS.at_ (off := 1) (n := 1) (encI_w _) r1 (RepS.at_ (off := 2) (n := 1) (encI_w _) r2 (RepS.at_ (off := 3) (n := 1) (encI_w _) r3 (RepS.at_ (off := 4) (n := 1) (encI_w _) r4 (RepS.at_ (off := 5) (n := 1) (encI_w _) r5 (RepS.end_ (off := 6) hl))))))
  simpa only [List.drop_zero] using hs
theorem cells221 : Tryz.prog.cellsOf 221 = 4 := by kernel_rfl
theorem cells218 : Tryz.prog.cellsOf 218 = 1 := by kernel_rfl
theorem cells219 : Tryz.prog.cellsOf 219 = 1 := by kernel_rfl
set_option maxRecDepth 100000 in
theorem openBuiltPackage_c {H : Type} {enc : TypeId × Value → H} {w : World} {spare : Nat → Bool} {held : Bool} : ∀ {fuel : Nat} {cs : List Value} {x : DataW H × List MemPlace}, DataW.trod enc Tryz.prog w 0 spare held fuel 221 cs = some x → ∃ y : TBuiltPackage, Rep w (Live w) y.enc cs := by
  intro fuel cs x h
  obtain ⟨hl, n0, rfl, hf⟩ := open_F Tryz.underlying221 h
  rw [cells221] at hl
  obtain ⟨z0, y0⟩ := hf 0 _ rfl
  replace y0 : DataW.trod enc Tryz.prog w 0 spare held n0 9 ((cs.drop 0).take (Tryz.prog.cellsOf 9)) = some z0 := y0
  rw [cells9] at y0
  obtain ⟨x0, r0⟩ := open_S Tryz.underlying9 y0
  obtain ⟨z1, y1⟩ := hf 1 _ rfl
  replace y1 : DataW.trod enc Tryz.prog w 0 spare held n0 9 ((cs.drop 1).take (Tryz.prog.cellsOf 9)) = some z1 := y1
  rw [cells9] at y1
  obtain ⟨x1, r1⟩ := open_S Tryz.underlying9 y1
  obtain ⟨z2, y2⟩ := hf 2 _ rfl
  replace y2 : DataW.trod enc Tryz.prog w 0 spare held n0 218 ((cs.drop 2).take (Tryz.prog.cellsOf 218)) = some z2 := y2
  rw [cells218] at y2
  obtain ⟨x2, r2⟩ := open_L (ea := TUnit.enc) Tryz.underlying218 cells315 (by decide) TUnit.width (fun n cs x _ hq => openUnit_c hq) y2
  obtain ⟨z3, y3⟩ := hf 3 _ rfl
  replace y3 : DataW.trod enc Tryz.prog w 0 spare held n0 219 ((cs.drop 3).take (Tryz.prog.cellsOf 219)) = some z3 := y3
  rw [cells219] at y3
  obtain ⟨x3, r3⟩ := open_L (ea := TUnitError.enc) Tryz.underlying219 cells318 (by decide) TUnitError.width (fun n cs x _ hq => openUnitError_c hq) y3
  refine ⟨⟨x0, x1, x2, x3⟩, ?_⟩
  rw [TBuiltPackage.enc_eq]
  simp only [Rep]
  have hs := RepS.at_ (off := 0) (n := 1) (encS_w _) r0 (RepS.at_ (off := 1) (n := 1) (encS_w _) r1 (RepS.at_ (off := 2) (n := 1) (sl_w _) r2 (RepS.at_ (off := 3) (n := 1) (sl_w _) r3 (RepS.end_ (off := 4) hl))))
  simpa only [List.drop_zero] using hs
theorem cells63 : Tryz.prog.cellsOf 63 = 1 := by kernel_rfl
theorem cells61 : Tryz.prog.cellsOf 61 = 1 := by kernel_rfl
set_option maxRecDepth 100000 in
theorem openBuild_c {H : Type} {enc : TypeId × Value → H} {w : World} {spare : Nat → Bool} {held : Bool} : ∀ {fuel : Nat} {cs : List Value} {x : DataW H × List MemPlace}, DataW.trod enc Tryz.prog w 0 spare held fuel 63 cs = some x → ∃ y : TBuild, Rep w (Live w) y.enc cs := by
  intro fuel cs x h
  obtain ⟨hl, n0, rfl, hf⟩ := open_F Tryz.underlying63 h
  rw [cells63] at hl
  obtain ⟨z0, y0⟩ := hf 0 _ rfl
  replace y0 : DataW.trod enc Tryz.prog w 0 spare held n0 61 ((cs.drop 0).take (Tryz.prog.cellsOf 61)) = some z0 := y0
  rw [cells61] at y0
  obtain ⟨x0, r0⟩ := open_L (ea := TBuiltPackage.enc) Tryz.underlying61 cells221 (by decide) TBuiltPackage.width (fun n cs x _ hq => openBuiltPackage_c hq) y0
  refine ⟨⟨x0⟩, ?_⟩
  rw [TBuild.enc_eq]
  simp only [Rep]
  have hs := RepS.at_ (off := 0) (n := 1) (sl_w _) r0 (RepS.end_ (off := 1) hl)
  simpa only [List.drop_zero] using hs
end Go.Proofs.YtkmiecgcibjkbaaGreat
