/- What reads as data of this program's types is a mirror value's tree. No condition. -/
import Derived.Test.YtkmiecgcibjkbaaOpen
import Derived.Test.YtkmiecgcibjkbaaRows
namespace Go.Proofs.Ytkmiecgcibjkbaa
open Go.ChangeShapes Go.WideShapes Go.ChangeAt Go.RowKit
theorem cells149 : Try.prog.cellsOf 149 = 2 := by kernel_rfl
theorem cells3 : Try.prog.cellsOf 3 = 1 := by kernel_rfl
set_option maxRecDepth 100000 in
theorem openInstanceRef_c {H : Type} {enc : TypeId × Value → H} {w : World} {spare : Nat → Bool} {held : Bool} : ∀ {fuel : Nat} {cs : List Value} {x : DataW H × List MemPlace}, DataW.trod enc Try.prog w 0 spare held fuel 149 cs = some x → ∃ y : TInstanceRef, Rep w (Live w) y.enc cs := by
  intro fuel cs x h
  obtain ⟨hl, n0, rfl, hf⟩ := open_F Try.underlying149 h
  rw [cells149] at hl
  obtain ⟨z0, y0⟩ := hf 0 _ rfl
  replace y0 : DataW.trod enc Try.prog w 0 spare held n0 3 ((cs.drop 0).take (Try.prog.cellsOf 3)) = some z0 := y0
  rw [cells3] at y0
  obtain ⟨x0, r0⟩ := open_I Try.underlying3 y0
  obtain ⟨z1, y1⟩ := hf 1 _ rfl
  replace y1 : DataW.trod enc Try.prog w 0 spare held n0 3 ((cs.drop 1).take (Try.prog.cellsOf 3)) = some z1 := y1
  rw [cells3] at y1
  obtain ⟨x1, r1⟩ := open_I Try.underlying3 y1
  refine ⟨⟨x0, x1⟩, ?_⟩
  rw [TInstanceRef.enc_eq]
  simp only [Rep]
  have hs := RepS.at_ (off := 0) (n := 1) (encI_w _) r0 (RepS.at_ (off := 1) (n := 1) (encI_w _) r1 (RepS.end_ (off := 2) hl))
  simpa only [List.drop_zero] using hs
theorem cells151 : Try.prog.cellsOf 151 = 5 := by kernel_rfl
theorem cells81 : Try.prog.cellsOf 81 = 1 := by kernel_rfl
set_option maxRecDepth 100000 in
theorem openEvidence_all {H : Type} {enc : TypeId × Value → H} {w : World} {spare : Nat → Bool} {held : Bool} (n : Nat) : (∀ {cs : List Value} {x : DataW H × List MemPlace}, DataW.trod enc Try.prog w 0 spare held n 151 cs = some x → ∃ y : TEvidence, Rep w (Live w) y.enc cs) := by
  induction n using Nat.strongRecOn with
  | ind fuel ih =>
  have ihEvidence : ∀ m, m < fuel → ∀ {cs : List Value} {x : DataW H × List MemPlace}, DataW.trod enc Try.prog w 0 spare held m 151 cs = some x → ∃ y : TEvidence, Rep w (Live w) y.enc cs := fun m hm => (ih m hm)
  · intro cs x h
    obtain ⟨hl, n0, rfl, hf⟩ := open_F Try.underlying151 h
    rw [cells151] at hl
    obtain ⟨z0, y0⟩ := hf 0 _ rfl
    replace y0 : DataW.trod enc Try.prog w 0 spare held n0 3 ((cs.drop 0).take (Try.prog.cellsOf 3)) = some z0 := y0
    rw [cells3] at y0
    obtain ⟨x0, r0⟩ := open_I Try.underlying3 y0
    obtain ⟨z1, y1⟩ := hf 1 _ rfl
    replace y1 : DataW.trod enc Try.prog w 0 spare held n0 3 ((cs.drop 1).take (Try.prog.cellsOf 3)) = some z1 := y1
    rw [cells3] at y1
    obtain ⟨x1, r1⟩ := open_I Try.underlying3 y1
    obtain ⟨z2, y2⟩ := hf 2 _ rfl
    replace y2 : DataW.trod enc Try.prog w 0 spare held n0 149 ((cs.drop 2).take (Try.prog.cellsOf 149)) = some z2 := y2
    rw [cells149] at y2
    obtain ⟨x2, r2⟩ := openInstanceRef_c y2
    obtain ⟨z3, y3⟩ := hf 3 _ rfl
    replace y3 : DataW.trod enc Try.prog w 0 spare held n0 81 ((cs.drop 4).take (Try.prog.cellsOf 81)) = some z3 := y3
    rw [cells81] at y3
    obtain ⟨x3, r3⟩ := open_L (ea := TEvidence.enc) Try.underlying81 cells151 (by decide) TEvidence.width (fun n cs x hn hq => ihEvidence n (by omega) hq) y3
    refine ⟨⟨x0, x1, x2, x3⟩, ?_⟩
    rw [TEvidence.enc_eq]
    simp only [Rep]
    have hs := RepS.at_ (off := 0) (n := 1) (encI_w _) r0 (RepS.at_ (off := 1) (n := 1) (encI_w _) r1 (RepS.at_ (off := 2) (n := 2) (TInstanceRef.width _) r2 (RepS.at_ (off := 4) (n := 1) (sl_w _) r3 (RepS.end_ (off := 5) hl))))
    simpa only [List.drop_zero] using hs
theorem openEvidence_c {H : Type} {enc : TypeId × Value → H} {w : World} {spare : Nat → Bool} {held : Bool} : ∀ {fuel : Nat} {cs : List Value} {x : DataW H × List MemPlace}, DataW.trod enc Try.prog w 0 spare held fuel 151 cs = some x → ∃ y : TEvidence, Rep w (Live w) y.enc cs := fun {fuel} {_} {_} h => (openEvidence_all fuel) h
theorem cells139 : Try.prog.cellsOf 139 = 3 := by kernel_rfl
theorem cells9 : Try.prog.cellsOf 9 = 1 := by kernel_rfl
set_option maxRecDepth 100000 in
theorem openMethodEntry_c {H : Type} {enc : TypeId × Value → H} {w : World} {spare : Nat → Bool} {held : Bool} : ∀ {fuel : Nat} {cs : List Value} {x : DataW H × List MemPlace}, DataW.trod enc Try.prog w 0 spare held fuel 139 cs = some x → ∃ y : TMethodEntry, Rep w (Live w) y.enc cs := by
  intro fuel cs x h
  obtain ⟨hl, n0, rfl, hf⟩ := open_F Try.underlying139 h
  rw [cells139] at hl
  obtain ⟨z0, y0⟩ := hf 0 _ rfl
  replace y0 : DataW.trod enc Try.prog w 0 spare held n0 9 ((cs.drop 0).take (Try.prog.cellsOf 9)) = some z0 := y0
  rw [cells9] at y0
  obtain ⟨x0, r0⟩ := open_S Try.underlying9 y0
  obtain ⟨z1, y1⟩ := hf 1 _ rfl
  replace y1 : DataW.trod enc Try.prog w 0 spare held n0 9 ((cs.drop 1).take (Try.prog.cellsOf 9)) = some z1 := y1
  rw [cells9] at y1
  obtain ⟨x1, r1⟩ := open_S Try.underlying9 y1
  obtain ⟨z2, y2⟩ := hf 2 _ rfl
  replace y2 : DataW.trod enc Try.prog w 0 spare held n0 3 ((cs.drop 2).take (Try.prog.cellsOf 3)) = some z2 := y2
  rw [cells3] at y2
  obtain ⟨x2, r2⟩ := open_I Try.underlying3 y2
  refine ⟨⟨x0, x1, x2⟩, ?_⟩
  rw [TMethodEntry.enc_eq]
  simp only [Rep]
  have hs := RepS.at_ (off := 0) (n := 1) (encS_w _) r0 (RepS.at_ (off := 1) (n := 1) (encS_w _) r1 (RepS.at_ (off := 2) (n := 1) (encI_w _) r2 (RepS.end_ (off := 3) hl)))
  simpa only [List.drop_zero] using hs
theorem cells80 : Try.prog.cellsOf 80 = 3 := by kernel_rfl
theorem cells78 : Try.prog.cellsOf 78 = 1 := by kernel_rfl
set_option maxRecDepth 100000 in
theorem openType_all {H : Type} {enc : TypeId × Value → H} {w : World} {spare : Nat → Bool} {held : Bool} (n : Nat) : (∀ {cs : List Value} {x : DataW H × List MemPlace}, DataW.trod enc Try.prog w 0 spare held n 80 cs = some x → ∃ y : TType, Rep w (Live w) y.enc cs) := by
  induction n using Nat.strongRecOn with
  | ind fuel ih =>
  have ihType : ∀ m, m < fuel → ∀ {cs : List Value} {x : DataW H × List MemPlace}, DataW.trod enc Try.prog w 0 spare held m 80 cs = some x → ∃ y : TType, Rep w (Live w) y.enc cs := fun m hm => (ih m hm)
  · intro cs x h
    obtain ⟨hl, n0, rfl, hf⟩ := open_F Try.underlying80 h
    rw [cells80] at hl
    obtain ⟨z0, y0⟩ := hf 0 _ rfl
    replace y0 : DataW.trod enc Try.prog w 0 spare held n0 3 ((cs.drop 0).take (Try.prog.cellsOf 3)) = some z0 := y0
    rw [cells3] at y0
    obtain ⟨x0, r0⟩ := open_I Try.underlying3 y0
    obtain ⟨z1, y1⟩ := hf 1 _ rfl
    replace y1 : DataW.trod enc Try.prog w 0 spare held n0 9 ((cs.drop 1).take (Try.prog.cellsOf 9)) = some z1 := y1
    rw [cells9] at y1
    obtain ⟨x1, r1⟩ := open_S Try.underlying9 y1
    obtain ⟨z2, y2⟩ := hf 2 _ rfl
    replace y2 : DataW.trod enc Try.prog w 0 spare held n0 78 ((cs.drop 2).take (Try.prog.cellsOf 78)) = some z2 := y2
    rw [cells78] at y2
    obtain ⟨x2, r2⟩ := open_L (ea := TType.enc) Try.underlying78 cells80 (by decide) TType.width (fun n cs x hn hq => ihType n (by omega) hq) y2
    refine ⟨⟨x0, x1, x2⟩, ?_⟩
    rw [TType.enc_eq]
    simp only [Rep]
    have hs := RepS.at_ (off := 0) (n := 1) (encI_w _) r0 (RepS.at_ (off := 1) (n := 1) (encS_w _) r1 (RepS.at_ (off := 2) (n := 1) (sl_w _) r2 (RepS.end_ (off := 3) hl)))
    simpa only [List.drop_zero] using hs
theorem openType_c {H : Type} {enc : TypeId × Value → H} {w : World} {spare : Nat → Bool} {held : Bool} : ∀ {fuel : Nat} {cs : List Value} {x : DataW H × List MemPlace}, DataW.trod enc Try.prog w 0 spare held fuel 80 cs = some x → ∃ y : TType, Rep w (Live w) y.enc cs := fun {fuel} {_} {_} h => (openType_all fuel) h
theorem cells154 : Try.prog.cellsOf 154 = 13 := by kernel_rfl
theorem cells46 : Try.prog.cellsOf 46 = 1 := by kernel_rfl
theorem cells85 : Try.prog.cellsOf 85 = 11 := by kernel_rfl
theorem cells82 : Try.prog.cellsOf 82 = 1 := by kernel_rfl
theorem cells83 : Try.prog.cellsOf 83 = 1 := by kernel_rfl
set_option maxRecDepth 100000 in
theorem openCoreArmCore_all {H : Type} {enc : TypeId × Value → H} {w : World} {spare : Nat → Bool} {held : Bool} (n : Nat) : (∀ {cs : List Value} {x : DataW H × List MemPlace}, DataW.trod enc Try.prog w 0 spare held n 154 cs = some x → ∃ y : TCoreArm, Rep w (Live w) y.enc cs) ∧ (∀ {cs : List Value} {x : DataW H × List MemPlace}, DataW.trod enc Try.prog w 0 spare held n 85 cs = some x → ∃ y : TCore, Rep w (Live w) y.enc cs) := by
  induction n using Nat.strongRecOn with
  | ind fuel ih =>
  have ihCoreArm : ∀ m, m < fuel → ∀ {cs : List Value} {x : DataW H × List MemPlace}, DataW.trod enc Try.prog w 0 spare held m 154 cs = some x → ∃ y : TCoreArm, Rep w (Live w) y.enc cs := fun m hm => (ih m hm).1
  have ihCore : ∀ m, m < fuel → ∀ {cs : List Value} {x : DataW H × List MemPlace}, DataW.trod enc Try.prog w 0 spare held m 85 cs = some x → ∃ y : TCore, Rep w (Live w) y.enc cs := fun m hm => (ih m hm).2
  refine ⟨?_, ?_⟩
  · intro cs x h
    obtain ⟨hl, n0, rfl, hf⟩ := open_F Try.underlying154 h
    rw [cells154] at hl
    obtain ⟨z0, y0⟩ := hf 0 _ rfl
    replace y0 : DataW.trod enc Try.prog w 0 spare held n0 9 ((cs.drop 0).take (Try.prog.cellsOf 9)) = some z0 := y0
    rw [cells9] at y0
    obtain ⟨x0, r0⟩ := open_S Try.underlying9 y0
    obtain ⟨z1, y1⟩ := hf 1 _ rfl
    replace y1 : DataW.trod enc Try.prog w 0 spare held n0 46 ((cs.drop 1).take (Try.prog.cellsOf 46)) = some z1 := y1
    rw [cells46] at y1
    obtain ⟨x1, r1⟩ := open_L (ea := encS) Try.underlying46 cells9 (by decide) encS_w (fun n cs x _ hq => open_S Try.underlying9 hq) y1
    obtain ⟨z2, y2⟩ := hf 2 _ rfl
    replace y2 : DataW.trod enc Try.prog w 0 spare held n0 85 ((cs.drop 2).take (Try.prog.cellsOf 85)) = some z2 := y2
    rw [cells85] at y2
    obtain ⟨x2, r2⟩ := ihCore n0 (by omega) y2
    refine ⟨⟨x0, x1, x2⟩, ?_⟩
    rw [TCoreArm.enc_eq]
    simp only [Rep]
    have hs := RepS.at_ (off := 0) (n := 1) (encS_w _) r0 (RepS.at_ (off := 1) (n := 1) (sl_w _) r1 (RepS.at_ (off := 2) (n := 11) (TCore.width _) r2 (RepS.end_ (off := 13) hl)))
    simpa only [List.drop_zero] using hs
  · intro cs x h
    obtain ⟨hl, n0, rfl, hf⟩ := open_F Try.underlying85 h
    rw [cells85] at hl
    obtain ⟨z0, y0⟩ := hf 0 _ rfl
    replace y0 : DataW.trod enc Try.prog w 0 spare held n0 3 ((cs.drop 0).take (Try.prog.cellsOf 3)) = some z0 := y0
    rw [cells3] at y0
    obtain ⟨x0, r0⟩ := open_I Try.underlying3 y0
    obtain ⟨z1, y1⟩ := hf 1 _ rfl
    replace y1 : DataW.trod enc Try.prog w 0 spare held n0 9 ((cs.drop 1).take (Try.prog.cellsOf 9)) = some z1 := y1
    rw [cells9] at y1
    obtain ⟨x1, r1⟩ := open_S Try.underlying9 y1
    obtain ⟨z2, y2⟩ := hf 2 _ rfl
    replace y2 : DataW.trod enc Try.prog w 0 spare held n0 9 ((cs.drop 2).take (Try.prog.cellsOf 9)) = some z2 := y2
    rw [cells9] at y2
    obtain ⟨x2, r2⟩ := open_S Try.underlying9 y2
    obtain ⟨z3, y3⟩ := hf 3 _ rfl
    replace y3 : DataW.trod enc Try.prog w 0 spare held n0 3 ((cs.drop 3).take (Try.prog.cellsOf 3)) = some z3 := y3
    rw [cells3] at y3
    obtain ⟨x3, r3⟩ := open_I Try.underlying3 y3
    obtain ⟨z4, y4⟩ := hf 4 _ rfl
    replace y4 : DataW.trod enc Try.prog w 0 spare held n0 80 ((cs.drop 4).take (Try.prog.cellsOf 80)) = some z4 := y4
    rw [cells80] at y4
    obtain ⟨x4, r4⟩ := openType_c y4
    obtain ⟨z5, y5⟩ := hf 5 _ rfl
    replace y5 : DataW.trod enc Try.prog w 0 spare held n0 78 ((cs.drop 7).take (Try.prog.cellsOf 78)) = some z5 := y5
    rw [cells78] at y5
    obtain ⟨x5, r5⟩ := open_L (ea := TType.enc) Try.underlying78 cells80 (by decide) TType.width (fun n cs x _ hq => openType_c hq) y5
    obtain ⟨z6, y6⟩ := hf 6 _ rfl
    replace y6 : DataW.trod enc Try.prog w 0 spare held n0 81 ((cs.drop 8).take (Try.prog.cellsOf 81)) = some z6 := y6
    rw [cells81] at y6
    obtain ⟨x6, r6⟩ := open_L (ea := TEvidence.enc) Try.underlying81 cells151 (by decide) TEvidence.width (fun n cs x _ hq => openEvidence_c hq) y6
    obtain ⟨z7, y7⟩ := hf 7 _ rfl
    replace y7 : DataW.trod enc Try.prog w 0 spare held n0 82 ((cs.drop 9).take (Try.prog.cellsOf 82)) = some z7 := y7
    rw [cells82] at y7
    obtain ⟨x7, r7⟩ := open_L (ea := TCore.enc) Try.underlying82 cells85 (by decide) TCore.width (fun n cs x hn hq => ihCore n (by omega) hq) y7
    obtain ⟨z8, y8⟩ := hf 8 _ rfl
    replace y8 : DataW.trod enc Try.prog w 0 spare held n0 83 ((cs.drop 10).take (Try.prog.cellsOf 83)) = some z8 := y8
    rw [cells83] at y8
    obtain ⟨x8, r8⟩ := open_L (ea := TCoreArm.enc) Try.underlying83 cells154 (by decide) TCoreArm.width (fun n cs x hn hq => ihCoreArm n (by omega) hq) y8
    refine ⟨⟨x0, x1, x2, x3, x4, x5, x6, x7, x8⟩, ?_⟩
    rw [TCore.enc_eq]
    simp only [Rep]
    have hs := RepS.at_ (off := 0) (n := 1) (encI_w _) r0 (RepS.at_ (off := 1) (n := 1) (encS_w _) r1 (RepS.at_ (off := 2) (n := 1) (encS_w _) r2 (RepS.at_ (off := 3) (n := 1) (encI_w _) r3 (RepS.at_ (off := 4) (n := 3) (TType.width _) r4 (RepS.at_ (off := 7) (n := 1) (sl_w _) r5 (RepS.at_ (off := 8) (n := 1) (sl_w _) r6 (RepS.at_ (off := 9) (n := 1) (sl_w _) r7 (RepS.at_ (off := 10) (n := 1) (sl_w _) r8 (RepS.end_ (off := 11) hl)))))))))
    simpa only [List.drop_zero] using hs
theorem openCoreArm_c {H : Type} {enc : TypeId × Value → H} {w : World} {spare : Nat → Bool} {held : Bool} : ∀ {fuel : Nat} {cs : List Value} {x : DataW H × List MemPlace}, DataW.trod enc Try.prog w 0 spare held fuel 154 cs = some x → ∃ y : TCoreArm, Rep w (Live w) y.enc cs := fun {fuel} {_} {_} h => (openCoreArmCore_all fuel).1 h
theorem openCore_c {H : Type} {enc : TypeId × Value → H} {w : World} {spare : Nat → Bool} {held : Bool} : ∀ {fuel : Nat} {cs : List Value} {x : DataW H × List MemPlace}, DataW.trod enc Try.prog w 0 spare held fuel 85 cs = some x → ∃ y : TCore, Rep w (Live w) y.enc cs := fun {fuel} {_} {_} h => (openCoreArmCore_all fuel).2 h
theorem cells91 : Try.prog.cellsOf 91 = 5 := by kernel_rfl
theorem cells89 : Try.prog.cellsOf 89 = 1 := by kernel_rfl
set_option maxRecDepth 100000 in
theorem openMethodTable_c {H : Type} {enc : TypeId × Value → H} {w : World} {spare : Nat → Bool} {held : Bool} : ∀ {fuel : Nat} {cs : List Value} {x : DataW H × List MemPlace}, DataW.trod enc Try.prog w 0 spare held fuel 91 cs = some x → ∃ y : TMethodTable, Rep w (Live w) y.enc cs := by
  intro fuel cs x h
  obtain ⟨hl, n0, rfl, hf⟩ := open_F Try.underlying91 h
  rw [cells91] at hl
  obtain ⟨z0, y0⟩ := hf 0 _ rfl
  replace y0 : DataW.trod enc Try.prog w 0 spare held n0 9 ((cs.drop 0).take (Try.prog.cellsOf 9)) = some z0 := y0
  rw [cells9] at y0
  obtain ⟨x0, r0⟩ := open_S Try.underlying9 y0
  obtain ⟨z1, y1⟩ := hf 1 _ rfl
  replace y1 : DataW.trod enc Try.prog w 0 spare held n0 80 ((cs.drop 1).take (Try.prog.cellsOf 80)) = some z1 := y1
  rw [cells80] at y1
  obtain ⟨x1, r1⟩ := openType_c y1
  obtain ⟨z2, y2⟩ := hf 2 _ rfl
  replace y2 : DataW.trod enc Try.prog w 0 spare held n0 89 ((cs.drop 4).take (Try.prog.cellsOf 89)) = some z2 := y2
  rw [cells89] at y2
  obtain ⟨x2, r2⟩ := open_L (ea := TMethodEntry.enc) Try.underlying89 cells139 (by decide) TMethodEntry.width (fun n cs x _ hq => openMethodEntry_c hq) y2
  refine ⟨⟨x0, x1, x2⟩, ?_⟩
  rw [TMethodTable.enc_eq]
  simp only [Rep]
  have hs := RepS.at_ (off := 0) (n := 1) (encS_w _) r0 (RepS.at_ (off := 1) (n := 3) (TType.width _) r1 (RepS.at_ (off := 4) (n := 1) (sl_w _) r2 (RepS.end_ (off := 5) hl)))
  simpa only [List.drop_zero] using hs
theorem cells87 : Try.prog.cellsOf 87 = 14 := by kernel_rfl
set_option maxRecDepth 100000 in
theorem openSpecialization_c {H : Type} {enc : TypeId × Value → H} {w : World} {spare : Nat → Bool} {held : Bool} : ∀ {fuel : Nat} {cs : List Value} {x : DataW H × List MemPlace}, DataW.trod enc Try.prog w 0 spare held fuel 87 cs = some x → ∃ y : TSpecialization, Rep w (Live w) y.enc cs := by
  intro fuel cs x h
  obtain ⟨hl, n0, rfl, hf⟩ := open_F Try.underlying87 h
  rw [cells87] at hl
  obtain ⟨z0, y0⟩ := hf 0 _ rfl
  replace y0 : DataW.trod enc Try.prog w 0 spare held n0 3 ((cs.drop 0).take (Try.prog.cellsOf 3)) = some z0 := y0
  rw [cells3] at y0
  obtain ⟨x0, r0⟩ := open_I Try.underlying3 y0
  obtain ⟨z1, y1⟩ := hf 1 _ rfl
  replace y1 : DataW.trod enc Try.prog w 0 spare held n0 78 ((cs.drop 1).take (Try.prog.cellsOf 78)) = some z1 := y1
  rw [cells78] at y1
  obtain ⟨x1, r1⟩ := open_L (ea := TType.enc) Try.underlying78 cells80 (by decide) TType.width (fun n cs x _ hq => openType_c hq) y1
  obtain ⟨z2, y2⟩ := hf 2 _ rfl
  replace y2 : DataW.trod enc Try.prog w 0 spare held n0 46 ((cs.drop 2).take (Try.prog.cellsOf 46)) = some z2 := y2
  rw [cells46] at y2
  obtain ⟨x2, r2⟩ := open_L (ea := encS) Try.underlying46 cells9 (by decide) encS_w (fun n cs x _ hq => open_S Try.underlying9 hq) y2
  obtain ⟨z3, y3⟩ := hf 3 _ rfl
  replace y3 : DataW.trod enc Try.prog w 0 spare held n0 85 ((cs.drop 3).take (Try.prog.cellsOf 85)) = some z3 := y3
  rw [cells85] at y3
  obtain ⟨x3, r3⟩ := openCore_c y3
  refine ⟨⟨x0, x1, x2, x3⟩, ?_⟩
  rw [TSpecialization.enc_eq]
  simp only [Rep]
  have hs := RepS.at_ (off := 0) (n := 1) (encI_w _) r0 (RepS.at_ (off := 1) (n := 1) (sl_w _) r1 (RepS.at_ (off := 2) (n := 1) (sl_w _) r2 (RepS.at_ (off := 3) (n := 11) (TCore.width _) r3 (RepS.end_ (off := 14) hl))))
  simpa only [List.drop_zero] using hs
theorem cells25 : Try.prog.cellsOf 25 = 2 := by kernel_rfl
theorem cells22 : Try.prog.cellsOf 22 = 1 := by kernel_rfl
theorem cells23 : Try.prog.cellsOf 23 = 1 := by kernel_rfl
set_option maxRecDepth 100000 in
theorem openMonoProgram_c {H : Type} {enc : TypeId × Value → H} {w : World} {spare : Nat → Bool} {held : Bool} : ∀ {fuel : Nat} {cs : List Value} {x : DataW H × List MemPlace}, DataW.trod enc Try.prog w 0 spare held fuel 25 cs = some x → ∃ y : TMonoProgram, Rep w (Live w) y.enc cs := by
  intro fuel cs x h
  obtain ⟨hl, n0, rfl, hf⟩ := open_F Try.underlying25 h
  rw [cells25] at hl
  obtain ⟨z0, y0⟩ := hf 0 _ rfl
  replace y0 : DataW.trod enc Try.prog w 0 spare held n0 22 ((cs.drop 0).take (Try.prog.cellsOf 22)) = some z0 := y0
  rw [cells22] at y0
  obtain ⟨x0, r0⟩ := open_L (ea := TSpecialization.enc) Try.underlying22 cells87 (by decide) TSpecialization.width (fun n cs x _ hq => openSpecialization_c hq) y0
  obtain ⟨z1, y1⟩ := hf 1 _ rfl
  replace y1 : DataW.trod enc Try.prog w 0 spare held n0 23 ((cs.drop 1).take (Try.prog.cellsOf 23)) = some z1 := y1
  rw [cells23] at y1
  obtain ⟨x1, r1⟩ := open_L (ea := TMethodTable.enc) Try.underlying23 cells91 (by decide) TMethodTable.width (fun n cs x _ hq => openMethodTable_c hq) y1
  refine ⟨⟨x0, x1⟩, ?_⟩
  rw [TMonoProgram.enc_eq]
  simp only [Rep]
  have hs := RepS.at_ (off := 0) (n := 1) (sl_w _) r0 (RepS.at_ (off := 1) (n := 1) (sl_w _) r1 (RepS.end_ (off := 2) hl))
  simpa only [List.drop_zero] using hs
end Go.Proofs.Ytkmiecgcibjkbaa
