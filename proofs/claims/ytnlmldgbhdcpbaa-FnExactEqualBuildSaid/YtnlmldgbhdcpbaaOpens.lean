/- What reads as data of this program's types is a mirror value's tree. No condition. -/
import Derived.Test.YtnlmldgbhdcpbaaOpen
import Derived.Test.YtnlmldgbhdcpbaaRows
namespace Go.Proofs.Ytnlmldgbhdcpbaa
open Go.ChangeShapes Go.WideShapes Go.ChangeAt Go.RowKit
theorem cells114 : Try.prog.cellsOf 114 = 2 := by kernel_rfl
theorem cells3 : Try.prog.cellsOf 3 = 1 := by kernel_rfl
set_option maxRecDepth 100000 in
theorem openInstanceRef_c {H : Type} {enc : TypeId × Value → H} {w : World} {spare : Nat → Bool} {held : Bool} : ∀ {fuel : Nat} {cs : List Value} {x : DataW H × List MemPlace}, DataW.trod enc Try.prog w 0 spare held fuel 114 cs = some x → ∃ y : TInstanceRef, Rep w (Live w) y.enc cs := by
  intro fuel cs x h
  obtain ⟨hl, n0, rfl, hf⟩ := open_F Try.underlying114 h
  rw [cells114] at hl
  obtain ⟨z0, y0⟩ := hf 0 _ rfl
  replace y0 : DataW.trod enc Try.prog w 0 spare held n0 3 ((cs.drop 0).take (Try.prog.cellsOf 3)) = some z0 := y0
  rw [cells3] at y0
  obtain ⟨x0, r0⟩ := open_I Try.underlying3 y0
  obtain ⟨z1, y1⟩ := hf 1 _ rfl
  replace y1 : DataW.trod enc Try.prog w 0 spare held n0 3 ((cs.drop 1).take (Try.prog.cellsOf 3)) = some z1 := y1
  rw [cells3] at y1
  obtain ⟨x1, r1⟩ := open_I Try.underlying3 y1
  refine ⟨⟨x0, x1⟩, ?_⟩
  rw [TInstanceRef.enc_eq]
  simp only [Rep]
  have hs := RepS.at_ (off := 0) (n := 1) (encI_w _) r0 (RepS.at_ (off := 1) (n := 1) (encI_w _) r1 (RepS.end_ (off := 2) hl))
  simpa only [List.drop_zero] using hs
theorem cells117 : Try.prog.cellsOf 117 = 5 := by kernel_rfl
theorem cells88 : Try.prog.cellsOf 88 = 1 := by kernel_rfl
theorem cells115 : Try.prog.cellsOf 115 = 1 := by kernel_rfl
set_option maxRecDepth 100000 in
theorem openDictionary_all {H : Type} {enc : TypeId × Value → H} {w : World} {spare : Nat → Bool} {held : Bool} (n : Nat) : (∀ {cs : List Value} {x : DataW H × List MemPlace}, DataW.trod enc Try.prog w 0 spare held n 117 cs = some x → ∃ y : TDictionary, Rep w (Live w) y.enc cs) := by
  induction n using Nat.strongRecOn with
  | ind fuel ih =>
  have ihDictionary : ∀ m, m < fuel → ∀ {cs : List Value} {x : DataW H × List MemPlace}, DataW.trod enc Try.prog w 0 spare held m 117 cs = some x → ∃ y : TDictionary, Rep w (Live w) y.enc cs := fun m hm => (ih m hm)
  · intro cs x h
    obtain ⟨hl, n0, rfl, hf⟩ := open_F Try.underlying117 h
    rw [cells117] at hl
    obtain ⟨z0, y0⟩ := hf 0 _ rfl
    replace y0 : DataW.trod enc Try.prog w 0 spare held n0 3 ((cs.drop 0).take (Try.prog.cellsOf 3)) = some z0 := y0
    rw [cells3] at y0
    obtain ⟨x0, r0⟩ := open_I Try.underlying3 y0
    obtain ⟨z1, y1⟩ := hf 1 _ rfl
    replace y1 : DataW.trod enc Try.prog w 0 spare held n0 114 ((cs.drop 1).take (Try.prog.cellsOf 114)) = some z1 := y1
    rw [cells114] at y1
    obtain ⟨x1, r1⟩ := openInstanceRef_c y1
    obtain ⟨z2, y2⟩ := hf 2 _ rfl
    replace y2 : DataW.trod enc Try.prog w 0 spare held n0 88 ((cs.drop 3).take (Try.prog.cellsOf 88)) = some z2 := y2
    rw [cells88] at y2
    obtain ⟨x2, r2⟩ := open_L (ea := encI) Try.underlying88 cells3 (by decide) encI_w (fun n cs x _ hq => open_I Try.underlying3 hq) y2
    obtain ⟨z3, y3⟩ := hf 3 _ rfl
    replace y3 : DataW.trod enc Try.prog w 0 spare held n0 115 ((cs.drop 4).take (Try.prog.cellsOf 115)) = some z3 := y3
    rw [cells115] at y3
    obtain ⟨x3, r3⟩ := open_L (ea := TDictionary.enc) Try.underlying115 cells117 (by decide) TDictionary.width (fun n cs x hn hq => ihDictionary n (by omega) hq) y3
    refine ⟨⟨x0, x1, x2, x3⟩, ?_⟩
    rw [TDictionary.enc_eq]
    simp only [Rep]
    have hs := RepS.at_ (off := 0) (n := 1) (encI_w _) r0 (RepS.at_ (off := 1) (n := 2) (TInstanceRef.width _) r1 (RepS.at_ (off := 3) (n := 1) (sl_w _) r2 (RepS.at_ (off := 4) (n := 1) (sl_w _) r3 (RepS.end_ (off := 5) hl))))
    simpa only [List.drop_zero] using hs
theorem openDictionary_c {H : Type} {enc : TypeId × Value → H} {w : World} {spare : Nat → Bool} {held : Bool} : ∀ {fuel : Nat} {cs : List Value} {x : DataW H × List MemPlace}, DataW.trod enc Try.prog w 0 spare held fuel 117 cs = some x → ∃ y : TDictionary, Rep w (Live w) y.enc cs := fun {fuel} {_} {_} h => (openDictionary_all fuel) h
theorem cells305 : Try.prog.cellsOf 305 = 5 := by kernel_rfl
theorem cells209 : Try.prog.cellsOf 209 = 1 := by kernel_rfl
set_option maxRecDepth 100000 in
theorem openEvidence_all {H : Type} {enc : TypeId × Value → H} {w : World} {spare : Nat → Bool} {held : Bool} (n : Nat) : (∀ {cs : List Value} {x : DataW H × List MemPlace}, DataW.trod enc Try.prog w 0 spare held n 305 cs = some x → ∃ y : TEvidence, Rep w (Live w) y.enc cs) := by
  induction n using Nat.strongRecOn with
  | ind fuel ih =>
  have ihEvidence : ∀ m, m < fuel → ∀ {cs : List Value} {x : DataW H × List MemPlace}, DataW.trod enc Try.prog w 0 spare held m 305 cs = some x → ∃ y : TEvidence, Rep w (Live w) y.enc cs := fun m hm => (ih m hm)
  · intro cs x h
    obtain ⟨hl, n0, rfl, hf⟩ := open_F Try.underlying305 h
    rw [cells305] at hl
    obtain ⟨z0, y0⟩ := hf 0 _ rfl
    replace y0 : DataW.trod enc Try.prog w 0 spare held n0 3 ((cs.drop 0).take (Try.prog.cellsOf 3)) = some z0 := y0
    rw [cells3] at y0
    obtain ⟨x0, r0⟩ := open_I Try.underlying3 y0
    obtain ⟨z1, y1⟩ := hf 1 _ rfl
    replace y1 : DataW.trod enc Try.prog w 0 spare held n0 3 ((cs.drop 1).take (Try.prog.cellsOf 3)) = some z1 := y1
    rw [cells3] at y1
    obtain ⟨x1, r1⟩ := open_I Try.underlying3 y1
    obtain ⟨z2, y2⟩ := hf 2 _ rfl
    replace y2 : DataW.trod enc Try.prog w 0 spare held n0 114 ((cs.drop 2).take (Try.prog.cellsOf 114)) = some z2 := y2
    rw [cells114] at y2
    obtain ⟨x2, r2⟩ := openInstanceRef_c y2
    obtain ⟨z3, y3⟩ := hf 3 _ rfl
    replace y3 : DataW.trod enc Try.prog w 0 spare held n0 209 ((cs.drop 4).take (Try.prog.cellsOf 209)) = some z3 := y3
    rw [cells209] at y3
    obtain ⟨x3, r3⟩ := open_L (ea := TEvidence.enc) Try.underlying209 cells305 (by decide) TEvidence.width (fun n cs x hn hq => ihEvidence n (by omega) hq) y3
    refine ⟨⟨x0, x1, x2, x3⟩, ?_⟩
    rw [TEvidence.enc_eq]
    simp only [Rep]
    have hs := RepS.at_ (off := 0) (n := 1) (encI_w _) r0 (RepS.at_ (off := 1) (n := 1) (encI_w _) r1 (RepS.at_ (off := 2) (n := 2) (TInstanceRef.width _) r2 (RepS.at_ (off := 4) (n := 1) (sl_w _) r3 (RepS.end_ (off := 5) hl))))
    simpa only [List.drop_zero] using hs
theorem openEvidence_c {H : Type} {enc : TypeId × Value → H} {w : World} {spare : Nat → Bool} {held : Bool} : ∀ {fuel : Nat} {cs : List Value} {x : DataW H × List MemPlace}, DataW.trod enc Try.prog w 0 spare held fuel 305 cs = some x → ∃ y : TEvidence, Rep w (Live w) y.enc cs := fun {fuel} {_} {_} h => (openEvidence_all fuel) h
theorem cells284 : Try.prog.cellsOf 284 = 5 := by kernel_rfl
theorem cells9 : Try.prog.cellsOf 9 = 1 := by kernel_rfl
set_option maxRecDepth 100000 in
theorem openInstr_c {H : Type} {enc : TypeId × Value → H} {w : World} {spare : Nat → Bool} {held : Bool} : ∀ {fuel : Nat} {cs : List Value} {x : DataW H × List MemPlace}, DataW.trod enc Try.prog w 0 spare held fuel 284 cs = some x → ∃ y : TInstr, Rep w (Live w) y.enc cs := by
  intro fuel cs x h
  obtain ⟨hl, n0, rfl, hf⟩ := open_F Try.underlying284 h
  rw [cells284] at hl
  obtain ⟨z0, y0⟩ := hf 0 _ rfl
  replace y0 : DataW.trod enc Try.prog w 0 spare held n0 3 ((cs.drop 0).take (Try.prog.cellsOf 3)) = some z0 := y0
  rw [cells3] at y0
  obtain ⟨x0, r0⟩ := open_I Try.underlying3 y0
  obtain ⟨z1, y1⟩ := hf 1 _ rfl
  replace y1 : DataW.trod enc Try.prog w 0 spare held n0 3 ((cs.drop 1).take (Try.prog.cellsOf 3)) = some z1 := y1
  rw [cells3] at y1
  obtain ⟨x1, r1⟩ := open_I Try.underlying3 y1
  obtain ⟨z2, y2⟩ := hf 2 _ rfl
  replace y2 : DataW.trod enc Try.prog w 0 spare held n0 3 ((cs.drop 2).take (Try.prog.cellsOf 3)) = some z2 := y2
  rw [cells3] at y2
  obtain ⟨x2, r2⟩ := open_I Try.underlying3 y2
  obtain ⟨z3, y3⟩ := hf 3 _ rfl
  replace y3 : DataW.trod enc Try.prog w 0 spare held n0 9 ((cs.drop 3).take (Try.prog.cellsOf 9)) = some z3 := y3
  rw [cells9] at y3
  obtain ⟨x3, r3⟩ := open_S Try.underlying9 y3
  obtain ⟨z4, y4⟩ := hf 4 _ rfl
  replace y4 : DataW.trod enc Try.prog w 0 spare held n0 9 ((cs.drop 4).take (Try.prog.cellsOf 9)) = some z4 := y4
  rw [cells9] at y4
  obtain ⟨x4, r4⟩ := open_S Try.underlying9 y4
  refine ⟨⟨x0, x1, x2, x3, x4⟩, ?_⟩
  rw [TInstr.enc_eq]
  simp only [Rep]
  have hs := RepS.at_ (off := 0) (n := 1) (encI_w _) r0 (RepS.at_ (off := 1) (n := 1) (encI_w _) r1 (RepS.at_ (off := 2) (n := 1) (encI_w _) r2 (RepS.at_ (off := 3) (n := 1) (encS_w _) r3 (RepS.at_ (off := 4) (n := 1) (encS_w _) r4 (RepS.end_ (off := 5) hl)))))
  simpa only [List.drop_zero] using hs
theorem cells188 : Try.prog.cellsOf 188 = 2 := by kernel_rfl
theorem cells186 : Try.prog.cellsOf 186 = 1 := by kernel_rfl
set_option maxRecDepth 100000 in
theorem openCode_c {H : Type} {enc : TypeId × Value → H} {w : World} {spare : Nat → Bool} {held : Bool} : ∀ {fuel : Nat} {cs : List Value} {x : DataW H × List MemPlace}, DataW.trod enc Try.prog w 0 spare held fuel 188 cs = some x → ∃ y : TCode, Rep w (Live w) y.enc cs := by
  intro fuel cs x h
  obtain ⟨hl, n0, rfl, hf⟩ := open_F Try.underlying188 h
  rw [cells188] at hl
  obtain ⟨z0, y0⟩ := hf 0 _ rfl
  replace y0 : DataW.trod enc Try.prog w 0 spare held n0 3 ((cs.drop 0).take (Try.prog.cellsOf 3)) = some z0 := y0
  rw [cells3] at y0
  obtain ⟨x0, r0⟩ := open_I Try.underlying3 y0
  obtain ⟨z1, y1⟩ := hf 1 _ rfl
  replace y1 : DataW.trod enc Try.prog w 0 spare held n0 186 ((cs.drop 1).take (Try.prog.cellsOf 186)) = some z1 := y1
  rw [cells186] at y1
  obtain ⟨x1, r1⟩ := open_L (ea := TInstr.enc) Try.underlying186 cells284 (by decide) TInstr.width (fun n cs x _ hq => openInstr_c hq) y1
  refine ⟨⟨x0, x1⟩, ?_⟩
  rw [TCode.enc_eq]
  simp only [Rep]
  have hs := RepS.at_ (off := 0) (n := 1) (encI_w _) r0 (RepS.at_ (off := 1) (n := 1) (sl_w _) r1 (RepS.end_ (off := 2) hl))
  simpa only [List.drop_zero] using hs
theorem cells286 : Try.prog.cellsOf 286 = 3 := by kernel_rfl
set_option maxRecDepth 100000 in
theorem openMethodEntry_c {H : Type} {enc : TypeId × Value → H} {w : World} {spare : Nat → Bool} {held : Bool} : ∀ {fuel : Nat} {cs : List Value} {x : DataW H × List MemPlace}, DataW.trod enc Try.prog w 0 spare held fuel 286 cs = some x → ∃ y : TMethodEntry, Rep w (Live w) y.enc cs := by
  intro fuel cs x h
  obtain ⟨hl, n0, rfl, hf⟩ := open_F Try.underlying286 h
  rw [cells286] at hl
  obtain ⟨z0, y0⟩ := hf 0 _ rfl
  replace y0 : DataW.trod enc Try.prog w 0 spare held n0 9 ((cs.drop 0).take (Try.prog.cellsOf 9)) = some z0 := y0
  rw [cells9] at y0
  obtain ⟨x0, r0⟩ := open_S Try.underlying9 y0
  obtain ⟨z1, y1⟩ := hf 1 _ rfl
  replace y1 : DataW.trod enc Try.prog w 0 spare held n0 9 ((cs.drop 1).take (Try.prog.cellsOf 9)) = some z1 := y1
  rw [cells9] at y1
  obtain ⟨x1, r1⟩ := open_S Try.underlying9 y1
  obtain ⟨z2, y2⟩ := hf 2 _ rfl
  replace y2 : DataW.trod enc Try.prog w 0 spare held n0 3 ((cs.drop 2).take (Try.prog.cellsOf 3)) = some z2 := y2
  rw [cells3] at y2
  obtain ⟨x2, r2⟩ := open_I Try.underlying3 y2
  refine ⟨⟨x0, x1, x2⟩, ?_⟩
  rw [TMethodEntry.enc_eq]
  simp only [Rep]
  have hs := RepS.at_ (off := 0) (n := 1) (encS_w _) r0 (RepS.at_ (off := 1) (n := 1) (encS_w _) r1 (RepS.at_ (off := 2) (n := 1) (encI_w _) r2 (RepS.end_ (off := 3) hl)))
  simpa only [List.drop_zero] using hs
theorem cells192 : Try.prog.cellsOf 192 = 3 := by kernel_rfl
theorem cells190 : Try.prog.cellsOf 190 = 1 := by kernel_rfl
set_option maxRecDepth 100000 in
theorem openType_all {H : Type} {enc : TypeId × Value → H} {w : World} {spare : Nat → Bool} {held : Bool} (n : Nat) : (∀ {cs : List Value} {x : DataW H × List MemPlace}, DataW.trod enc Try.prog w 0 spare held n 192 cs = some x → ∃ y : TType, Rep w (Live w) y.enc cs) := by
  induction n using Nat.strongRecOn with
  | ind fuel ih =>
  have ihType : ∀ m, m < fuel → ∀ {cs : List Value} {x : DataW H × List MemPlace}, DataW.trod enc Try.prog w 0 spare held m 192 cs = some x → ∃ y : TType, Rep w (Live w) y.enc cs := fun m hm => (ih m hm)
  · intro cs x h
    obtain ⟨hl, n0, rfl, hf⟩ := open_F Try.underlying192 h
    rw [cells192] at hl
    obtain ⟨z0, y0⟩ := hf 0 _ rfl
    replace y0 : DataW.trod enc Try.prog w 0 spare held n0 3 ((cs.drop 0).take (Try.prog.cellsOf 3)) = some z0 := y0
    rw [cells3] at y0
    obtain ⟨x0, r0⟩ := open_I Try.underlying3 y0
    obtain ⟨z1, y1⟩ := hf 1 _ rfl
    replace y1 : DataW.trod enc Try.prog w 0 spare held n0 9 ((cs.drop 1).take (Try.prog.cellsOf 9)) = some z1 := y1
    rw [cells9] at y1
    obtain ⟨x1, r1⟩ := open_S Try.underlying9 y1
    obtain ⟨z2, y2⟩ := hf 2 _ rfl
    replace y2 : DataW.trod enc Try.prog w 0 spare held n0 190 ((cs.drop 2).take (Try.prog.cellsOf 190)) = some z2 := y2
    rw [cells190] at y2
    obtain ⟨x2, r2⟩ := open_L (ea := TType.enc) Try.underlying190 cells192 (by decide) TType.width (fun n cs x hn hq => ihType n (by omega) hq) y2
    refine ⟨⟨x0, x1, x2⟩, ?_⟩
    rw [TType.enc_eq]
    simp only [Rep]
    have hs := RepS.at_ (off := 0) (n := 1) (encI_w _) r0 (RepS.at_ (off := 1) (n := 1) (encS_w _) r1 (RepS.at_ (off := 2) (n := 1) (sl_w _) r2 (RepS.end_ (off := 3) hl)))
    simpa only [List.drop_zero] using hs
theorem openType_c {H : Type} {enc : TypeId × Value → H} {w : World} {spare : Nat → Bool} {held : Bool} : ∀ {fuel : Nat} {cs : List Value} {x : DataW H × List MemPlace}, DataW.trod enc Try.prog w 0 spare held fuel 192 cs = some x → ∃ y : TType, Rep w (Live w) y.enc cs := fun {fuel} {_} {_} h => (openType_all fuel) h
theorem cells313 : Try.prog.cellsOf 313 = 4 := by kernel_rfl
set_option maxRecDepth 100000 in
theorem openBound_c {H : Type} {enc : TypeId × Value → H} {w : World} {spare : Nat → Bool} {held : Bool} : ∀ {fuel : Nat} {cs : List Value} {x : DataW H × List MemPlace}, DataW.trod enc Try.prog w 0 spare held fuel 313 cs = some x → ∃ y : TBound, Rep w (Live w) y.enc cs := by
  intro fuel cs x h
  obtain ⟨hl, n0, rfl, hf⟩ := open_F Try.underlying313 h
  rw [cells313] at hl
  obtain ⟨z0, y0⟩ := hf 0 _ rfl
  replace y0 : DataW.trod enc Try.prog w 0 spare held n0 9 ((cs.drop 0).take (Try.prog.cellsOf 9)) = some z0 := y0
  rw [cells9] at y0
  obtain ⟨x0, r0⟩ := open_S Try.underlying9 y0
  obtain ⟨z1, y1⟩ := hf 1 _ rfl
  replace y1 : DataW.trod enc Try.prog w 0 spare held n0 192 ((cs.drop 1).take (Try.prog.cellsOf 192)) = some z1 := y1
  rw [cells192] at y1
  obtain ⟨x1, r1⟩ := openType_c y1
  refine ⟨⟨x0, x1⟩, ?_⟩
  rw [TBound.enc_eq]
  simp only [Rep]
  have hs := RepS.at_ (off := 0) (n := 1) (encS_w _) r0 (RepS.at_ (off := 1) (n := 3) (TType.width _) r1 (RepS.end_ (off := 4) hl))
  simpa only [List.drop_zero] using hs
theorem cells308 : Try.prog.cellsOf 308 = 13 := by kernel_rfl
theorem cells135 : Try.prog.cellsOf 135 = 1 := by kernel_rfl
theorem cells213 : Try.prog.cellsOf 213 = 11 := by kernel_rfl
theorem cells210 : Try.prog.cellsOf 210 = 1 := by kernel_rfl
theorem cells211 : Try.prog.cellsOf 211 = 1 := by kernel_rfl
set_option maxRecDepth 100000 in
theorem openCoreArmCore_all {H : Type} {enc : TypeId × Value → H} {w : World} {spare : Nat → Bool} {held : Bool} (n : Nat) : (∀ {cs : List Value} {x : DataW H × List MemPlace}, DataW.trod enc Try.prog w 0 spare held n 308 cs = some x → ∃ y : TCoreArm, Rep w (Live w) y.enc cs) ∧ (∀ {cs : List Value} {x : DataW H × List MemPlace}, DataW.trod enc Try.prog w 0 spare held n 213 cs = some x → ∃ y : TCore, Rep w (Live w) y.enc cs) := by
  induction n using Nat.strongRecOn with
  | ind fuel ih =>
  have ihCoreArm : ∀ m, m < fuel → ∀ {cs : List Value} {x : DataW H × List MemPlace}, DataW.trod enc Try.prog w 0 spare held m 308 cs = some x → ∃ y : TCoreArm, Rep w (Live w) y.enc cs := fun m hm => (ih m hm).1
  have ihCore : ∀ m, m < fuel → ∀ {cs : List Value} {x : DataW H × List MemPlace}, DataW.trod enc Try.prog w 0 spare held m 213 cs = some x → ∃ y : TCore, Rep w (Live w) y.enc cs := fun m hm => (ih m hm).2
  refine ⟨?_, ?_⟩
  · intro cs x h
    obtain ⟨hl, n0, rfl, hf⟩ := open_F Try.underlying308 h
    rw [cells308] at hl
    obtain ⟨z0, y0⟩ := hf 0 _ rfl
    replace y0 : DataW.trod enc Try.prog w 0 spare held n0 9 ((cs.drop 0).take (Try.prog.cellsOf 9)) = some z0 := y0
    rw [cells9] at y0
    obtain ⟨x0, r0⟩ := open_S Try.underlying9 y0
    obtain ⟨z1, y1⟩ := hf 1 _ rfl
    replace y1 : DataW.trod enc Try.prog w 0 spare held n0 135 ((cs.drop 1).take (Try.prog.cellsOf 135)) = some z1 := y1
    rw [cells135] at y1
    obtain ⟨x1, r1⟩ := open_L (ea := encS) Try.underlying135 cells9 (by decide) encS_w (fun n cs x _ hq => open_S Try.underlying9 hq) y1
    obtain ⟨z2, y2⟩ := hf 2 _ rfl
    replace y2 : DataW.trod enc Try.prog w 0 spare held n0 213 ((cs.drop 2).take (Try.prog.cellsOf 213)) = some z2 := y2
    rw [cells213] at y2
    obtain ⟨x2, r2⟩ := ihCore n0 (by omega) y2
    refine ⟨⟨x0, x1, x2⟩, ?_⟩
    rw [TCoreArm.enc_eq]
    simp only [Rep]
    have hs := RepS.at_ (off := 0) (n := 1) (encS_w _) r0 (RepS.at_ (off := 1) (n := 1) (sl_w _) r1 (RepS.at_ (off := 2) (n := 11) (TCore.width _) r2 (RepS.end_ (off := 13) hl)))
    simpa only [List.drop_zero] using hs
  · intro cs x h
    obtain ⟨hl, n0, rfl, hf⟩ := open_F Try.underlying213 h
    rw [cells213] at hl
    obtain ⟨z0, y0⟩ := hf 0 _ rfl
    replace y0 : DataW.trod enc Try.prog w 0 spare held n0 3 ((cs.drop 0).take (Try.prog.cellsOf 3)) = some z0 := y0
    rw [cells3] at y0
    obtain ⟨x0, r0⟩ := open_I Try.underlying3 y0
    obtain ⟨z1, y1⟩ := hf 1 _ rfl
    replace y1 : DataW.trod enc Try.prog w 0 spare held n0 9 ((cs.drop 1).take (Try.prog.cellsOf 9)) = some z1 := y1
    rw [cells9] at y1
    obtain ⟨x1, r1⟩ := open_S Try.underlying9 y1
    obtain ⟨z2, y2⟩ := hf 2 _ rfl
    replace y2 : DataW.trod enc Try.prog w 0 spare held n0 9 ((cs.drop 2).take (Try.prog.cellsOf 9)) = some z2 := y2
    rw [cells9] at y2
    obtain ⟨x2, r2⟩ := open_S Try.underlying9 y2
    obtain ⟨z3, y3⟩ := hf 3 _ rfl
    replace y3 : DataW.trod enc Try.prog w 0 spare held n0 3 ((cs.drop 3).take (Try.prog.cellsOf 3)) = some z3 := y3
    rw [cells3] at y3
    obtain ⟨x3, r3⟩ := open_I Try.underlying3 y3
    obtain ⟨z4, y4⟩ := hf 4 _ rfl
    replace y4 : DataW.trod enc Try.prog w 0 spare held n0 192 ((cs.drop 4).take (Try.prog.cellsOf 192)) = some z4 := y4
    rw [cells192] at y4
    obtain ⟨x4, r4⟩ := openType_c y4
    obtain ⟨z5, y5⟩ := hf 5 _ rfl
    replace y5 : DataW.trod enc Try.prog w 0 spare held n0 190 ((cs.drop 7).take (Try.prog.cellsOf 190)) = some z5 := y5
    rw [cells190] at y5
    obtain ⟨x5, r5⟩ := open_L (ea := TType.enc) Try.underlying190 cells192 (by decide) TType.width (fun n cs x _ hq => openType_c hq) y5
    obtain ⟨z6, y6⟩ := hf 6 _ rfl
    replace y6 : DataW.trod enc Try.prog w 0 spare held n0 209 ((cs.drop 8).take (Try.prog.cellsOf 209)) = some z6 := y6
    rw [cells209] at y6
    obtain ⟨x6, r6⟩ := open_L (ea := TEvidence.enc) Try.underlying209 cells305 (by decide) TEvidence.width (fun n cs x _ hq => openEvidence_c hq) y6
    obtain ⟨z7, y7⟩ := hf 7 _ rfl
    replace y7 : DataW.trod enc Try.prog w 0 spare held n0 210 ((cs.drop 9).take (Try.prog.cellsOf 210)) = some z7 := y7
    rw [cells210] at y7
    obtain ⟨x7, r7⟩ := open_L (ea := TCore.enc) Try.underlying210 cells213 (by decide) TCore.width (fun n cs x hn hq => ihCore n (by omega) hq) y7
    obtain ⟨z8, y8⟩ := hf 8 _ rfl
    replace y8 : DataW.trod enc Try.prog w 0 spare held n0 211 ((cs.drop 10).take (Try.prog.cellsOf 211)) = some z8 := y8
    rw [cells211] at y8
    obtain ⟨x8, r8⟩ := open_L (ea := TCoreArm.enc) Try.underlying211 cells308 (by decide) TCoreArm.width (fun n cs x hn hq => ihCoreArm n (by omega) hq) y8
    refine ⟨⟨x0, x1, x2, x3, x4, x5, x6, x7, x8⟩, ?_⟩
    rw [TCore.enc_eq]
    simp only [Rep]
    have hs := RepS.at_ (off := 0) (n := 1) (encI_w _) r0 (RepS.at_ (off := 1) (n := 1) (encS_w _) r1 (RepS.at_ (off := 2) (n := 1) (encS_w _) r2 (RepS.at_ (off := 3) (n := 1) (encI_w _) r3 (RepS.at_ (off := 4) (n := 3) (TType.width _) r4 (RepS.at_ (off := 7) (n := 1) (sl_w _) r5 (RepS.at_ (off := 8) (n := 1) (sl_w _) r6 (RepS.at_ (off := 9) (n := 1) (sl_w _) r7 (RepS.at_ (off := 10) (n := 1) (sl_w _) r8 (RepS.end_ (off := 11) hl)))))))))
    simpa only [List.drop_zero] using hs
theorem openCoreArm_c {H : Type} {enc : TypeId × Value → H} {w : World} {spare : Nat → Bool} {held : Bool} : ∀ {fuel : Nat} {cs : List Value} {x : DataW H × List MemPlace}, DataW.trod enc Try.prog w 0 spare held fuel 308 cs = some x → ∃ y : TCoreArm, Rep w (Live w) y.enc cs := fun {fuel} {_} {_} h => (openCoreArmCore_all fuel).1 h
theorem openCore_c {H : Type} {enc : TypeId × Value → H} {w : World} {spare : Nat → Bool} {held : Bool} : ∀ {fuel : Nat} {cs : List Value} {x : DataW H × List MemPlace}, DataW.trod enc Try.prog w 0 spare held fuel 213 cs = some x → ∃ y : TCore, Rep w (Live w) y.enc cs := fun {fuel} {_} {_} h => (openCoreArmCore_all fuel).2 h
theorem cells195 : Try.prog.cellsOf 195 = 5 := by kernel_rfl
theorem cells193 : Try.prog.cellsOf 193 = 1 := by kernel_rfl
set_option maxRecDepth 100000 in
theorem openMethodTable_c {H : Type} {enc : TypeId × Value → H} {w : World} {spare : Nat → Bool} {held : Bool} : ∀ {fuel : Nat} {cs : List Value} {x : DataW H × List MemPlace}, DataW.trod enc Try.prog w 0 spare held fuel 195 cs = some x → ∃ y : TMethodTable, Rep w (Live w) y.enc cs := by
  intro fuel cs x h
  obtain ⟨hl, n0, rfl, hf⟩ := open_F Try.underlying195 h
  rw [cells195] at hl
  obtain ⟨z0, y0⟩ := hf 0 _ rfl
  replace y0 : DataW.trod enc Try.prog w 0 spare held n0 9 ((cs.drop 0).take (Try.prog.cellsOf 9)) = some z0 := y0
  rw [cells9] at y0
  obtain ⟨x0, r0⟩ := open_S Try.underlying9 y0
  obtain ⟨z1, y1⟩ := hf 1 _ rfl
  replace y1 : DataW.trod enc Try.prog w 0 spare held n0 192 ((cs.drop 1).take (Try.prog.cellsOf 192)) = some z1 := y1
  rw [cells192] at y1
  obtain ⟨x1, r1⟩ := openType_c y1
  obtain ⟨z2, y2⟩ := hf 2 _ rfl
  replace y2 : DataW.trod enc Try.prog w 0 spare held n0 193 ((cs.drop 4).take (Try.prog.cellsOf 193)) = some z2 := y2
  rw [cells193] at y2
  obtain ⟨x2, r2⟩ := open_L (ea := TMethodEntry.enc) Try.underlying193 cells286 (by decide) TMethodEntry.width (fun n cs x _ hq => openMethodEntry_c hq) y2
  refine ⟨⟨x0, x1, x2⟩, ?_⟩
  rw [TMethodTable.enc_eq]
  simp only [Rep]
  have hs := RepS.at_ (off := 0) (n := 1) (encS_w _) r0 (RepS.at_ (off := 1) (n := 3) (TType.width _) r1 (RepS.at_ (off := 4) (n := 1) (sl_w _) r2 (RepS.end_ (off := 5) hl)))
  simpa only [List.drop_zero] using hs
theorem cells47 : Try.prog.cellsOf 47 = 2 := by kernel_rfl
theorem cells44 : Try.prog.cellsOf 44 = 1 := by kernel_rfl
theorem cells45 : Try.prog.cellsOf 45 = 1 := by kernel_rfl
set_option maxRecDepth 100000 in
theorem openMachine_c {H : Type} {enc : TypeId × Value → H} {w : World} {spare : Nat → Bool} {held : Bool} : ∀ {fuel : Nat} {cs : List Value} {x : DataW H × List MemPlace}, DataW.trod enc Try.prog w 0 spare held fuel 47 cs = some x → ∃ y : TMachine, Rep w (Live w) y.enc cs := by
  intro fuel cs x h
  obtain ⟨hl, n0, rfl, hf⟩ := open_F Try.underlying47 h
  rw [cells47] at hl
  obtain ⟨z0, y0⟩ := hf 0 _ rfl
  replace y0 : DataW.trod enc Try.prog w 0 spare held n0 44 ((cs.drop 0).take (Try.prog.cellsOf 44)) = some z0 := y0
  rw [cells44] at y0
  obtain ⟨x0, r0⟩ := open_L (ea := TCode.enc) Try.underlying44 cells188 (by decide) TCode.width (fun n cs x _ hq => openCode_c hq) y0
  obtain ⟨z1, y1⟩ := hf 1 _ rfl
  replace y1 : DataW.trod enc Try.prog w 0 spare held n0 45 ((cs.drop 1).take (Try.prog.cellsOf 45)) = some z1 := y1
  rw [cells45] at y1
  obtain ⟨x1, r1⟩ := open_L (ea := TMethodTable.enc) Try.underlying45 cells195 (by decide) TMethodTable.width (fun n cs x _ hq => openMethodTable_c hq) y1
  refine ⟨⟨x0, x1⟩, ?_⟩
  rw [TMachine.enc_eq]
  simp only [Rep]
  have hs := RepS.at_ (off := 0) (n := 1) (sl_w _) r0 (RepS.at_ (off := 1) (n := 1) (sl_w _) r1 (RepS.end_ (off := 2) hl))
  simpa only [List.drop_zero] using hs
theorem cells316 : Try.prog.cellsOf 316 = 4 := by kernel_rfl
set_option maxRecDepth 100000 in
theorem openParam_c {H : Type} {enc : TypeId × Value → H} {w : World} {spare : Nat → Bool} {held : Bool} : ∀ {fuel : Nat} {cs : List Value} {x : DataW H × List MemPlace}, DataW.trod enc Try.prog w 0 spare held fuel 316 cs = some x → ∃ y : TParam, Rep w (Live w) y.enc cs := by
  intro fuel cs x h
  obtain ⟨hl, n0, rfl, hf⟩ := open_F Try.underlying316 h
  rw [cells316] at hl
  obtain ⟨z0, y0⟩ := hf 0 _ rfl
  replace y0 : DataW.trod enc Try.prog w 0 spare held n0 9 ((cs.drop 0).take (Try.prog.cellsOf 9)) = some z0 := y0
  rw [cells9] at y0
  obtain ⟨x0, r0⟩ := open_S Try.underlying9 y0
  obtain ⟨z1, y1⟩ := hf 1 _ rfl
  replace y1 : DataW.trod enc Try.prog w 0 spare held n0 192 ((cs.drop 1).take (Try.prog.cellsOf 192)) = some z1 := y1
  rw [cells192] at y1
  obtain ⟨x1, r1⟩ := openType_c y1
  refine ⟨⟨x0, x1⟩, ?_⟩
  rw [TParam.enc_eq]
  simp only [Rep]
  have hs := RepS.at_ (off := 0) (n := 1) (encS_w _) r0 (RepS.at_ (off := 1) (n := 3) (TType.width _) r1 (RepS.end_ (off := 4) hl))
  simpa only [List.drop_zero] using hs
theorem cells215 : Try.prog.cellsOf 215 = 14 := by kernel_rfl
set_option maxRecDepth 100000 in
theorem openSpecialization_c {H : Type} {enc : TypeId × Value → H} {w : World} {spare : Nat → Bool} {held : Bool} : ∀ {fuel : Nat} {cs : List Value} {x : DataW H × List MemPlace}, DataW.trod enc Try.prog w 0 spare held fuel 215 cs = some x → ∃ y : TSpecialization, Rep w (Live w) y.enc cs := by
  intro fuel cs x h
  obtain ⟨hl, n0, rfl, hf⟩ := open_F Try.underlying215 h
  rw [cells215] at hl
  obtain ⟨z0, y0⟩ := hf 0 _ rfl
  replace y0 : DataW.trod enc Try.prog w 0 spare held n0 3 ((cs.drop 0).take (Try.prog.cellsOf 3)) = some z0 := y0
  rw [cells3] at y0
  obtain ⟨x0, r0⟩ := open_I Try.underlying3 y0
  obtain ⟨z1, y1⟩ := hf 1 _ rfl
  replace y1 : DataW.trod enc Try.prog w 0 spare held n0 190 ((cs.drop 1).take (Try.prog.cellsOf 190)) = some z1 := y1
  rw [cells190] at y1
  obtain ⟨x1, r1⟩ := open_L (ea := TType.enc) Try.underlying190 cells192 (by decide) TType.width (fun n cs x _ hq => openType_c hq) y1
  obtain ⟨z2, y2⟩ := hf 2 _ rfl
  replace y2 : DataW.trod enc Try.prog w 0 spare held n0 135 ((cs.drop 2).take (Try.prog.cellsOf 135)) = some z2 := y2
  rw [cells135] at y2
  obtain ⟨x2, r2⟩ := open_L (ea := encS) Try.underlying135 cells9 (by decide) encS_w (fun n cs x _ hq => open_S Try.underlying9 hq) y2
  obtain ⟨z3, y3⟩ := hf 3 _ rfl
  replace y3 : DataW.trod enc Try.prog w 0 spare held n0 213 ((cs.drop 3).take (Try.prog.cellsOf 213)) = some z3 := y3
  rw [cells213] at y3
  obtain ⟨x3, r3⟩ := openCore_c y3
  refine ⟨⟨x0, x1, x2, x3⟩, ?_⟩
  rw [TSpecialization.enc_eq]
  simp only [Rep]
  have hs := RepS.at_ (off := 0) (n := 1) (encI_w _) r0 (RepS.at_ (off := 1) (n := 1) (sl_w _) r1 (RepS.at_ (off := 2) (n := 1) (sl_w _) r2 (RepS.at_ (off := 3) (n := 11) (TCore.width _) r3 (RepS.end_ (off := 14) hl))))
  simpa only [List.drop_zero] using hs
theorem cells65 : Try.prog.cellsOf 65 = 2 := by kernel_rfl
theorem cells63 : Try.prog.cellsOf 63 = 1 := by kernel_rfl
set_option maxRecDepth 100000 in
theorem openMonoProgram_c {H : Type} {enc : TypeId × Value → H} {w : World} {spare : Nat → Bool} {held : Bool} : ∀ {fuel : Nat} {cs : List Value} {x : DataW H × List MemPlace}, DataW.trod enc Try.prog w 0 spare held fuel 65 cs = some x → ∃ y : TMonoProgram, Rep w (Live w) y.enc cs := by
  intro fuel cs x h
  obtain ⟨hl, n0, rfl, hf⟩ := open_F Try.underlying65 h
  rw [cells65] at hl
  obtain ⟨z0, y0⟩ := hf 0 _ rfl
  replace y0 : DataW.trod enc Try.prog w 0 spare held n0 63 ((cs.drop 0).take (Try.prog.cellsOf 63)) = some z0 := y0
  rw [cells63] at y0
  obtain ⟨x0, r0⟩ := open_L (ea := TSpecialization.enc) Try.underlying63 cells215 (by decide) TSpecialization.width (fun n cs x _ hq => openSpecialization_c hq) y0
  obtain ⟨z1, y1⟩ := hf 1 _ rfl
  replace y1 : DataW.trod enc Try.prog w 0 spare held n0 45 ((cs.drop 1).take (Try.prog.cellsOf 45)) = some z1 := y1
  rw [cells45] at y1
  obtain ⟨x1, r1⟩ := open_L (ea := TMethodTable.enc) Try.underlying45 cells195 (by decide) TMethodTable.width (fun n cs x _ hq => openMethodTable_c hq) y1
  refine ⟨⟨x0, x1⟩, ?_⟩
  rw [TMonoProgram.enc_eq]
  simp only [Rep]
  have hs := RepS.at_ (off := 0) (n := 1) (sl_w _) r0 (RepS.at_ (off := 1) (n := 1) (sl_w _) r1 (RepS.end_ (off := 2) hl))
  simpa only [List.drop_zero] using hs
theorem cells272 : Try.prog.cellsOf 272 = 21 := by kernel_rfl
theorem cells269 : Try.prog.cellsOf 269 = 1 := by kernel_rfl
theorem cells270 : Try.prog.cellsOf 270 = 1 := by kernel_rfl
set_option maxRecDepth 100000 in
theorem openUnit_c {H : Type} {enc : TypeId × Value → H} {w : World} {spare : Nat → Bool} {held : Bool} : ∀ {fuel : Nat} {cs : List Value} {x : DataW H × List MemPlace}, DataW.trod enc Try.prog w 0 spare held fuel 272 cs = some x → ∃ y : TUnit, Rep w (Live w) y.enc cs := by
  intro fuel cs x h
  obtain ⟨hl, n0, rfl, hf⟩ := open_F Try.underlying272 h
  rw [cells272] at hl
  obtain ⟨z0, y0⟩ := hf 0 _ rfl
  replace y0 : DataW.trod enc Try.prog w 0 spare held n0 3 ((cs.drop 0).take (Try.prog.cellsOf 3)) = some z0 := y0
  rw [cells3] at y0
  obtain ⟨x0, r0⟩ := open_I Try.underlying3 y0
  obtain ⟨z1, y1⟩ := hf 1 _ rfl
  replace y1 : DataW.trod enc Try.prog w 0 spare held n0 3 ((cs.drop 1).take (Try.prog.cellsOf 3)) = some z1 := y1
  rw [cells3] at y1
  obtain ⟨x1, r1⟩ := open_I Try.underlying3 y1
  obtain ⟨z2, y2⟩ := hf 2 _ rfl
  replace y2 : DataW.trod enc Try.prog w 0 spare held n0 3 ((cs.drop 2).take (Try.prog.cellsOf 3)) = some z2 := y2
  rw [cells3] at y2
  obtain ⟨x2, r2⟩ := open_I Try.underlying3 y2
  obtain ⟨z3, y3⟩ := hf 3 _ rfl
  replace y3 : DataW.trod enc Try.prog w 0 spare held n0 3 ((cs.drop 3).take (Try.prog.cellsOf 3)) = some z3 := y3
  rw [cells3] at y3
  obtain ⟨x3, r3⟩ := open_I Try.underlying3 y3
  obtain ⟨z4, y4⟩ := hf 4 _ rfl
  replace y4 : DataW.trod enc Try.prog w 0 spare held n0 135 ((cs.drop 4).take (Try.prog.cellsOf 135)) = some z4 := y4
  rw [cells135] at y4
  obtain ⟨x4, r4⟩ := open_L (ea := encS) Try.underlying135 cells9 (by decide) encS_w (fun n cs x _ hq => open_S Try.underlying9 hq) y4
  obtain ⟨z5, y5⟩ := hf 5 _ rfl
  replace y5 : DataW.trod enc Try.prog w 0 spare held n0 269 ((cs.drop 5).take (Try.prog.cellsOf 269)) = some z5 := y5
  rw [cells269] at y5
  obtain ⟨x5, r5⟩ := open_L (ea := TBound.enc) Try.underlying269 cells313 (by decide) TBound.width (fun n cs x _ hq => openBound_c hq) y5
  obtain ⟨z6, y6⟩ := hf 6 _ rfl
  replace y6 : DataW.trod enc Try.prog w 0 spare held n0 270 ((cs.drop 6).take (Try.prog.cellsOf 270)) = some z6 := y6
  rw [cells270] at y6
  obtain ⟨x6, r6⟩ := open_L (ea := TParam.enc) Try.underlying270 cells316 (by decide) TParam.width (fun n cs x _ hq => openParam_c hq) y6
  obtain ⟨z7, y7⟩ := hf 7 _ rfl
  replace y7 : DataW.trod enc Try.prog w 0 spare held n0 192 ((cs.drop 7).take (Try.prog.cellsOf 192)) = some z7 := y7
  rw [cells192] at y7
  obtain ⟨x7, r7⟩ := openType_c y7
  obtain ⟨z8, y8⟩ := hf 8 _ rfl
  replace y8 : DataW.trod enc Try.prog w 0 spare held n0 213 ((cs.drop 10).take (Try.prog.cellsOf 213)) = some z8 := y8
  rw [cells213] at y8
  obtain ⟨x8, r8⟩ := openCore_c y8
  refine ⟨⟨x0, x1, x2, x3, x4, x5, x6, x7, x8⟩, ?_⟩
  rw [TUnit.enc_eq]
  simp only [Rep]
  have hs := RepS.at_ (off := 0) (n := 1) (encI_w _) r0 (RepS.at_ (off := 1) (n := 1) (encI_w _) r1 (RepS.at_ (off := 2) (n := 1) (encI_w _) r2 (RepS.at_ (off := 3) (n := 1) (encI_w _) r3 (RepS.at_ (off := 4) (n := 1) (sl_w _) r4 (RepS.at_ (off := 5) (n := 1) (sl_w _) r5 (RepS.at_ (off := 6) (n := 1) (sl_w _) r6 (RepS.at_ (off := 7) (n := 3) (TType.width _) r7 (RepS.at_ (off := 10) (n := 11) (TCore.width _) r8 (RepS.end_ (off := 21) hl)))))))))
  simpa only [List.drop_zero] using hs
theorem cells276 : Try.prog.cellsOf 276 = 6 := by kernel_rfl
set_option maxRecDepth 100000 in
theorem openUnitError_c {H : Type} {enc : TypeId × Value → H} {w : World} {spare : Nat → Bool} {held : Bool} : ∀ {fuel : Nat} {cs : List Value} {x : DataW H × List MemPlace}, DataW.trod enc Try.prog w 0 spare held fuel 276 cs = some x → ∃ y : TUnitError, Rep w (Live w) y.enc cs := by
  intro fuel cs x h
  obtain ⟨hl, n0, rfl, hf⟩ := open_F Try.underlying276 h
  rw [cells276] at hl
  obtain ⟨z0, y0⟩ := hf 0 _ rfl
  replace y0 : DataW.trod enc Try.prog w 0 spare held n0 3 ((cs.drop 0).take (Try.prog.cellsOf 3)) = some z0 := y0
  rw [cells3] at y0
  obtain ⟨x0, r0⟩ := open_I Try.underlying3 y0
  obtain ⟨z1, y1⟩ := hf 1 _ rfl
  replace y1 : DataW.trod enc Try.prog w 0 spare held n0 3 ((cs.drop 1).take (Try.prog.cellsOf 3)) = some z1 := y1
  rw [cells3] at y1
  obtain ⟨x1, r1⟩ := open_I Try.underlying3 y1
  obtain ⟨z2, y2⟩ := hf 2 _ rfl
  replace y2 : DataW.trod enc Try.prog w 0 spare held n0 3 ((cs.drop 2).take (Try.prog.cellsOf 3)) = some z2 := y2
  rw [cells3] at y2
  obtain ⟨x2, r2⟩ := open_I Try.underlying3 y2
  obtain ⟨z3, y3⟩ := hf 3 _ rfl
  replace y3 : DataW.trod enc Try.prog w 0 spare held n0 3 ((cs.drop 3).take (Try.prog.cellsOf 3)) = some z3 := y3
  rw [cells3] at y3
  obtain ⟨x3, r3⟩ := open_I Try.underlying3 y3
  obtain ⟨z4, y4⟩ := hf 4 _ rfl
  replace y4 : DataW.trod enc Try.prog w 0 spare held n0 3 ((cs.drop 4).take (Try.prog.cellsOf 3)) = some z4 := y4
  rw [cells3] at y4
  obtain ⟨x4, r4⟩ := open_I Try.underlying3 y4
  obtain ⟨z5, y5⟩ := hf 5 _ rfl
  replace y5 : DataW.trod enc Try.prog w 0 spare held n0 3 ((cs.drop 5).take (Try.prog.cellsOf 3)) = some z5 := y5
  rw [cells3] at y5
  obtain ⟨x5, r5⟩ := open_I Try.underlying3 y5
  refine ⟨⟨x0, x1, x2, x3, x4, x5⟩, ?_⟩
  rw [TUnitError.enc_eq]
  simp only [Rep]
  have hs := RepS.at_ (off := 0) (n := 1) (encI_w _) r0 (RepS.at_ (off := 1) (n := 1) (encI_w _) r1 (RepS.at_ (off := 2) (n := 1) (encI_w _) r2 (RepS.at_ (off := 3) (n := 1) (encI_w _) r3 (RepS.at_ (off := 4) (n := 1) (encI_w _) r4 (RepS.at_ (off := 5) (n := 1) (encI_w _) r5 (RepS.end_ (off := 6) hl))))))
  simpa only [List.drop_zero] using hs
theorem cells172 : Try.prog.cellsOf 172 = 4 := by kernel_rfl
theorem cells169 : Try.prog.cellsOf 169 = 1 := by kernel_rfl
theorem cells170 : Try.prog.cellsOf 170 = 1 := by kernel_rfl
set_option maxRecDepth 100000 in
theorem openBuiltPackage_c {H : Type} {enc : TypeId × Value → H} {w : World} {spare : Nat → Bool} {held : Bool} : ∀ {fuel : Nat} {cs : List Value} {x : DataW H × List MemPlace}, DataW.trod enc Try.prog w 0 spare held fuel 172 cs = some x → ∃ y : TBuiltPackage, Rep w (Live w) y.enc cs := by
  intro fuel cs x h
  obtain ⟨hl, n0, rfl, hf⟩ := open_F Try.underlying172 h
  rw [cells172] at hl
  obtain ⟨z0, y0⟩ := hf 0 _ rfl
  replace y0 : DataW.trod enc Try.prog w 0 spare held n0 9 ((cs.drop 0).take (Try.prog.cellsOf 9)) = some z0 := y0
  rw [cells9] at y0
  obtain ⟨x0, r0⟩ := open_S Try.underlying9 y0
  obtain ⟨z1, y1⟩ := hf 1 _ rfl
  replace y1 : DataW.trod enc Try.prog w 0 spare held n0 9 ((cs.drop 1).take (Try.prog.cellsOf 9)) = some z1 := y1
  rw [cells9] at y1
  obtain ⟨x1, r1⟩ := open_S Try.underlying9 y1
  obtain ⟨z2, y2⟩ := hf 2 _ rfl
  replace y2 : DataW.trod enc Try.prog w 0 spare held n0 169 ((cs.drop 2).take (Try.prog.cellsOf 169)) = some z2 := y2
  rw [cells169] at y2
  obtain ⟨x2, r2⟩ := open_L (ea := TUnit.enc) Try.underlying169 cells272 (by decide) TUnit.width (fun n cs x _ hq => openUnit_c hq) y2
  obtain ⟨z3, y3⟩ := hf 3 _ rfl
  replace y3 : DataW.trod enc Try.prog w 0 spare held n0 170 ((cs.drop 3).take (Try.prog.cellsOf 170)) = some z3 := y3
  rw [cells170] at y3
  obtain ⟨x3, r3⟩ := open_L (ea := TUnitError.enc) Try.underlying170 cells276 (by decide) TUnitError.width (fun n cs x _ hq => openUnitError_c hq) y3
  refine ⟨⟨x0, x1, x2, x3⟩, ?_⟩
  rw [TBuiltPackage.enc_eq]
  simp only [Rep]
  have hs := RepS.at_ (off := 0) (n := 1) (encS_w _) r0 (RepS.at_ (off := 1) (n := 1) (encS_w _) r1 (RepS.at_ (off := 2) (n := 1) (sl_w _) r2 (RepS.at_ (off := 3) (n := 1) (sl_w _) r3 (RepS.end_ (off := 4) hl))))
  simpa only [List.drop_zero] using hs
theorem cells36 : Try.prog.cellsOf 36 = 1 := by kernel_rfl
theorem cells34 : Try.prog.cellsOf 34 = 1 := by kernel_rfl
set_option maxRecDepth 100000 in
theorem openBuild_c {H : Type} {enc : TypeId × Value → H} {w : World} {spare : Nat → Bool} {held : Bool} : ∀ {fuel : Nat} {cs : List Value} {x : DataW H × List MemPlace}, DataW.trod enc Try.prog w 0 spare held fuel 36 cs = some x → ∃ y : TBuild, Rep w (Live w) y.enc cs := by
  intro fuel cs x h
  obtain ⟨hl, n0, rfl, hf⟩ := open_F Try.underlying36 h
  rw [cells36] at hl
  obtain ⟨z0, y0⟩ := hf 0 _ rfl
  replace y0 : DataW.trod enc Try.prog w 0 spare held n0 34 ((cs.drop 0).take (Try.prog.cellsOf 34)) = some z0 := y0
  rw [cells34] at y0
  obtain ⟨x0, r0⟩ := open_L (ea := TBuiltPackage.enc) Try.underlying34 cells172 (by decide) TBuiltPackage.width (fun n cs x _ hq => openBuiltPackage_c hq) y0
  refine ⟨⟨x0⟩, ?_⟩
  rw [TBuild.enc_eq]
  simp only [Rep]
  have hs := RepS.at_ (off := 0) (n := 1) (sl_w _) r0 (RepS.end_ (off := 1) hl)
  simpa only [List.drop_zero] using hs
theorem cells119 : Try.prog.cellsOf 119 = 9 := by kernel_rfl
theorem cells22 : Try.prog.cellsOf 22 = 1 := by kernel_rfl
set_option maxRecDepth 100000 in
theorem openValue_all {H : Type} {enc : TypeId × Value → H} {w : World} {spare : Nat → Bool} {held : Bool} (n : Nat) : (∀ {cs : List Value} {x : DataW H × List MemPlace}, DataW.trod enc Try.prog w 0 spare held n 119 cs = some x → ∃ y : TValue, Rep w (Live w) y.enc cs) := by
  induction n using Nat.strongRecOn with
  | ind fuel ih =>
  have ihValue : ∀ m, m < fuel → ∀ {cs : List Value} {x : DataW H × List MemPlace}, DataW.trod enc Try.prog w 0 spare held m 119 cs = some x → ∃ y : TValue, Rep w (Live w) y.enc cs := fun m hm => (ih m hm)
  · intro cs x h
    obtain ⟨hl, n0, rfl, hf⟩ := open_F Try.underlying119 h
    rw [cells119] at hl
    obtain ⟨z0, y0⟩ := hf 0 _ rfl
    replace y0 : DataW.trod enc Try.prog w 0 spare held n0 3 ((cs.drop 0).take (Try.prog.cellsOf 3)) = some z0 := y0
    rw [cells3] at y0
    obtain ⟨x0, r0⟩ := open_I Try.underlying3 y0
    obtain ⟨z1, y1⟩ := hf 1 _ rfl
    replace y1 : DataW.trod enc Try.prog w 0 spare held n0 3 ((cs.drop 1).take (Try.prog.cellsOf 3)) = some z1 := y1
    rw [cells3] at y1
    obtain ⟨x1, r1⟩ := open_I Try.underlying3 y1
    obtain ⟨z2, y2⟩ := hf 2 _ rfl
    replace y2 : DataW.trod enc Try.prog w 0 spare held n0 9 ((cs.drop 2).take (Try.prog.cellsOf 9)) = some z2 := y2
    rw [cells9] at y2
    obtain ⟨x2, r2⟩ := open_S Try.underlying9 y2
    obtain ⟨z3, y3⟩ := hf 3 _ rfl
    replace y3 : DataW.trod enc Try.prog w 0 spare held n0 117 ((cs.drop 3).take (Try.prog.cellsOf 117)) = some z3 := y3
    rw [cells117] at y3
    obtain ⟨x3, r3⟩ := openDictionary_c y3
    obtain ⟨z4, y4⟩ := hf 4 _ rfl
    replace y4 : DataW.trod enc Try.prog w 0 spare held n0 22 ((cs.drop 8).take (Try.prog.cellsOf 22)) = some z4 := y4
    rw [cells22] at y4
    obtain ⟨x4, r4⟩ := open_L (ea := TValue.enc) Try.underlying22 cells119 (by decide) TValue.width (fun n cs x hn hq => ihValue n (by omega) hq) y4
    refine ⟨⟨x0, x1, x2, x3, x4⟩, ?_⟩
    rw [TValue.enc_eq]
    simp only [Rep]
    have hs := RepS.at_ (off := 0) (n := 1) (encI_w _) r0 (RepS.at_ (off := 1) (n := 1) (encI_w _) r1 (RepS.at_ (off := 2) (n := 1) (encS_w _) r2 (RepS.at_ (off := 3) (n := 5) (TDictionary.width _) r3 (RepS.at_ (off := 8) (n := 1) (sl_w _) r4 (RepS.end_ (off := 9) hl)))))
    simpa only [List.drop_zero] using hs
theorem openValue_c {H : Type} {enc : TypeId × Value → H} {w : World} {spare : Nat → Bool} {held : Bool} : ∀ {fuel : Nat} {cs : List Value} {x : DataW H × List MemPlace}, DataW.trod enc Try.prog w 0 spare held fuel 119 cs = some x → ∃ y : TValue, Rep w (Live w) y.enc cs := fun {fuel} {_} {_} h => (openValue_all fuel) h
theorem cells165 : Try.prog.cellsOf 165 = 4 := by kernel_rfl
set_option maxRecDepth 100000 in
theorem openFrame_c {H : Type} {enc : TypeId × Value → H} {w : World} {spare : Nat → Bool} {held : Bool} : ∀ {fuel : Nat} {cs : List Value} {x : DataW H × List MemPlace}, DataW.trod enc Try.prog w 0 spare held fuel 165 cs = some x → ∃ y : TFrame, Rep w (Live w) y.enc cs := by
  intro fuel cs x h
  obtain ⟨hl, n0, rfl, hf⟩ := open_F Try.underlying165 h
  rw [cells165] at hl
  obtain ⟨z0, y0⟩ := hf 0 _ rfl
  replace y0 : DataW.trod enc Try.prog w 0 spare held n0 3 ((cs.drop 0).take (Try.prog.cellsOf 3)) = some z0 := y0
  rw [cells3] at y0
  obtain ⟨x0, r0⟩ := open_I Try.underlying3 y0
  obtain ⟨z1, y1⟩ := hf 1 _ rfl
  replace y1 : DataW.trod enc Try.prog w 0 spare held n0 3 ((cs.drop 1).take (Try.prog.cellsOf 3)) = some z1 := y1
  rw [cells3] at y1
  obtain ⟨x1, r1⟩ := open_I Try.underlying3 y1
  obtain ⟨z2, y2⟩ := hf 2 _ rfl
  replace y2 : DataW.trod enc Try.prog w 0 spare held n0 3 ((cs.drop 2).take (Try.prog.cellsOf 3)) = some z2 := y2
  rw [cells3] at y2
  obtain ⟨x2, r2⟩ := open_I Try.underlying3 y2
  obtain ⟨z3, y3⟩ := hf 3 _ rfl
  replace y3 : DataW.trod enc Try.prog w 0 spare held n0 22 ((cs.drop 3).take (Try.prog.cellsOf 22)) = some z3 := y3
  rw [cells22] at y3
  obtain ⟨x3, r3⟩ := open_L (ea := TValue.enc) Try.underlying22 cells119 (by decide) TValue.width (fun n cs x _ hq => openValue_c hq) y3
  refine ⟨⟨x0, x1, x2, x3⟩, ?_⟩
  rw [TFrame.enc_eq]
  simp only [Rep]
  have hs := RepS.at_ (off := 0) (n := 1) (encI_w _) r0 (RepS.at_ (off := 1) (n := 1) (encI_w _) r1 (RepS.at_ (off := 2) (n := 1) (encI_w _) r2 (RepS.at_ (off := 3) (n := 1) (sl_w _) r3 (RepS.end_ (off := 4) hl))))
  simpa only [List.drop_zero] using hs
theorem cells25 : Try.prog.cellsOf 25 = 5 := by kernel_rfl
theorem cells23 : Try.prog.cellsOf 23 = 1 := by kernel_rfl
theorem cells4 : Try.prog.cellsOf 4 = 1 := by kernel_rfl
set_option maxRecDepth 100000 in
theorem openVM_c {H : Type} {enc : TypeId × Value → H} {w : World} {spare : Nat → Bool} {held : Bool} : ∀ {fuel : Nat} {cs : List Value} {x : DataW H × List MemPlace}, DataW.trod enc Try.prog w 0 spare held fuel 25 cs = some x → ∃ y : TVM, Rep w (Live w) y.enc cs := by
  intro fuel cs x h
  obtain ⟨hl, n0, rfl, hf⟩ := open_F Try.underlying25 h
  rw [cells25] at hl
  obtain ⟨z0, y0⟩ := hf 0 _ rfl
  replace y0 : DataW.trod enc Try.prog w 0 spare held n0 22 ((cs.drop 0).take (Try.prog.cellsOf 22)) = some z0 := y0
  rw [cells22] at y0
  obtain ⟨x0, r0⟩ := open_L (ea := TValue.enc) Try.underlying22 cells119 (by decide) TValue.width (fun n cs x _ hq => openValue_c hq) y0
  obtain ⟨z1, y1⟩ := hf 1 _ rfl
  replace y1 : DataW.trod enc Try.prog w 0 spare held n0 23 ((cs.drop 1).take (Try.prog.cellsOf 23)) = some z1 := y1
  rw [cells23] at y1
  obtain ⟨x1, r1⟩ := open_L (ea := TFrame.enc) Try.underlying23 cells165 (by decide) TFrame.width (fun n cs x _ hq => openFrame_c hq) y1
  obtain ⟨z2, y2⟩ := hf 2 _ rfl
  replace y2 : DataW.trod enc Try.prog w 0 spare held n0 3 ((cs.drop 2).take (Try.prog.cellsOf 3)) = some z2 := y2
  rw [cells3] at y2
  obtain ⟨x2, r2⟩ := open_I Try.underlying3 y2
  obtain ⟨z3, y3⟩ := hf 3 _ rfl
  replace y3 : DataW.trod enc Try.prog w 0 spare held n0 3 ((cs.drop 3).take (Try.prog.cellsOf 3)) = some z3 := y3
  rw [cells3] at y3
  obtain ⟨x3, r3⟩ := open_I Try.underlying3 y3
  obtain ⟨z4, y4⟩ := hf 4 _ rfl
  replace y4 : DataW.trod enc Try.prog w 0 spare held n0 4 ((cs.drop 4).take (Try.prog.cellsOf 4)) = some z4 := y4
  rw [cells4] at y4
  obtain ⟨x4, r4⟩ := open_B Try.underlying4 y4
  refine ⟨⟨x0, x1, x2, x3, x4⟩, ?_⟩
  rw [TVM.enc_eq]
  simp only [Rep]
  have hs := RepS.at_ (off := 0) (n := 1) (sl_w _) r0 (RepS.at_ (off := 1) (n := 1) (sl_w _) r1 (RepS.at_ (off := 2) (n := 1) (encI_w _) r2 (RepS.at_ (off := 3) (n := 1) (encI_w _) r3 (RepS.at_ (off := 4) (n := 1) (encB_w _) r4 (RepS.end_ (off := 5) hl)))))
  simpa only [List.drop_zero] using hs
end Go.Proofs.Ytnlmldgbhdcpbaa
