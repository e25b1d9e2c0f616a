/- What reads as data of this program's types is a mirror value's tree. No condition. -/
import Derived.Test.YtonohebdkeakdaaOpen
import Derived.Test.YtonohebdkeakdaaRows
namespace Go.Proofs.Ytonohebdkeakdaa
open Go.ChangeShapes Go.WideShapes Go.ChangeAt Go.RowKit
theorem cells142 : Try.prog.cellsOf 142 = 2 := by kernel_rfl
theorem cells3 : Try.prog.cellsOf 3 = 1 := by kernel_rfl
set_option maxRecDepth 100000 in
theorem openInstanceRef_c {H : Type} {enc : TypeId × Value → H} {w : World} {spare : Nat → Bool} {held : Bool} : ∀ {fuel : Nat} {cs : List Value} {x : DataW H × List MemPlace}, DataW.trod enc Try.prog w 0 spare held fuel 142 cs = some x → ∃ y : TInstanceRef, Rep w (Live w) y.enc cs := by
  intro fuel cs x h
  obtain ⟨hl, n0, rfl, hf⟩ := open_F Try.underlying142 h
  rw [cells142] at hl
  obtain ⟨z0, y0⟩ := hf 0 _ rfl
  replace y0 : DataW.trod enc Try.prog w 0 spare held n0 3 ((cs.drop 0).take (Try.prog.cellsOf 3)) = some z0 := y0
  rw [cells3] at y0
  obtain ⟨x0, r0⟩ := open_I Try.underlying3 y0
  obtain ⟨z1, y1⟩ := hf 1 _ rfl
  replace y1 : DataW.trod enc Try.prog w 0 spare held n0 3 ((cs.drop 1).take (Try.prog.cellsOf 3)) = some z1 := y1
  rw [cells3] at y1
  obtain ⟨x1, r1⟩ := open_I Try.underlying3 y1
  refine ⟨⟨x0, x1⟩, ?_⟩
  rw [TInstanceRef.enc_eq]
  simp only [Rep]
  have hs := RepS.at_ (off := 0) (n := 1) (encI_w _) r0 (RepS.at_ (off := 1) (n := 1) (encI_w _) r1 (RepS.end_ (off := 2) hl))
  simpa only [List.drop_zero] using hs
theorem cells145 : Try.prog.cellsOf 145 = 5 := by kernel_rfl
theorem cells101 : Try.prog.cellsOf 101 = 1 := by kernel_rfl
theorem cells143 : Try.prog.cellsOf 143 = 1 := by kernel_rfl
set_option maxRecDepth 100000 in
theorem openDictionary_all {H : Type} {enc : TypeId × Value → H} {w : World} {spare : Nat → Bool} {held : Bool} (n : Nat) : (∀ {cs : List Value} {x : DataW H × List MemPlace}, DataW.trod enc Try.prog w 0 spare held n 145 cs = some x → ∃ y : TDictionary, Rep w (Live w) y.enc cs) := by
  induction n using Nat.strongRecOn with
  | ind fuel ih =>
  have ihDictionary : ∀ m, m < fuel → ∀ {cs : List Value} {x : DataW H × List MemPlace}, DataW.trod enc Try.prog w 0 spare held m 145 cs = some x → ∃ y : TDictionary, Rep w (Live w) y.enc cs := fun m hm => (ih m hm)
  · intro cs x h
    obtain ⟨hl, n0, rfl, hf⟩ := open_F Try.underlying145 h
    rw [cells145] at hl
    obtain ⟨z0, y0⟩ := hf 0 _ rfl
    replace y0 : DataW.trod enc Try.prog w 0 spare held n0 3 ((cs.drop 0).take (Try.prog.cellsOf 3)) = some z0 := y0
    rw [cells3] at y0
    obtain ⟨x0, r0⟩ := open_I Try.underlying3 y0
    obtain ⟨z1, y1⟩ := hf 1 _ rfl
    replace y1 : DataW.trod enc Try.prog w 0 spare held n0 142 ((cs.drop 1).take (Try.prog.cellsOf 142)) = some z1 := y1
    rw [cells142] at y1
    obtain ⟨x1, r1⟩ := openInstanceRef_c y1
    obtain ⟨z2, y2⟩ := hf 2 _ rfl
    replace y2 : DataW.trod enc Try.prog w 0 spare held n0 101 ((cs.drop 3).take (Try.prog.cellsOf 101)) = some z2 := y2
    rw [cells101] at y2
    obtain ⟨x2, r2⟩ := open_L (ea := encI) Try.underlying101 cells3 (by decide) encI_w (fun n cs x _ hq => open_I Try.underlying3 hq) y2
    obtain ⟨z3, y3⟩ := hf 3 _ rfl
    replace y3 : DataW.trod enc Try.prog w 0 spare held n0 143 ((cs.drop 4).take (Try.prog.cellsOf 143)) = some z3 := y3
    rw [cells143] at y3
    obtain ⟨x3, r3⟩ := open_L (ea := TDictionary.enc) Try.underlying143 cells145 (by decide) TDictionary.width (fun n cs x hn hq => ihDictionary n (by omega) hq) y3
    refine ⟨⟨x0, x1, x2, x3⟩, ?_⟩
    rw [TDictionary.enc_eq]
    simp only [Rep]
    have hs := RepS.at_ (off := 0) (n := 1) (encI_w _) r0 (RepS.at_ (off := 1) (n := 2) (TInstanceRef.width _) r1 (RepS.at_ (off := 3) (n := 1) (sl_w _) r2 (RepS.at_ (off := 4) (n := 1) (sl_w _) r3 (RepS.end_ (off := 5) hl))))
    simpa only [List.drop_zero] using hs
theorem openDictionary_c {H : Type} {enc : TypeId × Value → H} {w : World} {spare : Nat → Bool} {held : Bool} : ∀ {fuel : Nat} {cs : List Value} {x : DataW H × List MemPlace}, DataW.trod enc Try.prog w 0 spare held fuel 145 cs = some x → ∃ y : TDictionary, Rep w (Live w) y.enc cs := fun {fuel} {_} {_} h => (openDictionary_all fuel) h
theorem cells305 : Try.prog.cellsOf 305 = 5 := by kernel_rfl
theorem cells192 : Try.prog.cellsOf 192 = 1 := by kernel_rfl
set_option maxRecDepth 100000 in
theorem openEvidence_all {H : Type} {enc : TypeId × Value → H} {w : World} {spare : Nat → Bool} {held : Bool} (n : Nat) : (∀ {cs : List Value} {x : DataW H × List MemPlace}, DataW.trod enc Try.prog w 0 spare held n 305 cs = some x → ∃ y : TEvidence, Rep w (Live w) y.enc cs) := by
  induction n using Nat.strongRecOn with
  | ind fuel ih =>
  have ihEvidence : ∀ m, m < fuel → ∀ {cs : List Value} {x : DataW H × List MemPlace}, DataW.trod enc Try.prog w 0 spare held m 305 cs = some x → ∃ y : TEvidence, Rep w (Live w) y.enc cs := fun m hm => (ih m hm)
  · intro cs x h
    obtain ⟨hl, n0, rfl, hf⟩ := open_F Try.underlying305 h
    rw [cells305] at hl
    obtain ⟨z0, y0⟩ := hf 0 _ rfl
    replace y0 : DataW.trod enc Try.prog w 0 spare held n0 3 ((cs.drop 0).take (Try.prog.cellsOf 3)) = some z0 := y0
    rw [cells3] at y0
    obtain ⟨x0, r0⟩ := open_I Try.underlying3 y0
    obtain ⟨z1, y1⟩ := hf 1 _ rfl
    replace y1 : DataW.trod enc Try.prog w 0 spare held n0 3 ((cs.drop 1).take (Try.prog.cellsOf 3)) = some z1 := y1
    rw [cells3] at y1
    obtain ⟨x1, r1⟩ := open_I Try.underlying3 y1
    obtain ⟨z2, y2⟩ := hf 2 _ rfl
    replace y2 : DataW.trod enc Try.prog w 0 spare held n0 142 ((cs.drop 2).take (Try.prog.cellsOf 142)) = some z2 := y2
    rw [cells142] at y2
    obtain ⟨x2, r2⟩ := openInstanceRef_c y2
    obtain ⟨z3, y3⟩ := hf 3 _ rfl
    replace y3 : DataW.trod enc Try.prog w 0 spare held n0 192 ((cs.drop 4).take (Try.prog.cellsOf 192)) = some z3 := y3
    rw [cells192] at y3
    obtain ⟨x3, r3⟩ := open_L (ea := TEvidence.enc) Try.underlying192 cells305 (by decide) TEvidence.width (fun n cs x hn hq => ihEvidence n (by omega) hq) y3
    refine ⟨⟨x0, x1, x2, x3⟩, ?_⟩
    rw [TEvidence.enc_eq]
    simp only [Rep]
    have hs := RepS.at_ (off := 0) (n := 1) (encI_w _) r0 (RepS.at_ (off := 1) (n := 1) (encI_w _) r1 (RepS.at_ (off := 2) (n := 2) (TInstanceRef.width _) r2 (RepS.at_ (off := 4) (n := 1) (sl_w _) r3 (RepS.end_ (off := 5) hl))))
    simpa only [List.drop_zero] using hs
theorem openEvidence_c {H : Type} {enc : TypeId × Value → H} {w : World} {spare : Nat → Bool} {held : Bool} : ∀ {fuel : Nat} {cs : List Value} {x : DataW H × List MemPlace}, DataW.trod enc Try.prog w 0 spare held fuel 305 cs = some x → ∃ y : TEvidence, Rep w (Live w) y.enc cs := fun {fuel} {_} {_} h => (openEvidence_all fuel) h
theorem cells180 : Try.prog.cellsOf 180 = 5 := by kernel_rfl
theorem cells9 : Try.prog.cellsOf 9 = 1 := by kernel_rfl
set_option maxRecDepth 100000 in
theorem openInstr_c {H : Type} {enc : TypeId × Value → H} {w : World} {spare : Nat → Bool} {held : Bool} : ∀ {fuel : Nat} {cs : List Value} {x : DataW H × List MemPlace}, DataW.trod enc Try.prog w 0 spare held fuel 180 cs = some x → ∃ y : TInstr, Rep w (Live w) y.enc cs := by
  intro fuel cs x h
  obtain ⟨hl, n0, rfl, hf⟩ := open_F Try.underlying180 h
  rw [cells180] at hl
  obtain ⟨z0, y0⟩ := hf 0 _ rfl
  replace y0 : DataW.trod enc Try.prog w 0 spare held n0 3 ((cs.drop 0).take (Try.prog.cellsOf 3)) = some z0 := y0
  rw [cells3] at y0
  obtain ⟨x0, r0⟩ := open_I Try.underlying3 y0
  obtain ⟨z1, y1⟩ := hf 1 _ rfl
  replace y1 : DataW.trod enc Try.prog w 0 spare held n0 3 ((cs.drop 1).take (Try.prog.cellsOf 3)) = some z1 := y1
  rw [cells3] at y1
  obtain ⟨x1, r1⟩ := open_I Try.underlying3 y1
  obtain ⟨z2, y2⟩ := hf 2 _ rfl
  replace y2 : DataW.trod enc Try.prog w 0 spare held n0 3 ((cs.drop 2).take (Try.prog.cellsOf 3)) = some z2 := y2
  rw [cells3] at y2
  obtain ⟨x2, r2⟩ := open_I Try.underlying3 y2
  obtain ⟨z3, y3⟩ := hf 3 _ rfl
  replace y3 : DataW.trod enc Try.prog w 0 spare held n0 9 ((cs.drop 3).take (Try.prog.cellsOf 9)) = some z3 := y3
  rw [cells9] at y3
  obtain ⟨x3, r3⟩ := open_S Try.underlying9 y3
  obtain ⟨z4, y4⟩ := hf 4 _ rfl
  replace y4 : DataW.trod enc Try.prog w 0 spare held n0 9 ((cs.drop 4).take (Try.prog.cellsOf 9)) = some z4 := y4
  rw [cells9] at y4
  obtain ⟨x4, r4⟩ := open_S Try.underlying9 y4
  refine ⟨⟨x0, x1, x2, x3, x4⟩, ?_⟩
  rw [TInstr.enc_eq]
  simp only [Rep]
  have hs := RepS.at_ (off := 0) (n := 1) (encI_w _) r0 (RepS.at_ (off := 1) (n := 1) (encI_w _) r1 (RepS.at_ (off := 2) (n := 1) (encI_w _) r2 (RepS.at_ (off := 3) (n := 1) (encS_w _) r3 (RepS.at_ (off := 4) (n := 1) (encS_w _) r4 (RepS.end_ (off := 5) hl)))))
  simpa only [List.drop_zero] using hs
theorem cells24 : Try.prog.cellsOf 24 = 2 := by kernel_rfl
theorem cells22 : Try.prog.cellsOf 22 = 1 := by kernel_rfl
set_option maxRecDepth 100000 in
theorem openCode_c {H : Type} {enc : TypeId × Value → H} {w : World} {spare : Nat → Bool} {held : Bool} : ∀ {fuel : Nat} {cs : List Value} {x : DataW H × List MemPlace}, DataW.trod enc Try.prog w 0 spare held fuel 24 cs = some x → ∃ y : TCode, Rep w (Live w) y.enc cs := by
  intro fuel cs x h
  obtain ⟨hl, n0, rfl, hf⟩ := open_F Try.underlying24 h
  rw [cells24] at hl
  obtain ⟨z0, y0⟩ := hf 0 _ rfl
  replace y0 : DataW.trod enc Try.prog w 0 spare held n0 3 ((cs.drop 0).take (Try.prog.cellsOf 3)) = some z0 := y0
  rw [cells3] at y0
  obtain ⟨x0, r0⟩ := open_I Try.underlying3 y0
  obtain ⟨z1, y1⟩ := hf 1 _ rfl
  replace y1 : DataW.trod enc Try.prog w 0 spare held n0 22 ((cs.drop 1).take (Try.prog.cellsOf 22)) = some z1 := y1
  rw [cells22] at y1
  obtain ⟨x1, r1⟩ := open_L (ea := TInstr.enc) Try.underlying22 cells180 (by decide) TInstr.width (fun n cs x _ hq => openInstr_c hq) y1
  refine ⟨⟨x0, x1⟩, ?_⟩
  rw [TCode.enc_eq]
  simp only [Rep]
  have hs := RepS.at_ (off := 0) (n := 1) (encI_w _) r0 (RepS.at_ (off := 1) (n := 1) (sl_w _) r1 (RepS.end_ (off := 2) hl))
  simpa only [List.drop_zero] using hs
theorem cells279 : Try.prog.cellsOf 279 = 3 := by kernel_rfl
set_option maxRecDepth 100000 in
theorem openMethodEntry_c {H : Type} {enc : TypeId × Value → H} {w : World} {spare : Nat → Bool} {held : Bool} : ∀ {fuel : Nat} {cs : List Value} {x : DataW H × List MemPlace}, DataW.trod enc Try.prog w 0 spare held fuel 279 cs = some x → ∃ y : TMethodEntry, Rep w (Live w) y.enc cs := by
  intro fuel cs x h
  obtain ⟨hl, n0, rfl, hf⟩ := open_F Try.underlying279 h
  rw [cells279] at hl
  obtain ⟨z0, y0⟩ := hf 0 _ rfl
  replace y0 : DataW.trod enc Try.prog w 0 spare held n0 9 ((cs.drop 0).take (Try.prog.cellsOf 9)) = some z0 := y0
  rw [cells9] at y0
  obtain ⟨x0, r0⟩ := open_S Try.underlying9 y0
  obtain ⟨z1, y1⟩ := hf 1 _ rfl
  replace y1 : DataW.trod enc Try.prog w 0 spare held n0 9 ((cs.drop 1).take (Try.prog.cellsOf 9)) = some z1 := y1
  rw [cells9] at y1
  obtain ⟨x1, r1⟩ := open_S Try.underlying9 y1
  obtain ⟨z2, y2⟩ := hf 2 _ rfl
  replace y2 : DataW.trod enc Try.prog w 0 spare held n0 3 ((cs.drop 2).take (Try.prog.cellsOf 3)) = some z2 := y2
  rw [cells3] at y2
  obtain ⟨x2, r2⟩ := open_I Try.underlying3 y2
  refine ⟨⟨x0, x1, x2⟩, ?_⟩
  rw [TMethodEntry.enc_eq]
  simp only [Rep]
  have hs := RepS.at_ (off := 0) (n := 1) (encS_w _) r0 (RepS.at_ (off := 1) (n := 1) (encS_w _) r1 (RepS.at_ (off := 2) (n := 1) (encI_w _) r2 (RepS.end_ (off := 3) hl)))
  simpa only [List.drop_zero] using hs
theorem cells191 : Try.prog.cellsOf 191 = 3 := by kernel_rfl
theorem cells189 : Try.prog.cellsOf 189 = 1 := by kernel_rfl
set_option maxRecDepth 100000 in
theorem openType_all {H : Type} {enc : TypeId × Value → H} {w : World} {spare : Nat → Bool} {held : Bool} (n : Nat) : (∀ {cs : List Value} {x : DataW H × List MemPlace}, DataW.trod enc Try.prog w 0 spare held n 191 cs = some x → ∃ y : TType, Rep w (Live w) y.enc cs) := by
  induction n using Nat.strongRecOn with
  | ind fuel ih =>
  have ihType : ∀ m, m < fuel → ∀ {cs : List Value} {x : DataW H × List MemPlace}, DataW.trod enc Try.prog w 0 spare held m 191 cs = some x → ∃ y : TType, Rep w (Live w) y.enc cs := fun m hm => (ih m hm)
  · intro cs x h
    obtain ⟨hl, n0, rfl, hf⟩ := open_F Try.underlying191 h
    rw [cells191] at hl
    obtain ⟨z0, y0⟩ := hf 0 _ rfl
    replace y0 : DataW.trod enc Try.prog w 0 spare held n0 3 ((cs.drop 0).take (Try.prog.cellsOf 3)) = some z0 := y0
    rw [cells3] at y0
    obtain ⟨x0, r0⟩ := open_I Try.underlying3 y0
    obtain ⟨z1, y1⟩ := hf 1 _ rfl
    replace y1 : DataW.trod enc Try.prog w 0 spare held n0 9 ((cs.drop 1).take (Try.prog.cellsOf 9)) = some z1 := y1
    rw [cells9] at y1
    obtain ⟨x1, r1⟩ := open_S Try.underlying9 y1
    obtain ⟨z2, y2⟩ := hf 2 _ rfl
    replace y2 : DataW.trod enc Try.prog w 0 spare held n0 189 ((cs.drop 2).take (Try.prog.cellsOf 189)) = some z2 := y2
    rw [cells189] at y2
    obtain ⟨x2, r2⟩ := open_L (ea := TType.enc) Try.underlying189 cells191 (by decide) TType.width (fun n cs x hn hq => ihType n (by omega) hq) y2
    refine ⟨⟨x0, x1, x2⟩, ?_⟩
    rw [TType.enc_eq]
    simp only [Rep]
    have hs := RepS.at_ (off := 0) (n := 1) (encI_w _) r0 (RepS.at_ (off := 1) (n := 1) (encS_w _) r1 (RepS.at_ (off := 2) (n := 1) (sl_w _) r2 (RepS.end_ (off := 3) hl)))
    simpa only [List.drop_zero] using hs
theorem openType_c {H : Type} {enc : TypeId × Value → H} {w : World} {spare : Nat → Bool} {held : Bool} : ∀ {fuel : Nat} {cs : List Value} {x : DataW H × List MemPlace}, DataW.trod enc Try.prog w 0 spare held fuel 191 cs = some x → ∃ y : TType, Rep w (Live w) y.enc cs := fun {fuel} {_} {_} h => (openType_all fuel) h
theorem cells317 : Try.prog.cellsOf 317 = 4 := by kernel_rfl
set_option maxRecDepth 100000 in
theorem openBound_c {H : Type} {enc : TypeId × Value → H} {w : World} {spare : Nat → Bool} {held : Bool} : ∀ {fuel : Nat} {cs : List Value} {x : DataW H × List MemPlace}, DataW.trod enc Try.prog w 0 spare held fuel 317 cs = some x → ∃ y : TBound, Rep w (Live w) y.enc cs := by
  intro fuel cs x h
  obtain ⟨hl, n0, rfl, hf⟩ := open_F Try.underlying317 h
  rw [cells317] at hl
  obtain ⟨z0, y0⟩ := hf 0 _ rfl
  replace y0 : DataW.trod enc Try.prog w 0 spare held n0 9 ((cs.drop 0).take (Try.prog.cellsOf 9)) = some z0 := y0
  rw [cells9] at y0
  obtain ⟨x0, r0⟩ := open_S Try.underlying9 y0
  obtain ⟨z1, y1⟩ := hf 1 _ rfl
  replace y1 : DataW.trod enc Try.prog w 0 spare held n0 191 ((cs.drop 1).take (Try.prog.cellsOf 191)) = some z1 := y1
  rw [cells191] at y1
  obtain ⟨x1, r1⟩ := openType_c y1
  refine ⟨⟨x0, x1⟩, ?_⟩
  rw [TBound.enc_eq]
  simp only [Rep]
  have hs := RepS.at_ (off := 0) (n := 1) (encS_w _) r0 (RepS.at_ (off := 1) (n := 3) (TType.width _) r1 (RepS.end_ (off := 4) hl))
  simpa only [List.drop_zero] using hs
theorem cells308 : Try.prog.cellsOf 308 = 13 := by kernel_rfl
theorem cells159 : Try.prog.cellsOf 159 = 1 := by kernel_rfl
theorem cells196 : Try.prog.cellsOf 196 = 11 := by kernel_rfl
theorem cells193 : Try.prog.cellsOf 193 = 1 := by kernel_rfl
theorem cells194 : Try.prog.cellsOf 194 = 1 := by kernel_rfl
set_option maxRecDepth 100000 in
theorem openCoreArmCore_all {H : Type} {enc : TypeId × Value → H} {w : World} {spare : Nat → Bool} {held : Bool} (n : Nat) : (∀ {cs : List Value} {x : DataW H × List MemPlace}, DataW.trod enc Try.prog w 0 spare held n 308 cs = some x → ∃ y : TCoreArm, Rep w (Live w) y.enc cs) ∧ (∀ {cs : List Value} {x : DataW H × List MemPlace}, DataW.trod enc Try.prog w 0 spare held n 196 cs = some x → ∃ y : TCore, Rep w (Live w) y.enc cs) := by
  induction n using Nat.strongRecOn with
  | ind fuel ih =>
  have ihCoreArm : ∀ m, m < fuel → ∀ {cs : List Value} {x : DataW H × List MemPlace}, DataW.trod enc Try.prog w 0 spare held m 308 cs = some x → ∃ y : TCoreArm, Rep w (Live w) y.enc cs := fun m hm => (ih m hm).1
  have ihCore : ∀ m, m < fuel → ∀ {cs : List Value} {x : DataW H × List MemPlace}, DataW.trod enc Try.prog w 0 spare held m 196 cs = some x → ∃ y : TCore, Rep w (Live w) y.enc cs := fun m hm => (ih m hm).2
  refine ⟨?_, ?_⟩
  · intro cs x h
    obtain ⟨hl, n0, rfl, hf⟩ := open_F Try.underlying308 h
    rw [cells308] at hl
    obtain ⟨z0, y0⟩ := hf 0 _ rfl
    replace y0 : DataW.trod enc Try.prog w 0 spare held n0 9 ((cs.drop 0).take (Try.prog.cellsOf 9)) = some z0 := y0
    rw [cells9] at y0
    obtain ⟨x0, r0⟩ := open_S Try.underlying9 y0
    obtain ⟨z1, y1⟩ := hf 1 _ rfl
    replace y1 : DataW.trod enc Try.prog w 0 spare held n0 159 ((cs.drop 1).take (Try.prog.cellsOf 159)) = some z1 := y1
    rw [cells159] at y1
    obtain ⟨x1, r1⟩ := open_L (ea := encS) Try.underlying159 cells9 (by decide) encS_w (fun n cs x _ hq => open_S Try.underlying9 hq) y1
    obtain ⟨z2, y2⟩ := hf 2 _ rfl
    replace y2 : DataW.trod enc Try.prog w 0 spare held n0 196 ((cs.drop 2).take (Try.prog.cellsOf 196)) = some z2 := y2
    rw [cells196] at y2
    obtain ⟨x2, r2⟩ := ihCore n0 (by omega) y2
    refine ⟨⟨x0, x1, x2⟩, ?_⟩
    rw [TCoreArm.enc_eq]
    simp only [Rep]
    have hs := RepS.at_ (off := 0) (n := 1) (encS_w _) r0 (RepS.at_ (off := 1) (n := 1) (sl_w _) r1 (RepS.at_ (off := 2) (n := 11) (TCore.width _) r2 (RepS.end_ (off := 13) hl)))
    simpa only [List.drop_zero] using hs
  · intro cs x h
    obtain ⟨hl, n0, rfl, hf⟩ := open_F Try.underlying196 h
    rw [cells196] at hl
    obtain ⟨z0, y0⟩ := hf 0 _ rfl
    replace y0 : DataW.trod enc Try.prog w 0 spare held n0 3 ((cs.drop 0).take (Try.prog.cellsOf 3)) = some z0 := y0
    rw [cells3] at y0
    obtain ⟨x0, r0⟩ := open_I Try.underlying3 y0
    obtain ⟨z1, y1⟩ := hf 1 _ rfl
    replace y1 : DataW.trod enc Try.prog w 0 spare held n0 9 ((cs.drop 1).take (Try.prog.cellsOf 9)) = some z1 := y1
    rw [cells9] at y1
    obtain ⟨x1, r1⟩ := open_S Try.underlying9 y1
    obtain ⟨z2, y2⟩ := hf 2 _ rfl
    replace y2 : DataW.trod enc Try.prog w 0 spare held n0 9 ((cs.drop 2).take (Try.prog.cellsOf 9)) = some z2 := y2
    rw [cells9] at y2
    obtain ⟨x2, r2⟩ := open_S Try.underlying9 y2
    obtain ⟨z3, y3⟩ := hf 3 _ rfl
    replace y3 : DataW.trod enc Try.prog w 0 spare held n0 3 ((cs.drop 3).take (Try.prog.cellsOf 3)) = some z3 := y3
    rw [cells3] at y3
    obtain ⟨x3, r3⟩ := open_I Try.underlying3 y3
    obtain ⟨z4, y4⟩ := hf 4 _ rfl
    replace y4 : DataW.trod enc Try.prog w 0 spare held n0 191 ((cs.drop 4).take (Try.prog.cellsOf 191)) = some z4 := y4
    rw [cells191] at y4
    obtain ⟨x4, r4⟩ := openType_c y4
    obtain ⟨z5, y5⟩ := hf 5 _ rfl
    replace y5 : DataW.trod enc Try.prog w 0 spare held n0 189 ((cs.drop 7).take (Try.prog.cellsOf 189)) = some z5 := y5
    rw [cells189] at y5
    obtain ⟨x5, r5⟩ := open_L (ea := TType.enc) Try.underlying189 cells191 (by decide) TType.width (fun n cs x _ hq => openType_c hq) y5
    obtain ⟨z6, y6⟩ := hf 6 _ rfl
    replace y6 : DataW.trod enc Try.prog w 0 spare held n0 192 ((cs.drop 8).take (Try.prog.cellsOf 192)) = some z6 := y6
    rw [cells192] at y6
    obtain ⟨x6, r6⟩ := open_L (ea := TEvidence.enc) Try.underlying192 cells305 (by decide) TEvidence.width (fun n cs x _ hq => openEvidence_c hq) y6
    obtain ⟨z7, y7⟩ := hf 7 _ rfl
    replace y7 : DataW.trod enc Try.prog w 0 spare held n0 193 ((cs.drop 9).take (Try.prog.cellsOf 193)) = some z7 := y7
    rw [cells193] at y7
    obtain ⟨x7, r7⟩ := open_L (ea := TCore.enc) Try.underlying193 cells196 (by decide) TCore.width (fun n cs x hn hq => ihCore n (by omega) hq) y7
    obtain ⟨z8, y8⟩ := hf 8 _ rfl
    replace y8 : DataW.trod enc Try.prog w 0 spare held n0 194 ((cs.drop 10).take (Try.prog.cellsOf 194)) = some z8 := y8
    rw [cells194] at y8
    obtain ⟨x8, r8⟩ := open_L (ea := TCoreArm.enc) Try.underlying194 cells308 (by decide) TCoreArm.width (fun n cs x hn hq => ihCoreArm n (by omega) hq) y8
    refine ⟨⟨x0, x1, x2, x3, x4, x5, x6, x7, x8⟩, ?_⟩
    rw [TCore.enc_eq]
    simp only [Rep]
    have hs := RepS.at_ (off := 0) (n := 1) (encI_w _) r0 (RepS.at_ (off := 1) (n := 1) (encS_w _) r1 (RepS.at_ (off := 2) (n := 1) (encS_w _) r2 (RepS.at_ (off := 3) (n := 1) (encI_w _) r3 (RepS.at_ (off := 4) (n := 3) (TType.width _) r4 (RepS.at_ (off := 7) (n := 1) (sl_w _) r5 (RepS.at_ (off := 8) (n := 1) (sl_w _) r6 (RepS.at_ (off := 9) (n := 1) (sl_w _) r7 (RepS.at_ (off := 10) (n := 1) (sl_w _) r8 (RepS.end_ (off := 11) hl)))))))))
    simpa only [List.drop_zero] using hs
theorem openCoreArm_c {H : Type} {enc : TypeId × Value → H} {w : World} {spare : Nat → Bool} {held : Bool} : ∀ {fuel : Nat} {cs : List Value} {x : DataW H × List MemPlace}, DataW.trod enc Try.prog w 0 spare held fuel 308 cs = some x → ∃ y : TCoreArm, Rep w (Live w) y.enc cs := fun {fuel} {_} {_} h => (openCoreArmCore_all fuel).1 h
theorem openCore_c {H : Type} {enc : TypeId × Value → H} {w : World} {spare : Nat → Bool} {held : Bool} : ∀ {fuel : Nat} {cs : List Value} {x : DataW H × List MemPlace}, DataW.trod enc Try.prog w 0 spare held fuel 196 cs = some x → ∃ y : TCore, Rep w (Live w) y.enc cs := fun {fuel} {_} {_} h => (openCoreArmCore_all fuel).2 h
theorem cells202 : Try.prog.cellsOf 202 = 5 := by kernel_rfl
theorem cells200 : Try.prog.cellsOf 200 = 1 := by kernel_rfl
set_option maxRecDepth 100000 in
theorem openMethodTable_c {H : Type} {enc : TypeId × Value → H} {w : World} {spare : Nat → Bool} {held : Bool} : ∀ {fuel : Nat} {cs : List Value} {x : DataW H × List MemPlace}, DataW.trod enc Try.prog w 0 spare held fuel 202 cs = some x → ∃ y : TMethodTable, Rep w (Live w) y.enc cs := by
  intro fuel cs x h
  obtain ⟨hl, n0, rfl, hf⟩ := open_F Try.underlying202 h
  rw [cells202] at hl
  obtain ⟨z0, y0⟩ := hf 0 _ rfl
  replace y0 : DataW.trod enc Try.prog w 0 spare held n0 9 ((cs.drop 0).take (Try.prog.cellsOf 9)) = some z0 := y0
  rw [cells9] at y0
  obtain ⟨x0, r0⟩ := open_S Try.underlying9 y0
  obtain ⟨z1, y1⟩ := hf 1 _ rfl
  replace y1 : DataW.trod enc Try.prog w 0 spare held n0 191 ((cs.drop 1).take (Try.prog.cellsOf 191)) = some z1 := y1
  rw [cells191] at y1
  obtain ⟨x1, r1⟩ := openType_c y1
  obtain ⟨z2, y2⟩ := hf 2 _ rfl
  replace y2 : DataW.trod enc Try.prog w 0 spare held n0 200 ((cs.drop 4).take (Try.prog.cellsOf 200)) = some z2 := y2
  rw [cells200] at y2
  obtain ⟨x2, r2⟩ := open_L (ea := TMethodEntry.enc) Try.underlying200 cells279 (by decide) TMethodEntry.width (fun n cs x _ hq => openMethodEntry_c hq) y2
  refine ⟨⟨x0, x1, x2⟩, ?_⟩
  rw [TMethodTable.enc_eq]
  simp only [Rep]
  have hs := RepS.at_ (off := 0) (n := 1) (encS_w _) r0 (RepS.at_ (off := 1) (n := 3) (TType.width _) r1 (RepS.at_ (off := 4) (n := 1) (sl_w _) r2 (RepS.end_ (off := 5) hl)))
  simpa only [List.drop_zero] using hs
theorem cells69 : Try.prog.cellsOf 69 = 2 := by kernel_rfl
theorem cells67 : Try.prog.cellsOf 67 = 1 := by kernel_rfl
theorem cells45 : Try.prog.cellsOf 45 = 1 := by kernel_rfl
set_option maxRecDepth 100000 in
theorem openMachine_c {H : Type} {enc : TypeId × Value → H} {w : World} {spare : Nat → Bool} {held : Bool} : ∀ {fuel : Nat} {cs : List Value} {x : DataW H × List MemPlace}, DataW.trod enc Try.prog w 0 spare held fuel 69 cs = some x → ∃ y : TMachine, Rep w (Live w) y.enc cs := by
  intro fuel cs x h
  obtain ⟨hl, n0, rfl, hf⟩ := open_F Try.underlying69 h
  rw [cells69] at hl
  obtain ⟨z0, y0⟩ := hf 0 _ rfl
  replace y0 : DataW.trod enc Try.prog w 0 spare held n0 67 ((cs.drop 0).take (Try.prog.cellsOf 67)) = some z0 := y0
  rw [cells67] at y0
  obtain ⟨x0, r0⟩ := open_L (ea := TCode.enc) Try.underlying67 cells24 (by decide) TCode.width (fun n cs x _ hq => openCode_c hq) y0
  obtain ⟨z1, y1⟩ := hf 1 _ rfl
  replace y1 : DataW.trod enc Try.prog w 0 spare held n0 45 ((cs.drop 1).take (Try.prog.cellsOf 45)) = some z1 := y1
  rw [cells45] at y1
  obtain ⟨x1, r1⟩ := open_L (ea := TMethodTable.enc) Try.underlying45 cells202 (by decide) TMethodTable.width (fun n cs x _ hq => openMethodTable_c hq) y1
  refine ⟨⟨x0, x1⟩, ?_⟩
  rw [TMachine.enc_eq]
  simp only [Rep]
  have hs := RepS.at_ (off := 0) (n := 1) (sl_w _) r0 (RepS.at_ (off := 1) (n := 1) (sl_w _) r1 (RepS.end_ (off := 2) hl))
  simpa only [List.drop_zero] using hs
theorem cells320 : Try.prog.cellsOf 320 = 4 := by kernel_rfl
set_option maxRecDepth 100000 in
theorem openParam_c {H : Type} {enc : TypeId × Value → H} {w : World} {spare : Nat → Bool} {held : Bool} : ∀ {fuel : Nat} {cs : List Value} {x : DataW H × List MemPlace}, DataW.trod enc Try.prog w 0 spare held fuel 320 cs = some x → ∃ y : TParam, Rep w (Live w) y.enc cs := by
  intro fuel cs x h
  obtain ⟨hl, n0, rfl, hf⟩ := open_F Try.underlying320 h
  rw [cells320] at hl
  obtain ⟨z0, y0⟩ := hf 0 _ rfl
  replace y0 : DataW.trod enc Try.prog w 0 spare held n0 9 ((cs.drop 0).take (Try.prog.cellsOf 9)) = some z0 := y0
  rw [cells9] at y0
  obtain ⟨x0, r0⟩ := open_S Try.underlying9 y0
  obtain ⟨z1, y1⟩ := hf 1 _ rfl
  replace y1 : DataW.trod enc Try.prog w 0 spare held n0 191 ((cs.drop 1).take (Try.prog.cellsOf 191)) = some z1 := y1
  rw [cells191] at y1
  obtain ⟨x1, r1⟩ := openType_c y1
  refine ⟨⟨x0, x1⟩, ?_⟩
  rw [TParam.enc_eq]
  simp only [Rep]
  have hs := RepS.at_ (off := 0) (n := 1) (encS_w _) r0 (RepS.at_ (off := 1) (n := 3) (TType.width _) r1 (RepS.end_ (off := 4) hl))
  simpa only [List.drop_zero] using hs
theorem cells198 : Try.prog.cellsOf 198 = 14 := by kernel_rfl
set_option maxRecDepth 100000 in
theorem openSpecialization_c {H : Type} {enc : TypeId × Value → H} {w : World} {spare : Nat → Bool} {held : Bool} : ∀ {fuel : Nat} {cs : List Value} {x : DataW H × List MemPlace}, DataW.trod enc Try.prog w 0 spare held fuel 198 cs = some x → ∃ y : TSpecialization, Rep w (Live w) y.enc cs := by
  intro fuel cs x h
  obtain ⟨hl, n0, rfl, hf⟩ := open_F Try.underlying198 h
  rw [cells198] at hl
  obtain ⟨z0, y0⟩ := hf 0 _ rfl
  replace y0 : DataW.trod enc Try.prog w 0 spare held n0 3 ((cs.drop 0).take (Try.prog.cellsOf 3)) = some z0 := y0
  rw [cells3] at y0
  obtain ⟨x0, r0⟩ := open_I Try.underlying3 y0
  obtain ⟨z1, y1⟩ := hf 1 _ rfl
  replace y1 : DataW.trod enc Try.prog w 0 spare held n0 189 ((cs.drop 1).take (Try.prog.cellsOf 189)) = some z1 := y1
  rw [cells189] at y1
  obtain ⟨x1, r1⟩ := open_L (ea := TType.enc) Try.underlying189 cells191 (by decide) TType.width (fun n cs x _ hq => openType_c hq) y1
  obtain ⟨z2, y2⟩ := hf 2 _ rfl
  replace y2 : DataW.trod enc Try.prog w 0 spare held n0 159 ((cs.drop 2).take (Try.prog.cellsOf 159)) = some z2 := y2
  rw [cells159] at y2
  obtain ⟨x2, r2⟩ := open_L (ea := encS) Try.underlying159 cells9 (by decide) encS_w (fun n cs x _ hq => open_S Try.underlying9 hq) y2
  obtain ⟨z3, y3⟩ := hf 3 _ rfl
  replace y3 : DataW.trod enc Try.prog w 0 spare held n0 196 ((cs.drop 3).take (Try.prog.cellsOf 196)) = some z3 := y3
  rw [cells196] at y3
  obtain ⟨x3, r3⟩ := openCore_c y3
  refine ⟨⟨x0, x1, x2, x3⟩, ?_⟩
  rw [TSpecialization.enc_eq]
  simp only [Rep]
  have hs := RepS.at_ (off := 0) (n := 1) (encI_w _) r0 (RepS.at_ (off := 1) (n := 1) (sl_w _) r1 (RepS.at_ (off := 2) (n := 1) (sl_w _) r2 (RepS.at_ (off := 3) (n := 11) (TCore.width _) r3 (RepS.end_ (off := 14) hl))))
  simpa only [List.drop_zero] using hs
theorem cells47 : Try.prog.cellsOf 47 = 2 := by kernel_rfl
theorem cells44 : Try.prog.cellsOf 44 = 1 := by kernel_rfl
set_option maxRecDepth 100000 in
theorem openMonoProgram_c {H : Type} {enc : TypeId × Value → H} {w : World} {spare : Nat → Bool} {held : Bool} : ∀ {fuel : Nat} {cs : List Value} {x : DataW H × List MemPlace}, DataW.trod enc Try.prog w 0 spare held fuel 47 cs = some x → ∃ y : TMonoProgram, Rep w (Live w) y.enc cs := by
  intro fuel cs x h
  obtain ⟨hl, n0, rfl, hf⟩ := open_F Try.underlying47 h
  rw [cells47] at hl
  obtain ⟨z0, y0⟩ := hf 0 _ rfl
  replace y0 : DataW.trod enc Try.prog w 0 spare held n0 44 ((cs.drop 0).take (Try.prog.cellsOf 44)) = some z0 := y0
  rw [cells44] at y0
  obtain ⟨x0, r0⟩ := open_L (ea := TSpecialization.enc) Try.underlying44 cells198 (by decide) TSpecialization.width (fun n cs x _ hq => openSpecialization_c hq) y0
  obtain ⟨z1, y1⟩ := hf 1 _ rfl
  replace y1 : DataW.trod enc Try.prog w 0 spare held n0 45 ((cs.drop 1).take (Try.prog.cellsOf 45)) = some z1 := y1
  rw [cells45] at y1
  obtain ⟨x1, r1⟩ := open_L (ea := TMethodTable.enc) Try.underlying45 cells202 (by decide) TMethodTable.width (fun n cs x _ hq => openMethodTable_c hq) y1
  refine ⟨⟨x0, x1⟩, ?_⟩
  rw [TMonoProgram.enc_eq]
  simp only [Rep]
  have hs := RepS.at_ (off := 0) (n := 1) (sl_w _) r0 (RepS.at_ (off := 1) (n := 1) (sl_w _) r1 (RepS.end_ (off := 2) hl))
  simpa only [List.drop_zero] using hs
theorem cells291 : Try.prog.cellsOf 291 = 21 := by kernel_rfl
theorem cells288 : Try.prog.cellsOf 288 = 1 := by kernel_rfl
theorem cells289 : Try.prog.cellsOf 289 = 1 := by kernel_rfl
set_option maxRecDepth 100000 in
theorem openUnit_c {H : Type} {enc : TypeId × Value → H} {w : World} {spare : Nat → Bool} {held : Bool} : ∀ {fuel : Nat} {cs : List Value} {x : DataW H × List MemPlace}, DataW.trod enc Try.prog w 0 spare held fuel 291 cs = some x → ∃ y : TUnit, Rep w (Live w) y.enc cs := by
  intro fuel cs x h
  obtain ⟨hl, n0, rfl, hf⟩ := open_F Try.underlying291 h
  rw [cells291] at hl
  obtain ⟨z0, y0⟩ := hf 0 _ rfl
  replace y0 : DataW.trod enc Try.prog w 0 spare held n0 3 ((cs.drop 0).take (Try.prog.cellsOf 3)) = some z0 := y0
  rw [cells3] at y0
  obtain ⟨x0, r0⟩ := open_I Try.underlying3 y0
  obtain ⟨z1, y1⟩ := hf 1 _ rfl
  replace y1 : DataW.trod enc Try.prog w 0 spare held n0 3 ((cs.drop 1).take (Try.prog.cellsOf 3)) = some z1 := y1
  rw [cells3] at y1
  obtain ⟨x1, r1⟩ := open_I Try.underlying3 y1
  obtain ⟨z2, y2⟩ := hf 2 _ rfl
  replace y2 : DataW.trod enc Try.prog w 0 spare held n0 3 ((cs.drop 2).take (Try.prog.cellsOf 3)) = some z2 := y2
  rw [cells3] at y2
  obtain ⟨x2, r2⟩ := open_I Try.underlying3 y2
  obtain ⟨z3, y3⟩ := hf 3 _ rfl
  replace y3 : DataW.trod enc Try.prog w 0 spare held n0 3 ((cs.drop 3).take (Try.prog.cellsOf 3)) = some z3 := y3
  rw [cells3] at y3
  obtain ⟨x3, r3⟩ := open_I Try.underlying3 y3
  obtain ⟨z4, y4⟩ := hf 4 _ rfl
  replace y4 : DataW.trod enc Try.prog w 0 spare held n0 159 ((cs.drop 4).take (Try.prog.cellsOf 159)) = some z4 := y4
  rw [cells159] at y4
  obtain ⟨x4, r4⟩ := open_L (ea := encS) Try.underlying159 cells9 (by decide) encS_w (fun n cs x _ hq => open_S Try.underlying9 hq) y4
  obtain ⟨z5, y5⟩ := hf 5 _ rfl
  replace y5 : DataW.trod enc Try.prog w 0 spare held n0 288 ((cs.drop 5).take (Try.prog.cellsOf 288)) = some z5 := y5
  rw [cells288] at y5
  obtain ⟨x5, r5⟩ := open_L (ea := TBound.enc) Try.underlying288 cells317 (by decide) TBound.width (fun n cs x _ hq => openBound_c hq) y5
  obtain ⟨z6, y6⟩ := hf 6 _ rfl
  replace y6 : DataW.trod enc Try.prog w 0 spare held n0 289 ((cs.drop 6).take (Try.prog.cellsOf 289)) = some z6 := y6
  rw [cells289] at y6
  obtain ⟨x6, r6⟩ := open_L (ea := TParam.enc) Try.underlying289 cells320 (by decide) TParam.width (fun n cs x _ hq => openParam_c hq) y6
  obtain ⟨z7, y7⟩ := hf 7 _ rfl
  replace y7 : DataW.trod enc Try.prog w 0 spare held n0 191 ((cs.drop 7).take (Try.prog.cellsOf 191)) = some z7 := y7
  rw [cells191] at y7
  obtain ⟨x7, r7⟩ := openType_c y7
  obtain ⟨z8, y8⟩ := hf 8 _ rfl
  replace y8 : DataW.trod enc Try.prog w 0 spare held n0 196 ((cs.drop 10).take (Try.prog.cellsOf 196)) = some z8 := y8
  rw [cells196] at y8
  obtain ⟨x8, r8⟩ := openCore_c y8
  refine ⟨⟨x0, x1, x2, x3, x4, x5, x6, x7, x8⟩, ?_⟩
  rw [TUnit.enc_eq]
  simp only [Rep]
  have hs := RepS.at_ (off := 0) (n := 1) (encI_w _) r0 (RepS.at_ (off := 1) (n := 1) (encI_w _) r1 (RepS.at_ (off := 2) (n := 1) (encI_w _) r2 (RepS.at_ (off := 3) (n := 1) (encI_w _) r3 (RepS.at_ (off := 4) (n := 1) (sl_w _) r4 (RepS.at_ (off := 5) (n := 1) (sl_w _) r5 (RepS.at_ (off := 6) (n := 1) (sl_w _) r6 (RepS.at_ (off := 7) (n := 3) (TType.width _) r7 (RepS.at_ (off := 10) (n := 11) (TCore.width _) r8 (RepS.end_ (off := 21) hl)))))))))
  simpa only [List.drop_zero] using hs
theorem cells295 : Try.prog.cellsOf 295 = 6 := by kernel_rfl
set_option maxRecDepth 100000 in
theorem openUnitError_c {H : Type} {enc : TypeId × Value → H} {w : World} {spare : Nat → Bool} {held : Bool} : ∀ {fuel : Nat} {cs : List Value} {x : DataW H × List MemPlace}, DataW.trod enc Try.prog w 0 spare held fuel 295 cs = some x → ∃ y : TUnitError, Rep w (Live w) y.enc cs := by
  intro fuel cs x h
  obtain ⟨hl, n0, rfl, hf⟩ := open_F Try.underlying295 h
  rw [cells295] at hl
  obtain ⟨z0, y0⟩ := hf 0 _ rfl
  replace y0 : DataW.trod enc Try.prog w 0 spare held n0 3 ((cs.drop 0).take (Try.prog.cellsOf 3)) = some z0 := y0
  rw [cells3] at y0
  obtain ⟨x0, r0⟩ := open_I Try.underlying3 y0
  obtain ⟨z1, y1⟩ := hf 1 _ rfl
  replace y1 : DataW.trod enc Try.prog w 0 spare held n0 3 ((cs.drop 1).take (Try.prog.cellsOf 3)) = some z1 := y1
  rw [cells3] at y1
  obtain ⟨x1, r1⟩ := open_I Try.underlying3 y1
  obtain ⟨z2, y2⟩ := hf 2 _ rfl
  replace y2 : DataW.trod enc Try.prog w 0 spare held n0 3 ((cs.drop 2).take (Try.prog.cellsOf 3)) = some z2 := y2
  rw [cells3] at y2
  obtain ⟨x2, r2⟩ := open_I Try.underlying3 y2
  obtain ⟨z3, y3⟩ := hf 3 _ rfl
  replace y3 : DataW.trod enc Try.prog w 0 spare held n0 3 ((cs.drop 3).take (Try.prog.cellsOf 3)) = some z3 := y3
  rw [cells3] at y3
  obtain ⟨x3, r3⟩ := open_I Try.underlying3 y3
  obtain ⟨z4, y4⟩ := hf 4 _ rfl
  replace y4 : DataW.trod enc Try.prog w 0 spare held n0 3 ((cs.drop 4).take (Try.prog.cellsOf 3)) = some z4 := y4
  rw [cells3] at y4
  obtain ⟨x4, r4⟩ := open_I Try.underlying3 y4
  obtain ⟨z5, y5⟩ := hf 5 _ rfl
  replace y5 : DataW.trod enc Try.prog w 0 spare held n0 3 ((cs.drop 5).take (Try.prog.cellsOf 3)) = some z5 := y5
  rw [cells3] at y5
  obtain ⟨x5, r5⟩ := open_I Try.underlying3 y5
  refine ⟨⟨x0, x1, x2, x3, x4, x5⟩, ?_⟩
  rw [TUnitError.enc_eq]
  simp only [Rep]
  have hs := RepS.at_ (off := 0) (n := 1) (encI_w _) r0 (RepS.at_ (off := 1) (n := 1) (encI_w _) r1 (RepS.at_ (off := 2) (n := 1) (encI_w _) r2 (RepS.at_ (off := 3) (n := 1) (encI_w _) r3 (RepS.at_ (off := 4) (n := 1) (encI_w _) r4 (RepS.at_ (off := 5) (n := 1) (encI_w _) r5 (RepS.end_ (off := 6) hl))))))
  simpa only [List.drop_zero] using hs
theorem cells211 : Try.prog.cellsOf 211 = 4 := by kernel_rfl
theorem cells208 : Try.prog.cellsOf 208 = 1 := by kernel_rfl
theorem cells209 : Try.prog.cellsOf 209 = 1 := by kernel_rfl
set_option maxRecDepth 100000 in
theorem openBuiltPackage_c {H : Type} {enc : TypeId × Value → H} {w : World} {spare : Nat → Bool} {held : Bool} : ∀ {fuel : Nat} {cs : List Value} {x : DataW H × List MemPlace}, DataW.trod enc Try.prog w 0 spare held fuel 211 cs = some x → ∃ y : TBuiltPackage, Rep w (Live w) y.enc cs := by
  intro fuel cs x h
  obtain ⟨hl, n0, rfl, hf⟩ := open_F Try.underlying211 h
  rw [cells211] at hl
  obtain ⟨z0, y0⟩ := hf 0 _ rfl
  replace y0 : DataW.trod enc Try.prog w 0 spare held n0 9 ((cs.drop 0).take (Try.prog.cellsOf 9)) = some z0 := y0
  rw [cells9] at y0
  obtain ⟨x0, r0⟩ := open_S Try.underlying9 y0
  obtain ⟨z1, y1⟩ := hf 1 _ rfl
  replace y1 : DataW.trod enc Try.prog w 0 spare held n0 9 ((cs.drop 1).take (Try.prog.cellsOf 9)) = some z1 := y1
  rw [cells9] at y1
  obtain ⟨x1, r1⟩ := open_S Try.underlying9 y1
  obtain ⟨z2, y2⟩ := hf 2 _ rfl
  replace y2 : DataW.trod enc Try.prog w 0 spare held n0 208 ((cs.drop 2).take (Try.prog.cellsOf 208)) = some z2 := y2
  rw [cells208] at y2
  obtain ⟨x2, r2⟩ := open_L (ea := TUnit.enc) Try.underlying208 cells291 (by decide) TUnit.width (fun n cs x _ hq => openUnit_c hq) y2
  obtain ⟨z3, y3⟩ := hf 3 _ rfl
  replace y3 : DataW.trod enc Try.prog w 0 spare held n0 209 ((cs.drop 3).take (Try.prog.cellsOf 209)) = some z3 := y3
  rw [cells209] at y3
  obtain ⟨x3, r3⟩ := open_L (ea := TUnitError.enc) Try.underlying209 cells295 (by decide) TUnitError.width (fun n cs x _ hq => openUnitError_c hq) y3
  refine ⟨⟨x0, x1, x2, x3⟩, ?_⟩
  rw [TBuiltPackage.enc_eq]
  simp only [Rep]
  have hs := RepS.at_ (off := 0) (n := 1) (encS_w _) r0 (RepS.at_ (off := 1) (n := 1) (encS_w _) r1 (RepS.at_ (off := 2) (n := 1) (sl_w _) r2 (RepS.at_ (off := 3) (n := 1) (sl_w _) r3 (RepS.end_ (off := 4) hl))))
  simpa only [List.drop_zero] using hs
theorem cells59 : Try.prog.cellsOf 59 = 1 := by kernel_rfl
theorem cells57 : Try.prog.cellsOf 57 = 1 := by kernel_rfl
set_option maxRecDepth 100000 in
theorem openBuild_c {H : Type} {enc : TypeId × Value → H} {w : World} {spare : Nat → Bool} {held : Bool} : ∀ {fuel : Nat} {cs : List Value} {x : DataW H × List MemPlace}, DataW.trod enc Try.prog w 0 spare held fuel 59 cs = some x → ∃ y : TBuild, Rep w (Live w) y.enc cs := by
  intro fuel cs x h
  obtain ⟨hl, n0, rfl, hf⟩ := open_F Try.underlying59 h
  rw [cells59] at hl
  obtain ⟨z0, y0⟩ := hf 0 _ rfl
  replace y0 : DataW.trod enc Try.prog w 0 spare held n0 57 ((cs.drop 0).take (Try.prog.cellsOf 57)) = some z0 := y0
  rw [cells57] at y0
  obtain ⟨x0, r0⟩ := open_L (ea := TBuiltPackage.enc) Try.underlying57 cells211 (by decide) TBuiltPackage.width (fun n cs x _ hq => openBuiltPackage_c hq) y0
  refine ⟨⟨x0⟩, ?_⟩
  rw [TBuild.enc_eq]
  simp only [Rep]
  have hs := RepS.at_ (off := 0) (n := 1) (sl_w _) r0 (RepS.end_ (off := 1) hl)
  simpa only [List.drop_zero] using hs
theorem cells147 : Try.prog.cellsOf 147 = 9 := by kernel_rfl
theorem cells32 : Try.prog.cellsOf 32 = 1 := by kernel_rfl
set_option maxRecDepth 100000 in
theorem openValue_all {H : Type} {enc : TypeId × Value → H} {w : World} {spare : Nat → Bool} {held : Bool} (n : Nat) : (∀ {cs : List Value} {x : DataW H × List MemPlace}, DataW.trod enc Try.prog w 0 spare held n 147 cs = some x → ∃ y : TValue, Rep w (Live w) y.enc cs) := by
  induction n using Nat.strongRecOn with
  | ind fuel ih =>
  have ihValue : ∀ m, m < fuel → ∀ {cs : List Value} {x : DataW H × List MemPlace}, DataW.trod enc Try.prog w 0 spare held m 147 cs = some x → ∃ y : TValue, Rep w (Live w) y.enc cs := fun m hm => (ih m hm)
  · intro cs x h
    obtain ⟨hl, n0, rfl, hf⟩ := open_F Try.underlying147 h
    rw [cells147] at hl
    obtain ⟨z0, y0⟩ := hf 0 _ rfl
    replace y0 : DataW.trod enc Try.prog w 0 spare held n0 3 ((cs.drop 0).take (Try.prog.cellsOf 3)) = some z0 := y0
    rw [cells3] at y0
    obtain ⟨x0, r0⟩ := open_I Try.underlying3 y0
    obtain ⟨z1, y1⟩ := hf 1 _ rfl
    replace y1 : DataW.trod enc Try.prog w 0 spare held n0 3 ((cs.drop 1).take (Try.prog.cellsOf 3)) = some z1 := y1
    rw [cells3] at y1
    obtain ⟨x1, r1⟩ := open_I Try.underlying3 y1
    obtain ⟨z2, y2⟩ := hf 2 _ rfl
    replace y2 : DataW.trod enc Try.prog w 0 spare held n0 9 ((cs.drop 2).take (Try.prog.cellsOf 9)) = some z2 := y2
    rw [cells9] at y2
    obtain ⟨x2, r2⟩ := open_S Try.underlying9 y2
    obtain ⟨z3, y3⟩ := hf 3 _ rfl
    replace y3 : DataW.trod enc Try.prog w 0 spare held n0 145 ((cs.drop 3).take (Try.prog.cellsOf 145)) = some z3 := y3
    rw [cells145] at y3
    obtain ⟨x3, r3⟩ := openDictionary_c y3
    obtain ⟨z4, y4⟩ := hf 4 _ rfl
    replace y4 : DataW.trod enc Try.prog w 0 spare held n0 32 ((cs.drop 8).take (Try.prog.cellsOf 32)) = some z4 := y4
    rw [cells32] at y4
    obtain ⟨x4, r4⟩ := open_L (ea := TValue.enc) Try.underlying32 cells147 (by decide) TValue.width (fun n cs x hn hq => ihValue n (by omega) hq) y4
    refine ⟨⟨x0, x1, x2, x3, x4⟩, ?_⟩
    rw [TValue.enc_eq]
    simp only [Rep]
    have hs := RepS.at_ (off := 0) (n := 1) (encI_w _) r0 (RepS.at_ (off := 1) (n := 1) (encI_w _) r1 (RepS.at_ (off := 2) (n := 1) (encS_w _) r2 (RepS.at_ (off := 3) (n := 5) (TDictionary.width _) r3 (RepS.at_ (off := 8) (n := 1) (sl_w _) r4 (RepS.end_ (off := 9) hl)))))
    simpa only [List.drop_zero] using hs
theorem openValue_c {H : Type} {enc : TypeId × Value → H} {w : World} {spare : Nat → Bool} {held : Bool} : ∀ {fuel : Nat} {cs : List Value} {x : DataW H × List MemPlace}, DataW.trod enc Try.prog w 0 spare held fuel 147 cs = some x → ∃ y : TValue, Rep w (Live w) y.enc cs := fun {fuel} {_} {_} h => (openValue_all fuel) h
theorem cells185 : Try.prog.cellsOf 185 = 4 := by kernel_rfl
set_option maxRecDepth 100000 in
theorem openFrame_c {H : Type} {enc : TypeId × Value → H} {w : World} {spare : Nat → Bool} {held : Bool} : ∀ {fuel : Nat} {cs : List Value} {x : DataW H × List MemPlace}, DataW.trod enc Try.prog w 0 spare held fuel 185 cs = some x → ∃ y : TFrame, Rep w (Live w) y.enc cs := by
  intro fuel cs x h
  obtain ⟨hl, n0, rfl, hf⟩ := open_F Try.underlying185 h
  rw [cells185] at hl
  obtain ⟨z0, y0⟩ := hf 0 _ rfl
  replace y0 : DataW.trod enc Try.prog w 0 spare held n0 3 ((cs.drop 0).take (Try.prog.cellsOf 3)) = some z0 := y0
  rw [cells3] at y0
  obtain ⟨x0, r0⟩ := open_I Try.underlying3 y0
  obtain ⟨z1, y1⟩ := hf 1 _ rfl
  replace y1 : DataW.trod enc Try.prog w 0 spare held n0 3 ((cs.drop 1).take (Try.prog.cellsOf 3)) = some z1 := y1
  rw [cells3] at y1
  obtain ⟨x1, r1⟩ := open_I Try.underlying3 y1
  obtain ⟨z2, y2⟩ := hf 2 _ rfl
  replace y2 : DataW.trod enc Try.prog w 0 spare held n0 3 ((cs.drop 2).take (Try.prog.cellsOf 3)) = some z2 := y2
  rw [cells3] at y2
  obtain ⟨x2, r2⟩ := open_I Try.underlying3 y2
  obtain ⟨z3, y3⟩ := hf 3 _ rfl
  replace y3 : DataW.trod enc Try.prog w 0 spare held n0 32 ((cs.drop 3).take (Try.prog.cellsOf 32)) = some z3 := y3
  rw [cells32] at y3
  obtain ⟨x3, r3⟩ := open_L (ea := TValue.enc) Try.underlying32 cells147 (by decide) TValue.width (fun n cs x _ hq => openValue_c hq) y3
  refine ⟨⟨x0, x1, x2, x3⟩, ?_⟩
  rw [TFrame.enc_eq]
  simp only [Rep]
  have hs := RepS.at_ (off := 0) (n := 1) (encI_w _) r0 (RepS.at_ (off := 1) (n := 1) (encI_w _) r1 (RepS.at_ (off := 2) (n := 1) (encI_w _) r2 (RepS.at_ (off := 3) (n := 1) (sl_w _) r3 (RepS.end_ (off := 4) hl))))
  simpa only [List.drop_zero] using hs
theorem cells35 : Try.prog.cellsOf 35 = 5 := by kernel_rfl
theorem cells33 : Try.prog.cellsOf 33 = 1 := by kernel_rfl
theorem cells4 : Try.prog.cellsOf 4 = 1 := by kernel_rfl
set_option maxRecDepth 100000 in
theorem openVM_c {H : Type} {enc : TypeId × Value → H} {w : World} {spare : Nat → Bool} {held : Bool} : ∀ {fuel : Nat} {cs : List Value} {x : DataW H × List MemPlace}, DataW.trod enc Try.prog w 0 spare held fuel 35 cs = some x → ∃ y : TVM, Rep w (Live w) y.enc cs := by
  intro fuel cs x h
  obtain ⟨hl, n0, rfl, hf⟩ := open_F Try.underlying35 h
  rw [cells35] at hl
  obtain ⟨z0, y0⟩ := hf 0 _ rfl
  replace y0 : DataW.trod enc Try.prog w 0 spare held n0 32 ((cs.drop 0).take (Try.prog.cellsOf 32)) = some z0 := y0
  rw [cells32] at y0
  obtain ⟨x0, r0⟩ := open_L (ea := TValue.enc) Try.underlying32 cells147 (by decide) TValue.width (fun n cs x _ hq => openValue_c hq) y0
  obtain ⟨z1, y1⟩ := hf 1 _ rfl
  replace y1 : DataW.trod enc Try.prog w 0 spare held n0 33 ((cs.drop 1).take (Try.prog.cellsOf 33)) = some z1 := y1
  rw [cells33] at y1
  obtain ⟨x1, r1⟩ := open_L (ea := TFrame.enc) Try.underlying33 cells185 (by decide) TFrame.width (fun n cs x _ hq => openFrame_c hq) y1
  obtain ⟨z2, y2⟩ := hf 2 _ rfl
  replace y2 : DataW.trod enc Try.prog w 0 spare held n0 3 ((cs.drop 2).take (Try.prog.cellsOf 3)) = some z2 := y2
  rw [cells3] at y2
  obtain ⟨x2, r2⟩ := open_I Try.underlying3 y2
  obtain ⟨z3, y3⟩ := hf 3 _ rfl
  replace y3 : DataW.trod enc Try.prog w 0 spare held n0 3 ((cs.drop 3).take (Try.prog.cellsOf 3)) = some z3 := y3
  rw [cells3] at y3
  obtain ⟨x3, r3⟩ := open_I Try.underlying3 y3
  obtain ⟨z4, y4⟩ := hf 4 _ rfl
  replace y4 : DataW.trod enc Try.prog w 0 spare held n0 4 ((cs.drop 4).take (Try.prog.cellsOf 4)) = some z4 := y4
  rw [cells4] at y4
  obtain ⟨x4, r4⟩ := open_B Try.underlying4 y4
  refine ⟨⟨x0, x1, x2, x3, x4⟩, ?_⟩
  rw [TVM.enc_eq]
  simp only [Rep]
  have hs := RepS.at_ (off := 0) (n := 1) (sl_w _) r0 (RepS.at_ (off := 1) (n := 1) (sl_w _) r1 (RepS.at_ (off := 2) (n := 1) (encI_w _) r2 (RepS.at_ (off := 3) (n := 1) (encI_w _) r3 (RepS.at_ (off := 4) (n := 1) (encB_w _) r4 (RepS.end_ (off := 5) hl)))))
  simpa only [List.drop_zero] using hs
end Go.Proofs.Ytonohebdkeakdaa
