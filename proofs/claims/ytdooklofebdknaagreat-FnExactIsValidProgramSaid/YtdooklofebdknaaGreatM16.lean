/- Part 16. No condition. -/
import Derived.Test.YtdooklofebdknaaGreatM15
import Derived.Lib.AppendZeros
import Derived.Lib.SmallJoins
import Derived.Shelf.Strings.Search1
namespace Go.Proofs.YtdooklofebdknaaGreat
open Go.ChangeShapes Go.WideShapes Go.ChangeAt Go.RowKit Go.Shelf Tryz
set_option linter.unusedSimpArgs false
set_option linter.unusedVariables false
set_option maxRecDepth 100000
theorem CZ:prog.cellsOf 215=3:=by kernel_rfl
theorem P7:prog.cellsOf 3=1:=by kernel_rfl
theorem Bt:prog.cellsOf 9=1:=by kernel_rfl
theorem Jp:prog.cellsOf 213=1:=by kernel_rfl
set_option maxRecDepth 100000 in
theorem LU {H:Type} {enc:TypeId×Value→H} {w:World} {spare:Nat→Bool} {held:Bool} (n:Nat):(∀{cs:List Value} {x:DataW H×List MemPlace},DataW.trod enc prog w 0 spare held n 215 cs=some x→∃y:A0,Rep w (Di w) y.enc cs):=by
 induction n using Nat.strongRecOn with
 |ind fuel ih=>
 have ihType:∀m,m<fuel→∀{cs:List Value} {x:DataW H×List MemPlace},DataW.trod enc prog w 0 spare held m 215 cs=some x→∃y:A0,Rep w (Di w) y.enc cs:=fun m hm=>(ih m hm)
 ·intro cs x h
  obtain⟨hl,n0,rfl,hf⟩:=DH underlying215 h
  rw[CZ] at hl
  obtain⟨z0,y0⟩:=hf 0 _ rfl
  replace y0:DataW.trod enc prog w 0 spare held n0 3 ((cs.drop 0).take (prog.cellsOf 3))=some z0:=y0
  rw[P7] at y0
  obtain⟨x0,r0⟩:=Oh underlying3 y0
  obtain⟨z1,y1⟩:=hf 1 _ rfl
  replace y1:DataW.trod enc prog w 0 spare held n0 9 ((cs.drop 1).take (prog.cellsOf 9))=some z1:=y1
  rw[Bt] at y1
  obtain⟨x1,r1⟩:=Br underlying9 y1
  obtain⟨z2,y2⟩:=hf 2 _ rfl
  replace y2:DataW.trod enc prog w 0 spare held n0 213 ((cs.drop 2).take (prog.cellsOf 213))=some z2:=y2
  rw[Jp] at y2
  obtain⟨x2,r2⟩:=Bg (ea:=A0.enc) underlying213 CZ (by decide) A0.width (fun n cs x hn hq=>ihType n (by omega) hq) y2
  refine⟨⟨x0,x1,x2⟩,?_⟩
  rw[A0.enc_eq]
  simp only[Rep]
  have hs:=B2.at_ (off:=0) (n:=1) (Oz _) r0 (B2.at_ (off:=1) (n:=1) (Bs _) r1 (B2.at_ (off:=2) (n:=1) (Ds _) r2 (B2.end_ (off:=3) hl)))
  simpa only[List.drop_zero] using hs
theorem CF {H:Type} {enc:TypeId×Value→H} {w:World} {spare:Nat→Bool} {held:Bool}:∀{fuel:Nat} {cs:List Value} {x:DataW H×List MemPlace},DataW.trod enc prog w 0 spare held fuel 215 cs=some x→∃y:A0,Rep w (Di w) y.enc cs:=fun {fuel} {_} {_} h=>(LU fuel) h
theorem Nz:prog.cellsOf 388=11:=by kernel_rfl
theorem EO:prog.cellsOf 43=1:=by kernel_rfl
theorem Eu:prog.cellsOf 225=9:=by kernel_rfl
theorem WJ:prog.cellsOf 222=1:=by kernel_rfl
theorem WI:prog.cellsOf 223=1:=by kernel_rfl
set_option maxRecDepth 100000 in
theorem ID {H:Type} {enc:TypeId×Value→H} {w:World} {spare:Nat→Bool} {held:Bool} (n:Nat):(∀{cs:List Value} {x:DataW H×List MemPlace},DataW.trod enc prog w 0 spare held n 388 cs=some x→∃y:Ab,Rep w (Di w) y.enc cs)∧(∀{cs:List Value} {x:DataW H×List MemPlace},DataW.trod enc prog w 0 spare held n 225 cs=some x→∃y:AG,Rep w (Di w) y.enc cs):=by
 induction n using Nat.strongRecOn with
 |ind fuel ih=>
 have ihArm:∀m,m<fuel→∀{cs:List Value} {x:DataW H×List MemPlace},DataW.trod enc prog w 0 spare held m 388 cs=some x→∃y:Ab,Rep w (Di w) y.enc cs:=fun m hm=>(ih m hm).1
 have ihExpr:∀m,m<fuel→∀{cs:List Value} {x:DataW H×List MemPlace},DataW.trod enc prog w 0 spare held m 225 cs=some x→∃y:AG,Rep w (Di w) y.enc cs:=fun m hm=>(ih m hm).2
 refine⟨?_,?_⟩
 ·intro cs x h
  obtain⟨hl,n0,rfl,hf⟩:=DH underlying388 h
  rw[Nz] at hl
  obtain⟨z0,y0⟩:=hf 0 _ rfl
  replace y0:DataW.trod enc prog w 0 spare held n0 9 ((cs.drop 0).take (prog.cellsOf 9))=some z0:=y0
  rw[Bt] at y0
  obtain⟨x0,r0⟩:=Br underlying9 y0
  obtain⟨z1,y1⟩:=hf 1 _ rfl
  replace y1:DataW.trod enc prog w 0 spare held n0 43 ((cs.drop 1).take (prog.cellsOf 43))=some z1:=y1
  rw[EO] at y1
  obtain⟨x1,r1⟩:=Bg (ea:=BG) underlying43 Bt (by decide) Bs (fun n cs x _ hq=>Br underlying9 hq) y1
  obtain⟨z2,y2⟩:=hf 2 _ rfl
  replace y2:DataW.trod enc prog w 0 spare held n0 225 ((cs.drop 2).take (prog.cellsOf 225))=some z2:=y2
  rw[Eu] at y2
  obtain⟨x2,r2⟩:=ihExpr n0 (by omega) y2
  refine⟨⟨x0,x1,x2⟩,?_⟩
  rw[Ab.enc_eq]
  simp only[Rep]
  have hs:=B2.at_ (off:=0) (n:=1) (Bs _) r0 (B2.at_ (off:=1) (n:=1) (Ds _) r1 (B2.at_ (off:=2) (n:=9) (AG.width _) r2 (B2.end_ (off:=11) hl)))
  simpa only[List.drop_zero] using hs
 ·intro cs x h
  obtain⟨hl,n0,rfl,hf⟩:=DH underlying225 h
  rw[Eu] at hl
  obtain⟨z0,y0⟩:=hf 0 _ rfl
  replace y0:DataW.trod enc prog w 0 spare held n0 3 ((cs.drop 0).take (prog.cellsOf 3))=some z0:=y0
  rw[P7] at y0
  obtain⟨x0,r0⟩:=Oh underlying3 y0
  obtain⟨z1,y1⟩:=hf 1 _ rfl
  replace y1:DataW.trod enc prog w 0 spare held n0 9 ((cs.drop 1).take (prog.cellsOf 9))=some z1:=y1
  rw[Bt] at y1
  obtain⟨x1,r1⟩:=Br underlying9 y1
  obtain⟨z2,y2⟩:=hf 2 _ rfl
  replace y2:DataW.trod enc prog w 0 spare held n0 9 ((cs.drop 2).take (prog.cellsOf 9))=some z2:=y2
  rw[Bt] at y2
  obtain⟨x2,r2⟩:=Br underlying9 y2
  obtain⟨z3,y3⟩:=hf 3 _ rfl
  replace y3:DataW.trod enc prog w 0 spare held n0 3 ((cs.drop 3).take (prog.cellsOf 3))=some z3:=y3
  rw[P7] at y3
  obtain⟨x3,r3⟩:=Oh underlying3 y3
  obtain⟨z4,y4⟩:=hf 4 _ rfl
  replace y4:DataW.trod enc prog w 0 spare held n0 215 ((cs.drop 4).take (prog.cellsOf 215))=some z4:=y4
  rw[CZ] at y4
  obtain⟨x4,r4⟩:=CF y4
  obtain⟨z5,y5⟩:=hf 5 _ rfl
  replace y5:DataW.trod enc prog w 0 spare held n0 222 ((cs.drop 7).take (prog.cellsOf 222))=some z5:=y5
  rw[WJ] at y5
  obtain⟨x5,r5⟩:=Bg (ea:=AG.enc) underlying222 Eu (by decide) AG.width (fun n cs x hn hq=>ihExpr n (by omega) hq) y5
  obtain⟨z6,y6⟩:=hf 6 _ rfl
  replace y6:DataW.trod enc prog w 0 spare held n0 223 ((cs.drop 8).take (prog.cellsOf 223))=some z6:=y6
  rw[WI] at y6
  obtain⟨x6,r6⟩:=Bg (ea:=Ab.enc) underlying223 Nz (by decide) Ab.width (fun n cs x hn hq=>ihArm n (by omega) hq) y6
  refine⟨⟨x0,x1,x2,x3,x4,x5,x6⟩,?_⟩
  rw[AG.enc_eq]
  simp only[Rep]
  have hs:=B2.at_ (off:=0) (n:=1) (Oz _) r0 (B2.at_ (off:=1) (n:=1) (Bs _) r1 (B2.at_ (off:=2) (n:=1) (Bs _) r2 (B2.at_ (off:=3) (n:=1) (Oz _) r3 (B2.at_ (off:=4) (n:=3) (A0.width _) r4 (B2.at_ (off:=7) (n:=1) (Ds _) r5 (B2.at_ (off:=8) (n:=1) (Ds _) r6 (B2.end_ (off:=9) hl)))))))
  simpa only[List.drop_zero] using hs
theorem G8 {H:Type} {enc:TypeId×Value→H} {w:World} {spare:Nat→Bool} {held:Bool}:∀{fuel:Nat} {cs:List Value} {x:DataW H×List MemPlace},DataW.trod enc prog w 0 spare held fuel 225 cs=some x→∃y:AG,Rep w (Di w) y.enc cs:=fun {fuel} {_} {_} h=>(ID fuel).2 h
theorem Jo:prog.cellsOf 335=4:=by kernel_rfl
set_option maxRecDepth 100000 in
theorem I0 {H:Type} {enc:TypeId×Value→H} {w:World} {spare:Nat→Bool} {held:Bool}:∀{fuel:Nat} {cs:List Value} {x:DataW H×List MemPlace},DataW.trod enc prog w 0 spare held fuel 335 cs=some x→∃y:A9,Rep w (Di w) y.enc cs:=by
 intro fuel cs x h
 obtain⟨hl,n0,rfl,hf⟩:=DH underlying335 h
 rw[Jo] at hl
 obtain⟨z0,y0⟩:=hf 0 _ rfl
 replace y0:DataW.trod enc prog w 0 spare held n0 9 ((cs.drop 0).take (prog.cellsOf 9))=some z0:=y0
 rw[Bt] at y0
 obtain⟨x0,r0⟩:=Br underlying9 y0
 obtain⟨z1,y1⟩:=hf 1 _ rfl
 replace y1:DataW.trod enc prog w 0 spare held n0 215 ((cs.drop 1).take (prog.cellsOf 215))=some z1:=y1
 rw[CZ] at y1
 obtain⟨x1,r1⟩:=CF y1
 refine⟨⟨x0,x1⟩,?_⟩
 rw[A9.enc_eq]
 simp only[Rep]
 have hs:=B2.at_ (off:=0) (n:=1) (Bs _) r0 (B2.at_ (off:=1) (n:=3) (A0.width _) r1 (B2.end_ (off:=4) hl))
 simpa only[List.drop_zero] using hs
theorem O2:prog.cellsOf 331=2:=by kernel_rfl
set_option maxRecDepth 100000 in
theorem Gn {H:Type} {enc:TypeId×Value→H} {w:World} {spare:Nat→Bool} {held:Bool}:∀{fuel:Nat} {cs:List Value} {x:DataW H×List MemPlace},DataW.trod enc prog w 0 spare held fuel 331 cs=some x→∃y:AA,Rep w (Di w) y.enc cs:=by
 intro fuel cs x h
 obtain⟨hl,n0,rfl,hf⟩:=DH underlying331 h
 rw[O2] at hl
 obtain⟨z0,y0⟩:=hf 0 _ rfl
 replace y0:DataW.trod enc prog w 0 spare held n0 9 ((cs.drop 0).take (prog.cellsOf 9))=some z0:=y0
 rw[Bt] at y0
 obtain⟨x0,r0⟩:=Br underlying9 y0
 obtain⟨z1,y1⟩:=hf 1 _ rfl
 replace y1:DataW.trod enc prog w 0 spare held n0 213 ((cs.drop 1).take (prog.cellsOf 213))=some z1:=y1
 rw[Jp] at y1
 obtain⟨x1,r1⟩:=Bg (ea:=A0.enc) underlying213 CZ (by decide) A0.width (fun n cs x _ hq=>CF hq) y1
 refine⟨⟨x0,x1⟩,?_⟩
 rw[AA.enc_eq]
 simp only[Rep]
 have hs:=B2.at_ (off:=0) (n:=1) (Bs _) r0 (B2.at_ (off:=1) (n:=1) (Ds _) r1 (B2.end_ (off:=2) hl))
 simpa only[List.drop_zero] using hs
theorem O7:prog.cellsOf 211=3:=by kernel_rfl
theorem WN:prog.cellsOf 209=1:=by kernel_rfl
set_option maxRecDepth 100000 in
theorem JD {H:Type} {enc:TypeId×Value→H} {w:World} {spare:Nat→Bool} {held:Bool}:∀{fuel:Nat} {cs:List Value} {x:DataW H×List MemPlace},DataW.trod enc prog w 0 spare held fuel 211 cs=some x→∃y:AF,Rep w (Di w) y.enc cs:=by
 intro fuel cs x h
 obtain⟨hl,n0,rfl,hf⟩:=DH underlying211 h
 rw[O7] at hl
 obtain⟨z0,y0⟩:=hf 0 _ rfl
 replace y0:DataW.trod enc prog w 0 spare held n0 9 ((cs.drop 0).take (prog.cellsOf 9))=some z0:=y0
 rw[Bt] at y0
 obtain⟨x0,r0⟩:=Br underlying9 y0
 obtain⟨z1,y1⟩:=hf 1 _ rfl
 replace y1:DataW.trod enc prog w 0 spare held n0 43 ((cs.drop 1).take (prog.cellsOf 43))=some z1:=y1
 rw[EO] at y1
 obtain⟨x1,r1⟩:=Bg (ea:=BG) underlying43 Bt (by decide) Bs (fun n cs x _ hq=>Br underlying9 hq) y1
 obtain⟨z2,y2⟩:=hf 2 _ rfl
 replace y2:DataW.trod enc prog w 0 spare held n0 209 ((cs.drop 2).take (prog.cellsOf 209))=some z2:=y2
 rw[WN] at y2
 obtain⟨x2,r2⟩:=Bg (ea:=AA.enc) underlying209 O2 (by decide) AA.width (fun n cs x _ hq=>Gn hq) y2
 refine⟨⟨x0,x1,x2⟩,?_⟩
 rw[AF.enc_eq]
 simp only[Rep]
 have hs:=B2.at_ (off:=0) (n:=1) (Bs _) r0 (B2.at_ (off:=1) (n:=1) (Ds _) r1 (B2.at_ (off:=2) (n:=1) (Ds _) r2 (B2.end_ (off:=3) hl)))
 simpa only[List.drop_zero] using hs
theorem O1:prog.cellsOf 338=11:=by kernel_rfl
set_option maxRecDepth 100000 in
theorem LV {H:Type} {enc:TypeId×Value→H} {w:World} {spare:Nat→Bool} {held:Bool}:∀{fuel:Nat} {cs:List Value} {x:DataW H×List MemPlace},DataW.trod enc prog w 0 spare held fuel 338 cs=some x→∃y:AX,Rep w (Di w) y.enc cs:=by
 intro fuel cs x h
 obtain⟨hl,n0,rfl,hf⟩:=DH underlying338 h
 rw[O1] at hl
 obtain⟨z0,y0⟩:=hf 0 _ rfl
 replace y0:DataW.trod enc prog w 0 spare held n0 9 ((cs.drop 0).take (prog.cellsOf 9))=some z0:=y0
 rw[Bt] at y0
 obtain⟨x0,r0⟩:=Br underlying9 y0
 obtain⟨z1,y1⟩:=hf 1 _ rfl
 replace y1:DataW.trod enc prog w 0 spare held n0 43 ((cs.drop 1).take (prog.cellsOf 43))=some z1:=y1
 rw[EO] at y1
 obtain⟨x1,r1⟩:=Bg (ea:=BG) underlying43 Bt (by decide) Bs (fun n cs x _ hq=>Br underlying9 hq) y1
 obtain⟨z2,y2⟩:=hf 2 _ rfl
 replace y2:DataW.trod enc prog w 0 spare held n0 225 ((cs.drop 2).take (prog.cellsOf 225))=some z2:=y2
 rw[Eu] at y2
 obtain⟨x2,r2⟩:=G8 y2
 refine⟨⟨x0,x1,x2⟩,?_⟩
 rw[AX.enc_eq]
 simp only[Rep]
 have hs:=B2.at_ (off:=0) (n:=1) (Bs _) r0 (B2.at_ (off:=1) (n:=1) (Ds _) r1 (B2.at_ (off:=2) (n:=9) (AG.width _) r2 (B2.end_ (off:=11) hl)))
 simpa only[List.drop_zero] using hs
theorem O5:prog.cellsOf 219=12:=by kernel_rfl
theorem O6:prog.cellsOf 216=1:=by kernel_rfl
theorem Jn:prog.cellsOf 4=1:=by kernel_rfl
theorem WM:prog.cellsOf 217=1:=by kernel_rfl
set_option maxRecDepth 100000 in
theorem JA {H:Type} {enc:TypeId×Value→H} {w:World} {spare:Nat→Bool} {held:Bool}:∀{fuel:Nat} {cs:List Value} {x:DataW H×List MemPlace},DataW.trod enc prog w 0 spare held fuel 219 cs=some x→∃y:AJ,Rep w (Di w) y.enc cs:=by
 intro fuel cs x h
 obtain⟨hl,n0,rfl,hf⟩:=DH underlying219 h
 rw[O5] at hl
 obtain⟨z0,y0⟩:=hf 0 _ rfl
 replace y0:DataW.trod enc prog w 0 spare held n0 9 ((cs.drop 0).take (prog.cellsOf 9))=some z0:=y0
 rw[Bt] at y0
 obtain⟨x0,r0⟩:=Br underlying9 y0
 obtain⟨z1,y1⟩:=hf 1 _ rfl
 replace y1:DataW.trod enc prog w 0 spare held n0 43 ((cs.drop 1).take (prog.cellsOf 43))=some z1:=y1
 rw[EO] at y1
 obtain⟨x1,r1⟩:=Bg (ea:=BG) underlying43 Bt (by decide) Bs (fun n cs x _ hq=>Br underlying9 hq) y1
 obtain⟨z2,y2⟩:=hf 2 _ rfl
 replace y2:DataW.trod enc prog w 0 spare held n0 215 ((cs.drop 2).take (prog.cellsOf 215))=some z2:=y2
 rw[CZ] at y2
 obtain⟨x2,r2⟩:=CF y2
 obtain⟨z3,y3⟩:=hf 3 _ rfl
 replace y3:DataW.trod enc prog w 0 spare held n0 216 ((cs.drop 5).take (prog.cellsOf 216))=some z3:=y3
 rw[O6] at y3
 obtain⟨x3,r3⟩:=Bg (ea:=A9.enc) underlying216 Jo (by decide) A9.width (fun n cs x _ hq=>I0 hq) y3
 obtain⟨z4,y4⟩:=hf 4 _ rfl
 replace y4:DataW.trod enc prog w 0 spare held n0 4 ((cs.drop 6).take (prog.cellsOf 4))=some z4:=y4
 rw[Jn] at y4
 obtain⟨x4,r4⟩:=J9 underlying4 y4
 obtain⟨z5,y5⟩:=hf 5 _ rfl
 replace y5:DataW.trod enc prog w 0 spare held n0 4 ((cs.drop 7).take (prog.cellsOf 4))=some z5:=y5
 rw[Jn] at y5
 obtain⟨x5,r5⟩:=J9 underlying4 y5
 obtain⟨z6,y6⟩:=hf 6 _ rfl
 replace y6:DataW.trod enc prog w 0 spare held n0 215 ((cs.drop 8).take (prog.cellsOf 215))=some z6:=y6
 rw[CZ] at y6
 obtain⟨x6,r6⟩:=CF y6
 obtain⟨z7,y7⟩:=hf 7 _ rfl
 replace y7:DataW.trod enc prog w 0 spare held n0 217 ((cs.drop 11).take (prog.cellsOf 217))=some z7:=y7
 rw[WM] at y7
 obtain⟨x7,r7⟩:=Bg (ea:=AX.enc) underlying217 O1 (by decide) AX.width (fun n cs x _ hq=>LV hq) y7
 refine⟨⟨x0,x1,x2,x3,x4,x5,x6,x7⟩,?_⟩
 rw[AJ.enc_eq]
 simp only[Rep]
 have hs:=B2.at_ (off:=0) (n:=1) (Bs _) r0 (B2.at_ (off:=1) (n:=1) (Ds _) r1 (B2.at_ (off:=2) (n:=3) (A0.width _) r2 (B2.at_ (off:=5) (n:=1) (Ds _) r3 (B2.at_ (off:=6) (n:=1) (Jh _) r4 (B2.at_ (off:=7) (n:=1) (Jh _) r5 (B2.at_ (off:=8) (n:=3) (A0.width _) r6 (B2.at_ (off:=11) (n:=1) (Ds _) r7 (B2.end_ (off:=12) hl))))))))
 simpa only[List.drop_zero] using hs
theorem O0:prog.cellsOf 341=4:=by kernel_rfl
set_option maxRecDepth 100000 in
theorem N7 {H:Type} {enc:TypeId×Value→H} {w:World} {spare:Nat→Bool} {held:Bool}:∀{fuel:Nat} {cs:List Value} {x:DataW H×List MemPlace},DataW.trod enc prog w 0 spare held fuel 341 cs=some x→∃y:AW,Rep w (Di w) y.enc cs:=by
 intro fuel cs x h
 obtain⟨hl,n0,rfl,hf⟩:=DH underlying341 h
 rw[O0] at hl
 obtain⟨z0,y0⟩:=hf 0 _ rfl
 replace y0:DataW.trod enc prog w 0 spare held n0 9 ((cs.drop 0).take (prog.cellsOf 9))=some z0:=y0
 rw[Bt] at y0
 obtain⟨x0,r0⟩:=Br underlying9 y0
 obtain⟨z1,y1⟩:=hf 1 _ rfl
 replace y1:DataW.trod enc prog w 0 spare held n0 215 ((cs.drop 1).take (prog.cellsOf 215))=some z1:=y1
 rw[CZ] at y1
 obtain⟨x1,r1⟩:=CF y1
 refine⟨⟨x0,x1⟩,?_⟩
 rw[AW.enc_eq]
 simp only[Rep]
 have hs:=B2.at_ (off:=0) (n:=1) (Bs _) r0 (B2.at_ (off:=1) (n:=3) (A0.width _) r1 (B2.end_ (off:=4) hl))
 simpa only[List.drop_zero] using hs
theorem O4:prog.cellsOf 227=16:=by kernel_rfl
theorem WK:prog.cellsOf 221=1:=by kernel_rfl
set_option maxRecDepth 100000 in
theorem JC {H:Type} {enc:TypeId×Value→H} {w:World} {spare:Nat→Bool} {held:Bool}:∀{fuel:Nat} {cs:List Value} {x:DataW H×List MemPlace},DataW.trod enc prog w 0 spare held fuel 227 cs=some x→∃y:AL,Rep w (Di w) y.enc cs:=by
 intro fuel cs x h
 obtain⟨hl,n0,rfl,hf⟩:=DH underlying227 h
 rw[O4] at hl
 obtain⟨z0,y0⟩:=hf 0 _ rfl
 replace y0:DataW.trod enc prog w 0 spare held n0 9 ((cs.drop 0).take (prog.cellsOf 9))=some z0:=y0
 rw[Bt] at y0
 obtain⟨x0,r0⟩:=Br underlying9 y0
 obtain⟨z1,y1⟩:=hf 1 _ rfl
 replace y1:DataW.trod enc prog w 0 spare held n0 43 ((cs.drop 1).take (prog.cellsOf 43))=some z1:=y1
 rw[EO] at y1
 obtain⟨x1,r1⟩:=Bg (ea:=BG) underlying43 Bt (by decide) Bs (fun n cs x _ hq=>Br underlying9 hq) y1
 obtain⟨z2,y2⟩:=hf 2 _ rfl
 replace y2:DataW.trod enc prog w 0 spare held n0 216 ((cs.drop 2).take (prog.cellsOf 216))=some z2:=y2
 rw[O6] at y2
 obtain⟨x2,r2⟩:=Bg (ea:=A9.enc) underlying216 Jo (by decide) A9.width (fun n cs x _ hq=>I0 hq) y2
 obtain⟨z3,y3⟩:=hf 3 _ rfl
 replace y3:DataW.trod enc prog w 0 spare held n0 221 ((cs.drop 3).take (prog.cellsOf 221))=some z3:=y3
 rw[WK] at y3
 obtain⟨x3,r3⟩:=Bg (ea:=AW.enc) underlying221 O0 (by decide) AW.width (fun n cs x _ hq=>N7 hq) y3
 obtain⟨z4,y4⟩:=hf 4 _ rfl
 replace y4:DataW.trod enc prog w 0 spare held n0 215 ((cs.drop 4).take (prog.cellsOf 215))=some z4:=y4
 rw[CZ] at y4
 obtain⟨x4,r4⟩:=CF y4
 obtain⟨z5,y5⟩:=hf 5 _ rfl
 replace y5:DataW.trod enc prog w 0 spare held n0 225 ((cs.drop 7).take (prog.cellsOf 225))=some z5:=y5
 rw[Eu] at y5
 obtain⟨x5,r5⟩:=G8 y5
 refine⟨⟨x0,x1,x2,x3,x4,x5⟩,?_⟩
 rw[AL.enc_eq]
 simp only[Rep]
 have hs:=B2.at_ (off:=0) (n:=1) (Bs _) r0 (B2.at_ (off:=1) (n:=1) (Ds _) r1 (B2.at_ (off:=2) (n:=1) (Ds _) r2 (B2.at_ (off:=3) (n:=1) (Ds _) r3 (B2.at_ (off:=4) (n:=3) (A0.width _) r4 (B2.at_ (off:=7) (n:=9) (AG.width _) r5 (B2.end_ (off:=16) hl))))))
 simpa only[List.drop_zero] using hs
theorem O3:prog.cellsOf 328=16:=by kernel_rfl
set_option maxRecDepth 100000 in
theorem IC {H:Type} {enc:TypeId×Value→H} {w:World} {spare:Nat→Bool} {held:Bool}:∀{fuel:Nat} {cs:List Value} {x:DataW H×List MemPlace},DataW.trod enc prog w 0 spare held fuel 328 cs=some x→∃y:AC,Rep w (Di w) y.enc cs:=by
 intro fuel cs x h
 obtain⟨hl,n0,rfl,hf⟩:=DH underlying328 h
 rw[O3] at hl
 obtain⟨z0,y0⟩:=hf 0 _ rfl
 replace y0:DataW.trod enc prog w 0 spare held n0 9 ((cs.drop 0).take (prog.cellsOf 9))=some z0:=y0
 rw[Bt] at y0
 obtain⟨x0,r0⟩:=Br underlying9 y0
 obtain⟨z1,y1⟩:=hf 1 _ rfl
 replace y1:DataW.trod enc prog w 0 spare held n0 213 ((cs.drop 1).take (prog.cellsOf 213))=some z1:=y1
 rw[Jp] at y1
 obtain⟨x1,r1⟩:=Bg (ea:=A0.enc) underlying213 CZ (by decide) A0.width (fun n cs x _ hq=>CF hq) y1
 obtain⟨z2,y2⟩:=hf 2 _ rfl
 replace y2:DataW.trod enc prog w 0 spare held n0 215 ((cs.drop 2).take (prog.cellsOf 215))=some z2:=y2
 rw[CZ] at y2
 obtain⟨x2,r2⟩:=CF y2
 obtain⟨z3,y3⟩:=hf 3 _ rfl
 replace y3:DataW.trod enc prog w 0 spare held n0 4 ((cs.drop 5).take (prog.cellsOf 4))=some z3:=y3
 rw[Jn] at y3
 obtain⟨x3,r3⟩:=J9 underlying4 y3
 obtain⟨z4,y4⟩:=hf 4 _ rfl
 replace y4:DataW.trod enc prog w 0 spare held n0 43 ((cs.drop 6).take (prog.cellsOf 43))=some z4:=y4
 rw[EO] at y4
 obtain⟨x4,r4⟩:=Bg (ea:=BG) underlying43 Bt (by decide) Bs (fun n cs x _ hq=>Br underlying9 hq) y4
 obtain⟨z5,y5⟩:=hf 5 _ rfl
 replace y5:DataW.trod enc prog w 0 spare held n0 225 ((cs.drop 7).take (prog.cellsOf 225))=some z5:=y5
 rw[Eu] at y5
 obtain⟨x5,r5⟩:=G8 y5
 refine⟨⟨x0,x1,x2,x3,x4,x5⟩,?_⟩
 rw[AC.enc_eq]
 simp only[Rep]
 have hs:=B2.at_ (off:=0) (n:=1) (Bs _) r0 (B2.at_ (off:=1) (n:=1) (Ds _) r1 (B2.at_ (off:=2) (n:=3) (A0.width _) r2 (B2.at_ (off:=5) (n:=1) (Jh _) r3 (B2.at_ (off:=6) (n:=1) (Ds _) r4 (B2.at_ (off:=7) (n:=9) (AG.width _) r5 (B2.end_ (off:=16) hl))))))
 simpa only[List.drop_zero] using hs
theorem O8:prog.cellsOf 207=5:=by kernel_rfl
theorem WP:prog.cellsOf 205=1:=by kernel_rfl
set_option maxRecDepth 100000 in
theorem N6 {H:Type} {enc:TypeId×Value→H} {w:World} {spare:Nat→Bool} {held:Bool}:∀{fuel:Nat} {cs:List Value} {x:DataW H×List MemPlace},DataW.trod enc prog w 0 spare held fuel 207 cs=some x→∃y:AS,Rep w (Di w) y.enc cs:=by
 intro fuel cs x h
 obtain⟨hl,n0,rfl,hf⟩:=DH underlying207 h
 rw[O8] at hl
 obtain⟨z0,y0⟩:=hf 0 _ rfl
 replace y0:DataW.trod enc prog w 0 spare held n0 9 ((cs.drop 0).take (prog.cellsOf 9))=some z0:=y0
 rw[Bt] at y0
 obtain⟨x0,r0⟩:=Br underlying9 y0
 obtain⟨z1,y1⟩:=hf 1 _ rfl
 replace y1:DataW.trod enc prog w 0 spare held n0 43 ((cs.drop 1).take (prog.cellsOf 43))=some z1:=y1
 rw[EO] at y1
 obtain⟨x1,r1⟩:=Bg (ea:=BG) underlying43 Bt (by decide) Bs (fun n cs x _ hq=>Br underlying9 hq) y1
 obtain⟨z2,y2⟩:=hf 2 _ rfl
 replace y2:DataW.trod enc prog w 0 spare held n0 4 ((cs.drop 2).take (prog.cellsOf 4))=some z2:=y2
 rw[Jn] at y2
 obtain⟨x2,r2⟩:=J9 underlying4 y2
 obtain⟨z3,y3⟩:=hf 3 _ rfl
 replace y3:DataW.trod enc prog w 0 spare held n0 4 ((cs.drop 3).take (prog.cellsOf 4))=some z3:=y3
 rw[Jn] at y3
 obtain⟨x3,r3⟩:=J9 underlying4 y3
 obtain⟨z4,y4⟩:=hf 4 _ rfl
 replace y4:DataW.trod enc prog w 0 spare held n0 205 ((cs.drop 4).take (prog.cellsOf 205))=some z4:=y4
 rw[WP] at y4
 obtain⟨x4,r4⟩:=Bg (ea:=AC.enc) underlying205 O3 (by decide) AC.width (fun n cs x _ hq=>IC hq) y4
 refine⟨⟨x0,x1,x2,x3,x4⟩,?_⟩
 rw[AS.enc_eq]
 simp only[Rep]
 have hs:=B2.at_ (off:=0) (n:=1) (Bs _) r0 (B2.at_ (off:=1) (n:=1) (Ds _) r1 (B2.at_ (off:=2) (n:=1) (Jh _) r2 (B2.at_ (off:=3) (n:=1) (Jh _) r3 (B2.at_ (off:=4) (n:=1) (Ds _) r4 (B2.end_ (off:=5) hl)))))
 simpa only[List.drop_zero] using hs
theorem RI:prog.cellsOf 91=6:=by kernel_rfl
theorem ZX:prog.cellsOf 86=1:=by kernel_rfl
theorem ZW:prog.cellsOf 87=1:=by kernel_rfl
theorem ZV:prog.cellsOf 88=1:=by kernel_rfl
theorem ZU:prog.cellsOf 89=1:=by kernel_rfl
set_option maxRecDepth 100000 in
theorem KB {H:Type} {enc:TypeId×Value→H} {w:World} {spare:Nat→Bool} {held:Bool}:∀{fuel:Nat} {cs:List Value} {x:DataW H×List MemPlace},DataW.trod enc prog w 0 spare held fuel 91 cs=some x→∃y:A8,Rep w (Di w) y.enc cs:=by
 intro fuel cs x h
 obtain⟨hl,n0,rfl,hf⟩:=DH underlying91 h
 rw[RI] at hl
 obtain⟨z0,y0⟩:=hf 0 _ rfl
 replace y0:DataW.trod enc prog w 0 spare held n0 9 ((cs.drop 0).take (prog.cellsOf 9))=some z0:=y0
 rw[Bt] at y0
 obtain⟨x0,r0⟩:=Br underlying9 y0
 obtain⟨z1,y1⟩:=hf 1 _ rfl
 replace y1:DataW.trod enc prog w 0 spare held n0 43 ((cs.drop 1).take (prog.cellsOf 43))=some z1:=y1
 rw[EO] at y1
 obtain⟨x1,r1⟩:=Bg (ea:=BG) underlying43 Bt (by decide) Bs (fun n cs x _ hq=>Br underlying9 hq) y1
 obtain⟨z2,y2⟩:=hf 2 _ rfl
 replace y2:DataW.trod enc prog w 0 spare held n0 86 ((cs.drop 2).take (prog.cellsOf 86))=some z2:=y2
 rw[ZX] at y2
 obtain⟨x2,r2⟩:=Bg (ea:=AS.enc) underlying86 O8 (by decide) AS.width (fun n cs x _ hq=>N6 hq) y2
 obtain⟨z3,y3⟩:=hf 3 _ rfl
 replace y3:DataW.trod enc prog w 0 spare held n0 87 ((cs.drop 3).take (prog.cellsOf 87))=some z3:=y3
 rw[ZW] at y3
 obtain⟨x3,r3⟩:=Bg (ea:=AF.enc) underlying87 O7 (by decide) AF.width (fun n cs x _ hq=>JD hq) y3
 obtain⟨z4,y4⟩:=hf 4 _ rfl
 replace y4:DataW.trod enc prog w 0 spare held n0 88 ((cs.drop 4).take (prog.cellsOf 88))=some z4:=y4
 rw[ZV] at y4
 obtain⟨x4,r4⟩:=Bg (ea:=AJ.enc) underlying88 O5 (by decide) AJ.width (fun n cs x _ hq=>JA hq) y4
 obtain⟨z5,y5⟩:=hf 5 _ rfl
 replace y5:DataW.trod enc prog w 0 spare held n0 89 ((cs.drop 5).take (prog.cellsOf 89))=some z5:=y5
 rw[ZU] at y5
 obtain⟨x5,r5⟩:=Bg (ea:=AL.enc) underlying89 O4 (by decide) AL.width (fun n cs x _ hq=>JC hq) y5
 refine⟨⟨x0,x1,x2,x3,x4,x5⟩,?_⟩
 rw[A8.enc_eq]
 simp only[Rep]
 have hs:=B2.at_ (off:=0) (n:=1) (Bs _) r0 (B2.at_ (off:=1) (n:=1) (Ds _) r1 (B2.at_ (off:=2) (n:=1) (Ds _) r2 (B2.at_ (off:=3) (n:=1) (Ds _) r3 (B2.at_ (off:=4) (n:=1) (Ds _) r4 (B2.at_ (off:=5) (n:=1) (Ds _) r5 (B2.end_ (off:=6) hl))))))
 simpa only[List.drop_zero] using hs
theorem ZY:prog.cellsOf 24=1:=by kernel_rfl
theorem ZZ:prog.cellsOf 22=1:=by kernel_rfl
set_option maxRecDepth 100000 in
theorem KA {H:Type} {enc:TypeId×Value→H} {w:World} {spare:Nat→Bool} {held:Bool}:∀{fuel:Nat} {cs:List Value} {x:DataW H×List MemPlace},DataW.trod enc prog w 0 spare held fuel 24 cs=some x→∃y:A1,Rep w (Di w) y.enc cs:=by
 intro fuel cs x h
 obtain⟨hl,n0,rfl,hf⟩:=DH underlying24 h
 rw[ZY] at hl
 obtain⟨z0,y0⟩:=hf 0 _ rfl
 replace y0:DataW.trod enc prog w 0 spare held n0 22 ((cs.drop 0).take (prog.cellsOf 22))=some z0:=y0
 rw[ZZ] at y0
 obtain⟨x0,r0⟩:=Bg (ea:=A8.enc) underlying22 RI (by decide) A8.width (fun n cs x _ hq=>KB hq) y0
 refine⟨⟨x0⟩,?_⟩
 rw[A1.enc_eq]
 simp only[Rep]
 have hs:=B2.at_ (off:=0) (n:=1) (Ds _) r0 (B2.end_ (off:=1) hl)
 simpa only[List.drop_zero] using hs

theorem CS.view {P:Program} {f:Nat} {args:List AV} {h h':HP} {r:AV} (k:CS P f args h r h'):CS P f args h r.vw h':=by
 intro w F Θ own vs hR
 refine(k w F Θ own vs hR).mono fun e w' ⟨v,F',own',h1,h2,h3⟩=> ?_
 let own2:Who→List Nat:=fun
  | .t _=>[]
  | .h lv k=>own' (.h lv k)
  | .l lv k=>own' (.l lv k)
 have hsub:∀x b,b∈own2 x→b∈own' x:=fun x b hb=>by
  cases x with
  |t t=>simp[own2] at hb
  |h lv k=>exact hb
  |l lv k=>exact hb
 refine⟨v,F',own2,h1,⟨h2.n,h2.df,fun t=> ?_,fun lv k q=>h2.hn lv k q,fun lv k cn q=>h2.hs lv k cn q,fun x=> ?_,fun x z hxz b hb hz=>h2.dj x z hxz b (hsub x b hb) (hsub z b hz),fun x b hb=>h2.lt x b (hsub x b hb),h2.top,h2.gl⟩,⟨h3.ks,fun x b hb=>h3.fr x b (hsub x b hb),h3.ty⟩⟩
 ·have ht:=h2.tm t
  simp only[Gj] at ht ⊢
  by_cases h0:t=0
  ·rw[if_pos h0] at ht ⊢
   exact rv.view _ _ _ ht
  ·rw[if_neg h0] at ht ⊢
   simp only[rv];rfl
 ·cases x with
  |t t=>exact List.nodup_nil
  |h lv k=>exact h2.nd _
  |l lv k=>exact h2.nd _
theorem CSP.ofFresh {c : Cx} {f : Nat} {args : List DD} {y : DD} {p : List Value → Prop} (hc : ∀ (w : World) (vs : List Value) (F : Nat → Nat), p vs → (∀ b, w.heap.size ≤ b → F b = 0) → Gl w F → vs.length = args.length → (∀ (i : Nat) (d : DD), args[i]? = some d → ∃ cs, rp w F d.vw cs [] ∧ vs[i]? = some (d.mk cs)) →
   Calls c.P f vs.toArray w fun e w'=>∃cs bs,e=.returned (y.mk cs)∧rp w' F y cs bs∧bs.Nodup∧(∀b∈bs,w.heap.size≤b∧b<w'.heap.size)∧Below w.heap.size w w') (h:HP):
  CSP c.P f p (args.map .d) h (.d y) h:=by
 intro w F Θ own vs hpv hR
 have hlen:vs.length=args.length:=by have:=hR.n;simpa[Ci] using this
 refine(hc w vs F hpv hR.top hR.gl hlen (fun i d hd=> ?_)).mono fun e w' ⟨cs,bs,h1,k1,k2,k3,h2⟩=> ?_
 ·have h1:=hR.tm i
  have hi:i<args.length:=(List.getElem?_eq_some_iff.1 hd).1
  have e1:(Ci (args.map AV.d) h).tm i=.d d:=by
   simp only[Ci,List.getD_eq_getElem?_getD,List.getElem?_map,hd,Option.map_some,Option.getD_some]
  rw[e1] at h1
  have h3:=rv.view _ _ _ h1
  simp only[AV.vw,rv] at h3
  obtain⟨cs,h4,h5⟩:=h3
  refine⟨cs,h4,?_⟩
  rw[DD.mk_vw] at h5
  have hi2:i<vs.length:=by omega
  simp only[Array.getD_eq_getD_getElem?,List.getElem?_toArray,List.getElem?_eq_getElem hi2,Option.getD_some] at h5
  rw[List.getElem?_eq_getElem hi2,h5]
 ·have hF:∀b,w.heap.size≤b→F b=0:=hR.top
  have kp:∀bs:List Nat,(∀b∈bs,b<w.heap.size)→Kp w F w' F bs:=fun bs hbs=>by
   refine⟨fun b o ho=> ?_,fun _=>Nat.le_refl _,fun b hb=>⟨h2.block b (hbs b hb),rfl⟩⟩
   have hb:b<w.heap.size:=by
    rcases Nat.lt_or_ge b w.heap.size with q|q
    ·exact q
    ·have:=hF b q;omega
   exact World.cell?_of_block (a:=⟨b,o,none⟩) (h2.block b hb)
  let own':Who→List Nat:=fun
   | .t 0=>bs
   | .t (_+1)=>[]
   | .h lv k=>own (.h lv k)
   | .l lv k=>own (.l lv k)
  have hsub:∀x b,b∈own' x→x=.t 0∧b∈bs∨x≠ .t 0∧b∈own x:=fun x b hb=>by
   cases x with
   |t t=>
    cases t with
    |zero=>exact .inl ⟨rfl,hb⟩
    |succ t=>simp[own'] at hb
   |h lv k=>exact .inr ⟨nofun,hb⟩
   |l lv k=>exact .inr ⟨nofun,hb⟩
  refine⟨y.mk cs,F,own',h1,⟨rfl,rfl,fun t=> ?_,fun lv k q=> ?_,fun lv k cn q=> ?_,fun x=> ?_,fun x z hxz b hb hz=> ?_,fun x b hb=> ?_,fun b hb=>hF b (Nat.le_trans h2.size hb),fun p hp=>⟨(hR.gl p hp).1,((kp [] (by simp)).cell _ _ (hR.gl p hp).1).trans (hR.gl p hp).2⟩⟩,⟨⟨h2.os,h2.tape,h2.output,h2.size,fun b o ho=>(kp [] (by simp)).cell b o ho,fun _=>Nat.le_refl _,fun b hb _=>⟨h2.block b hb,rfl⟩⟩,fun x b hb=> ?_,fun _ _=>rfl⟩⟩
  ·cases t with
   |zero=>
    show rv w' F Θ (if (0:Nat)=0 then AV.d y else .un) _ _
    rw[if_pos rfl]
    simp only[rv]
    exact⟨cs,k1,rfl⟩
   |succ t=>
    show rv w' F Θ (if t+1=0 then AV.d y else .un) _ _
    rw[if_neg (by omega)]
    simp only[rv];rfl
  ·exact hR.hn lv k q
  ·obtain⟨b,s,cur,ty,g1,g2,g3,g4,g5,g6⟩:=hR.hs lv k cn q
   have hb:b<w.heap.size:=hR.lt _ b (by rw[g2];simp)
   exact⟨b,s,cur,ty,g1,g2,g3,g4,(h2.block b hb).trans g5,rc.keep (fun _ _ _ e=>e) _ _ _ g6 (kp _ fun x hx=>hR.lt _ x hx)⟩
  ·cases x with
   |t t=>
    cases t with
    |zero=>exact k2
    |succ t=>exact List.nodup_nil
   |h lv k=>exact hR.nd _
   |l lv k=>exact hR.nd _
  ·rcases hsub x b hb with ⟨rfl,q⟩|⟨n,q⟩<;>rcases hsub z b hz with ⟨rfl,p⟩|⟨m,p⟩
   ·exact hxz rfl
   ·have:=(k3 b q).1;have:=hR.lt _ b p;omega
   ·have:=(k3 b p).1;have:=hR.lt _ b q;omega
   ·exact hR.dj x z hxz b q p
  ·rcases hsub x b hb with ⟨rfl,q⟩|⟨n,q⟩
   ·exact(k3 b q).2
   ·exact Nat.lt_of_lt_of_le (hR.lt x b q) h2.size
  ·rcases hsub x b hb with ⟨rfl,q⟩|⟨n,q⟩
   ·exact .inr (k3 b q).1
   ·exact .inl ⟨x,q⟩
def Wr (w w':World) (W:Nat) (e:Ending):Prop:=Below w.heap.size w w'∧(e=.returned (.slice none 0 0)∨∃cur t cap,e=.returned (.slice (some ⟨w.heap.size,0,none⟩) 0 cap)∧w'.heap[w.heap.size]? =some (.cells cur t (0,0))∧cap*W≤cur.size∧cap≤maxLen)
theorem P1 (w:World) (o:Obj):Below w.heap.size w (w.drew.alloc o):=by
 refine⟨rfl,rfl,rfl,?_,?_⟩
 ·show w.heap.size≤(w.heap.push o).size
  simp
 ·intro b hb
  show(w.heap.push o)[b]? =_
  rw[Array.getElem?_push_lt hb,Array.getElem?_eq_getElem hb]
set_option maxRecDepth 100000 in
set_option maxHeartbeats 1000000 in
theorem eH (n:Nat) (hn:n≤1073741824) (w:World):Calls prog 426 #[.slice none 0 0,.int .i64 (n:Int)] w fun e w'=>Wr w w' 1 e:=by
 obtain⟨i0,hi,hz0,hz1,hz2⟩:=info_parts (P:=prog) (e:=9) (by kernel_rfl:_=some (some (Value.string ⟨#[]⟩),1,16))
 go_enter func426,Tryz.ntmps426
 by_cases h0:n=0
 ·subst h0
  go_wp2
  go_ret
  exact⟨Below.refl _ _,.inl rfl⟩
 ·have hr:=Lib.run_append_nil_zeros (P:=prog) w 43 3 43 9 i0 (Value.string ⟨#[]⟩) .i64 .i64 underlying43 underlying3 hi hz0 n (by omega) (by rw[hz1];omega) (by omega) (by rw[hz2];omega)
  have hc1:=grownCap_ge w n 0 9
  have hc2:=grownCap_le_maxLen w n 0 9 (by unfold maxLen;omega)
  generalize hcp:grownCap w n 0 9=cap at hr hc1 hc2
  have hsz:(Builtin.zeroCells (Value.string ⟨#[]⟩).cells n++Builtin.zeroCells (Value.string ⟨#[]⟩).cells (cap - n)).size=cap*1:=by
   rw[Array.size_append,size_zeroCells,size_zeroCells]
   have:(Value.string ⟨#[]⟩).cells.size=1:=by first|rfl|simp[Value.cells]
   rw[this];omega
  generalize Builtin.zeroCells (Value.string ⟨#[]⟩).cells n++Builtin.zeroCells (Value.string ⟨#[]⟩).cells (cap - n)=arr at hr hsz
  have h1:(0:Int)<n:=by omega
  go_wp2_with (at_builtin;refine Lib.wpList_append_run _ rfl _ _ _ _ rfl _ _ rfl rfl _ _ hr ?_)
  go_ret
  refine⟨P1 _ _,.inr ⟨arr,9,cap,rfl,?_,by omega,hc2⟩⟩
  exact heap_alloc_new w.drew (.cells arr 9)
set_option maxRecDepth 100000 in
set_option maxHeartbeats 1000000 in
def Ia (vs:List Value):Prop:=vs[0]? =some (.slice none 0 0)
theorem aB {f:Nat} (s:Sh) (hp:0<s.w) (n:Nat) (hg:∀w,Calls cx.P f #[.slice none 0 0,.int .i64 (n:Int)] w fun e w'=>Wr w w' s.w e) (h:HP):CSP cx.P f Ia [.d (.sl true s []),.d (.lf (.int .i64 (n:Int)))] h (.d (.sl true s [])) h:=by
 refine CSP.ofFresh (c:=cx) (args:=[.sl true s [],.lf (.int .i64 (n:Int))]) (fun w vs F hpv hF _ hl hv=> ?_) h
 obtain⟨c1,h1,e1⟩:=hv 1 _ rfl
 simp only[DD.vw,rp] at h1
 obtain⟨rfl, -, -⟩:=h1
 match vs,hl,hpv,e1 with
 |[u,v],_,hpv,e1=>
  have hu:u=.slice none 0 0:=by unfold Ia at hpv;simpa using hpv
  have hvv:v=.int .i64 (n:Int):=by simpa[DD.mk] using e1
  subst hu;subst hvv
  refine(hg w).mono fun e w' ⟨hB,k⟩=> ?_
  rcases k with rfl|⟨cur,t,cap,rfl,k1,k2,k3⟩
  ·refine⟨[.slice none 0 0],[],rfl,?_,List.nodup_nil,by simp,hB⟩
   simp only[rp]
   exact⟨by simp,hp,none,0,rfl,Nat.le_refl _,by unfold maxLen;omega,fun _=>rfl,.inl ⟨trivial,trivial,fun _=>rfl⟩⟩
  ·have hlt:w.heap.size<w'.heap.size:=(Array.getElem?_eq_some_iff.1 k1).1
   refine⟨[.slice (some ⟨w.heap.size,0,none⟩) 0 cap],[w.heap.size],rfl,?_,by simp,by simpa using hlt,hB⟩
   have hF0:=hF w.heap.size (Nat.le_refl _)
   simp only[rp]
   refine⟨by simp,hp,some ⟨w.heap.size,0,none⟩,cap,rfl,Nat.zero_le _,k3,nofun,.inr ⟨w.heap.size,0,[],rfl,by simp[rpE],by simp[hF0],.inr ⟨trivial,rfl,rfl,by simp[hF0],cur,t,k1,k2⟩⟩⟩
theorem aC (n:Nat) (hn:n≤1073741824) (h:HP):CSP cx.P 426 Ia [.d (.sl true .one []),.d (.lf (.int .i64 (n:Int)))] h (.d (.sl true .one [])) h:=aB .one (by decide) n (eH n hn) h
theorem VF (s:ByteArray) (c:Int) (w:World):Calls prog 444 #[.string s,.int .u8 c] w fun e w'=>e=.returned (.int .i64 (Lib.indexByte s.data.toList c.toNat.toUInt8))∧w'=w:=by
 go_enter func444,Tryz.ntmps444
 go_wp2
 rw[run_callFunc_extern func448 (by kernel_rfl) (by kernel_rfl) (by kernel_rfl) (e:=Extern.BytealgIndexByte.indexByte) (by kernel_rfl),Lib.run_indexByteString]
 simp only[Result.andThen]
 rw[Oper.upon_value]
 go_wp2
 go_ret
 exact⟨rfl,rfl⟩
