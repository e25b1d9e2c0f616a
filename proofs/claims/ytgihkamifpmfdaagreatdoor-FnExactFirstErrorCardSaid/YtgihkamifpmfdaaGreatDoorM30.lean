/- Part 30. No condition. -/
import Derived.Test.YtgihkamifpmfdaaGreatDoorM22
namespace Go.Proofs.YtgihkamifpmfdaaGreatDoor
open Go.ChangeShapes Go.WideShapes Go.ChangeAt Go.RowKit Tryz
set_option linter.unusedVariables false
set_option linter.unusedSimpArgs false
theorem Cb:prog.cellsOf 176=3:=by kernel_rfl
theorem PX:prog.cellsOf 3=1:=by kernel_rfl
theorem Bt:prog.cellsOf 9=1:=by kernel_rfl
theorem K8:prog.cellsOf 174=1:=by kernel_rfl
set_option maxRecDepth 100000 in
theorem Lt {H:Type} {enc:TypeId×Value→H} {w:World} {spare:Nat→Bool} {held:Bool} (n:Nat):(∀{cs:List Value} {x:DataW H×List MemPlace},DataW.trod enc prog w 0 spare held n 176 cs=some x→∃y:A0,Rep w (Dk w) y.enc cs):=by
 induction n using Nat.strongRecOn with
 |ind fuel ih=>
 have ihType:∀m,m<fuel→∀{cs:List Value} {x:DataW H×List MemPlace},DataW.trod enc prog w 0 spare held m 176 cs=some x→∃y:A0,Rep w (Dk w) y.enc cs:=fun m hm=>(ih m hm)
 ·intro cs x h
  obtain⟨hl,n0,rfl,hf⟩:=DI underlying176 h
  rw[Cb] at hl
  obtain⟨z0,y0⟩:=hf 0 _ rfl
  replace y0:DataW.trod enc prog w 0 spare held n0 3 ((cs.drop 0).take (prog.cellsOf 3))=some z0:=y0
  rw[PX] at y0
  obtain⟨x0,r0⟩:=P7 underlying3 y0
  obtain⟨z1,y1⟩:=hf 1 _ rfl
  replace y1:DataW.trod enc prog w 0 spare held n0 9 ((cs.drop 1).take (prog.cellsOf 9))=some z1:=y1
  rw[Bt] at y1
  obtain⟨x1,r1⟩:=Br underlying9 y1
  obtain⟨z2,y2⟩:=hf 2 _ rfl
  replace y2:DataW.trod enc prog w 0 spare held n0 174 ((cs.drop 2).take (prog.cellsOf 174))=some z2:=y2
  rw[K8] at y2
  obtain⟨x2,r2⟩:=Bg (ea:=A0.enc) underlying174 Cb (by decide) A0.width (fun n cs x hn hq=>ihType n (by omega) hq) y2
  refine⟨⟨x0,x1,x2⟩,?_⟩
  rw[A0.enc_eq]
  simp only[Rep]
  have hs:=B3.at_ (off:=0) (n:=1) (PP _) r0 (B3.at_ (off:=1) (n:=1) (Bs _) r1 (B3.at_ (off:=2) (n:=1) (Dv _) r2 (B3.end_ (off:=3) hl)))
  simpa only[List.drop_zero] using hs
theorem CF {H:Type} {enc:TypeId×Value→H} {w:World} {spare:Nat→Bool} {held:Bool}:∀{fuel:Nat} {cs:List Value} {x:DataW H×List MemPlace},DataW.trod enc prog w 0 spare held fuel 176 cs=some x→∃y:A0,Rep w (Dk w) y.enc cs:=fun {fuel} {_} {_} h=>(Lt fuel) h
theorem OO:prog.cellsOf 394=11:=by kernel_rfl
theorem EQ:prog.cellsOf 39=1:=by kernel_rfl
theorem Ew:prog.cellsOf 186=9:=by kernel_rfl
theorem XB:prog.cellsOf 183=1:=by kernel_rfl
theorem XA:prog.cellsOf 184=1:=by kernel_rfl
set_option maxRecDepth 100000 in
theorem IU {H:Type} {enc:TypeId×Value→H} {w:World} {spare:Nat→Bool} {held:Bool} (n:Nat):(∀{cs:List Value} {x:DataW H×List MemPlace},DataW.trod enc prog w 0 spare held n 394 cs=some x→∃y:Ac,Rep w (Dk w) y.enc cs)∧(∀{cs:List Value} {x:DataW H×List MemPlace},DataW.trod enc prog w 0 spare held n 186 cs=some x→∃y:AG,Rep w (Dk w) y.enc cs):=by
 induction n using Nat.strongRecOn with
 |ind fuel ih=>
 have ihArm:∀m,m<fuel→∀{cs:List Value} {x:DataW H×List MemPlace},DataW.trod enc prog w 0 spare held m 394 cs=some x→∃y:Ac,Rep w (Dk w) y.enc cs:=fun m hm=>(ih m hm).1
 have ihExpr:∀m,m<fuel→∀{cs:List Value} {x:DataW H×List MemPlace},DataW.trod enc prog w 0 spare held m 186 cs=some x→∃y:AG,Rep w (Dk w) y.enc cs:=fun m hm=>(ih m hm).2
 refine⟨?_,?_⟩
 ·intro cs x h
  obtain⟨hl,n0,rfl,hf⟩:=DI underlying394 h
  rw[OO] at hl
  obtain⟨z0,y0⟩:=hf 0 _ rfl
  replace y0:DataW.trod enc prog w 0 spare held n0 9 ((cs.drop 0).take (prog.cellsOf 9))=some z0:=y0
  rw[Bt] at y0
  obtain⟨x0,r0⟩:=Br underlying9 y0
  obtain⟨z1,y1⟩:=hf 1 _ rfl
  replace y1:DataW.trod enc prog w 0 spare held n0 39 ((cs.drop 1).take (prog.cellsOf 39))=some z1:=y1
  rw[EQ] at y1
  obtain⟨x1,r1⟩:=Bg (ea:=BI) underlying39 Bt (by decide) Bs (fun n cs x _ hq=>Br underlying9 hq) y1
  obtain⟨z2,y2⟩:=hf 2 _ rfl
  replace y2:DataW.trod enc prog w 0 spare held n0 186 ((cs.drop 2).take (prog.cellsOf 186))=some z2:=y2
  rw[Ew] at y2
  obtain⟨x2,r2⟩:=ihExpr n0 (by omega) y2
  refine⟨⟨x0,x1,x2⟩,?_⟩
  rw[Ac.enc_eq]
  simp only[Rep]
  have hs:=B3.at_ (off:=0) (n:=1) (Bs _) r0 (B3.at_ (off:=1) (n:=1) (Dv _) r1 (B3.at_ (off:=2) (n:=9) (AG.width _) r2 (B3.end_ (off:=11) hl)))
  simpa only[List.drop_zero] using hs
 ·intro cs x h
  obtain⟨hl,n0,rfl,hf⟩:=DI underlying186 h
  rw[Ew] at hl
  obtain⟨z0,y0⟩:=hf 0 _ rfl
  replace y0:DataW.trod enc prog w 0 spare held n0 3 ((cs.drop 0).take (prog.cellsOf 3))=some z0:=y0
  rw[PX] at y0
  obtain⟨x0,r0⟩:=P7 underlying3 y0
  obtain⟨z1,y1⟩:=hf 1 _ rfl
  replace y1:DataW.trod enc prog w 0 spare held n0 9 ((cs.drop 1).take (prog.cellsOf 9))=some z1:=y1
  rw[Bt] at y1
  obtain⟨x1,r1⟩:=Br underlying9 y1
  obtain⟨z2,y2⟩:=hf 2 _ rfl
  replace y2:DataW.trod enc prog w 0 spare held n0 9 ((cs.drop 2).take (prog.cellsOf 9))=some z2:=y2
  rw[Bt] at y2
  obtain⟨x2,r2⟩:=Br underlying9 y2
  obtain⟨z3,y3⟩:=hf 3 _ rfl
  replace y3:DataW.trod enc prog w 0 spare held n0 3 ((cs.drop 3).take (prog.cellsOf 3))=some z3:=y3
  rw[PX] at y3
  obtain⟨x3,r3⟩:=P7 underlying3 y3
  obtain⟨z4,y4⟩:=hf 4 _ rfl
  replace y4:DataW.trod enc prog w 0 spare held n0 176 ((cs.drop 4).take (prog.cellsOf 176))=some z4:=y4
  rw[Cb] at y4
  obtain⟨x4,r4⟩:=CF y4
  obtain⟨z5,y5⟩:=hf 5 _ rfl
  replace y5:DataW.trod enc prog w 0 spare held n0 183 ((cs.drop 7).take (prog.cellsOf 183))=some z5:=y5
  rw[XB] at y5
  obtain⟨x5,r5⟩:=Bg (ea:=AG.enc) underlying183 Ew (by decide) AG.width (fun n cs x hn hq=>ihExpr n (by omega) hq) y5
  obtain⟨z6,y6⟩:=hf 6 _ rfl
  replace y6:DataW.trod enc prog w 0 spare held n0 184 ((cs.drop 8).take (prog.cellsOf 184))=some z6:=y6
  rw[XA] at y6
  obtain⟨x6,r6⟩:=Bg (ea:=Ac.enc) underlying184 OO (by decide) Ac.width (fun n cs x hn hq=>ihArm n (by omega) hq) y6
  refine⟨⟨x0,x1,x2,x3,x4,x5,x6⟩,?_⟩
  rw[AG.enc_eq]
  simp only[Rep]
  have hs:=B3.at_ (off:=0) (n:=1) (PP _) r0 (B3.at_ (off:=1) (n:=1) (Bs _) r1 (B3.at_ (off:=2) (n:=1) (Bs _) r2 (B3.at_ (off:=3) (n:=1) (PP _) r3 (B3.at_ (off:=4) (n:=3) (A0.width _) r4 (B3.at_ (off:=7) (n:=1) (Dv _) r5 (B3.at_ (off:=8) (n:=1) (Dv _) r6 (B3.end_ (off:=9) hl)))))))
  simpa only[List.drop_zero] using hs
theorem GB {H:Type} {enc:TypeId×Value→H} {w:World} {spare:Nat→Bool} {held:Bool}:∀{fuel:Nat} {cs:List Value} {x:DataW H×List MemPlace},DataW.trod enc prog w 0 spare held fuel 186 cs=some x→∃y:AG,Rep w (Dk w) y.enc cs:=fun {fuel} {_} {_} h=>(IU fuel).2 h
theorem K7:prog.cellsOf 326=4:=by kernel_rfl
set_option maxRecDepth 100000 in
theorem IC {H:Type} {enc:TypeId×Value→H} {w:World} {spare:Nat→Bool} {held:Bool}:∀{fuel:Nat} {cs:List Value} {x:DataW H×List MemPlace},DataW.trod enc prog w 0 spare held fuel 326 cs=some x→∃y:A9,Rep w (Dk w) y.enc cs:=by
 intro fuel cs x h
 obtain⟨hl,n0,rfl,hf⟩:=DI underlying326 h
 rw[K7] at hl
 obtain⟨z0,y0⟩:=hf 0 _ rfl
 replace y0:DataW.trod enc prog w 0 spare held n0 9 ((cs.drop 0).take (prog.cellsOf 9))=some z0:=y0
 rw[Bt] at y0
 obtain⟨x0,r0⟩:=Br underlying9 y0
 obtain⟨z1,y1⟩:=hf 1 _ rfl
 replace y1:DataW.trod enc prog w 0 spare held n0 176 ((cs.drop 1).take (prog.cellsOf 176))=some z1:=y1
 rw[Cb] at y1
 obtain⟨x1,r1⟩:=CF y1
 refine⟨⟨x0,x1⟩,?_⟩
 rw[A9.enc_eq]
 simp only[Rep]
 have hs:=B3.at_ (off:=0) (n:=1) (Bs _) r0 (B3.at_ (off:=1) (n:=3) (A0.width _) r1 (B3.end_ (off:=4) hl))
 simpa only[List.drop_zero] using hs
theorem OR:prog.cellsOf 322=2:=by kernel_rfl
set_option maxRecDepth 100000 in
theorem Gu {H:Type} {enc:TypeId×Value→H} {w:World} {spare:Nat→Bool} {held:Bool}:∀{fuel:Nat} {cs:List Value} {x:DataW H×List MemPlace},DataW.trod enc prog w 0 spare held fuel 322 cs=some x→∃y:AA,Rep w (Dk w) y.enc cs:=by
 intro fuel cs x h
 obtain⟨hl,n0,rfl,hf⟩:=DI underlying322 h
 rw[OR] at hl
 obtain⟨z0,y0⟩:=hf 0 _ rfl
 replace y0:DataW.trod enc prog w 0 spare held n0 9 ((cs.drop 0).take (prog.cellsOf 9))=some z0:=y0
 rw[Bt] at y0
 obtain⟨x0,r0⟩:=Br underlying9 y0
 obtain⟨z1,y1⟩:=hf 1 _ rfl
 replace y1:DataW.trod enc prog w 0 spare held n0 174 ((cs.drop 1).take (prog.cellsOf 174))=some z1:=y1
 rw[K8] at y1
 obtain⟨x1,r1⟩:=Bg (ea:=A0.enc) underlying174 Cb (by decide) A0.width (fun n cs x _ hq=>CF hq) y1
 refine⟨⟨x0,x1⟩,?_⟩
 rw[AA.enc_eq]
 simp only[Rep]
 have hs:=B3.at_ (off:=0) (n:=1) (Bs _) r0 (B3.at_ (off:=1) (n:=1) (Dv _) r1 (B3.end_ (off:=2) hl))
 simpa only[List.drop_zero] using hs
theorem OX:prog.cellsOf 172=3:=by kernel_rfl
theorem XG:prog.cellsOf 170=1:=by kernel_rfl
set_option maxRecDepth 100000 in
theorem JV {H:Type} {enc:TypeId×Value→H} {w:World} {spare:Nat→Bool} {held:Bool}:∀{fuel:Nat} {cs:List Value} {x:DataW H×List MemPlace},DataW.trod enc prog w 0 spare held fuel 172 cs=some x→∃y:AF,Rep w (Dk w) y.enc cs:=by
 intro fuel cs x h
 obtain⟨hl,n0,rfl,hf⟩:=DI underlying172 h
 rw[OX] at hl
 obtain⟨z0,y0⟩:=hf 0 _ rfl
 replace y0:DataW.trod enc prog w 0 spare held n0 9 ((cs.drop 0).take (prog.cellsOf 9))=some z0:=y0
 rw[Bt] at y0
 obtain⟨x0,r0⟩:=Br underlying9 y0
 obtain⟨z1,y1⟩:=hf 1 _ rfl
 replace y1:DataW.trod enc prog w 0 spare held n0 39 ((cs.drop 1).take (prog.cellsOf 39))=some z1:=y1
 rw[EQ] at y1
 obtain⟨x1,r1⟩:=Bg (ea:=BI) underlying39 Bt (by decide) Bs (fun n cs x _ hq=>Br underlying9 hq) y1
 obtain⟨z2,y2⟩:=hf 2 _ rfl
 replace y2:DataW.trod enc prog w 0 spare held n0 170 ((cs.drop 2).take (prog.cellsOf 170))=some z2:=y2
 rw[XG] at y2
 obtain⟨x2,r2⟩:=Bg (ea:=AA.enc) underlying170 OR (by decide) AA.width (fun n cs x _ hq=>Gu hq) y2
 refine⟨⟨x0,x1,x2⟩,?_⟩
 rw[AF.enc_eq]
 simp only[Rep]
 have hs:=B3.at_ (off:=0) (n:=1) (Bs _) r0 (B3.at_ (off:=1) (n:=1) (Dv _) r1 (B3.at_ (off:=2) (n:=1) (Dv _) r2 (B3.end_ (off:=3) hl)))
 simpa only[List.drop_zero] using hs
theorem OQ:prog.cellsOf 329=11:=by kernel_rfl
set_option maxRecDepth 100000 in
theorem Lu {H:Type} {enc:TypeId×Value→H} {w:World} {spare:Nat→Bool} {held:Bool}:∀{fuel:Nat} {cs:List Value} {x:DataW H×List MemPlace},DataW.trod enc prog w 0 spare held fuel 329 cs=some x→∃y:AY,Rep w (Dk w) y.enc cs:=by
 intro fuel cs x h
 obtain⟨hl,n0,rfl,hf⟩:=DI underlying329 h
 rw[OQ] at hl
 obtain⟨z0,y0⟩:=hf 0 _ rfl
 replace y0:DataW.trod enc prog w 0 spare held n0 9 ((cs.drop 0).take (prog.cellsOf 9))=some z0:=y0
 rw[Bt] at y0
 obtain⟨x0,r0⟩:=Br underlying9 y0
 obtain⟨z1,y1⟩:=hf 1 _ rfl
 replace y1:DataW.trod enc prog w 0 spare held n0 39 ((cs.drop 1).take (prog.cellsOf 39))=some z1:=y1
 rw[EQ] at y1
 obtain⟨x1,r1⟩:=Bg (ea:=BI) underlying39 Bt (by decide) Bs (fun n cs x _ hq=>Br underlying9 hq) y1
 obtain⟨z2,y2⟩:=hf 2 _ rfl
 replace y2:DataW.trod enc prog w 0 spare held n0 186 ((cs.drop 2).take (prog.cellsOf 186))=some z2:=y2
 rw[Ew] at y2
 obtain⟨x2,r2⟩:=GB y2
 refine⟨⟨x0,x1,x2⟩,?_⟩
 rw[AY.enc_eq]
 simp only[Rep]
 have hs:=B3.at_ (off:=0) (n:=1) (Bs _) r0 (B3.at_ (off:=1) (n:=1) (Dv _) r1 (B3.at_ (off:=2) (n:=9) (AG.width _) r2 (B3.end_ (off:=11) hl)))
 simpa only[List.drop_zero] using hs
theorem OV:prog.cellsOf 180=12:=by kernel_rfl
theorem OW:prog.cellsOf 177=1:=by kernel_rfl
theorem K6:prog.cellsOf 4=1:=by kernel_rfl
theorem XE:prog.cellsOf 178=1:=by kernel_rfl
set_option maxRecDepth 100000 in
theorem JT {H:Type} {enc:TypeId×Value→H} {w:World} {spare:Nat→Bool} {held:Bool}:∀{fuel:Nat} {cs:List Value} {x:DataW H×List MemPlace},DataW.trod enc prog w 0 spare held fuel 180 cs=some x→∃y:AJ,Rep w (Dk w) y.enc cs:=by
 intro fuel cs x h
 obtain⟨hl,n0,rfl,hf⟩:=DI underlying180 h
 rw[OV] at hl
 obtain⟨z0,y0⟩:=hf 0 _ rfl
 replace y0:DataW.trod enc prog w 0 spare held n0 9 ((cs.drop 0).take (prog.cellsOf 9))=some z0:=y0
 rw[Bt] at y0
 obtain⟨x0,r0⟩:=Br underlying9 y0
 obtain⟨z1,y1⟩:=hf 1 _ rfl
 replace y1:DataW.trod enc prog w 0 spare held n0 39 ((cs.drop 1).take (prog.cellsOf 39))=some z1:=y1
 rw[EQ] at y1
 obtain⟨x1,r1⟩:=Bg (ea:=BI) underlying39 Bt (by decide) Bs (fun n cs x _ hq=>Br underlying9 hq) y1
 obtain⟨z2,y2⟩:=hf 2 _ rfl
 replace y2:DataW.trod enc prog w 0 spare held n0 176 ((cs.drop 2).take (prog.cellsOf 176))=some z2:=y2
 rw[Cb] at y2
 obtain⟨x2,r2⟩:=CF y2
 obtain⟨z3,y3⟩:=hf 3 _ rfl
 replace y3:DataW.trod enc prog w 0 spare held n0 177 ((cs.drop 5).take (prog.cellsOf 177))=some z3:=y3
 rw[OW] at y3
 obtain⟨x3,r3⟩:=Bg (ea:=A9.enc) underlying177 K7 (by decide) A9.width (fun n cs x _ hq=>IC hq) y3
 obtain⟨z4,y4⟩:=hf 4 _ rfl
 replace y4:DataW.trod enc prog w 0 spare held n0 4 ((cs.drop 6).take (prog.cellsOf 4))=some z4:=y4
 rw[K6] at y4
 obtain⟨x4,r4⟩:=JS underlying4 y4
 obtain⟨z5,y5⟩:=hf 5 _ rfl
 replace y5:DataW.trod enc prog w 0 spare held n0 4 ((cs.drop 7).take (prog.cellsOf 4))=some z5:=y5
 rw[K6] at y5
 obtain⟨x5,r5⟩:=JS underlying4 y5
 obtain⟨z6,y6⟩:=hf 6 _ rfl
 replace y6:DataW.trod enc prog w 0 spare held n0 176 ((cs.drop 8).take (prog.cellsOf 176))=some z6:=y6
 rw[Cb] at y6
 obtain⟨x6,r6⟩:=CF y6
 obtain⟨z7,y7⟩:=hf 7 _ rfl
 replace y7:DataW.trod enc prog w 0 spare held n0 178 ((cs.drop 11).take (prog.cellsOf 178))=some z7:=y7
 rw[XE] at y7
 obtain⟨x7,r7⟩:=Bg (ea:=AY.enc) underlying178 OQ (by decide) AY.width (fun n cs x _ hq=>Lu hq) y7
 refine⟨⟨x0,x1,x2,x3,x4,x5,x6,x7⟩,?_⟩
 rw[AJ.enc_eq]
 simp only[Rep]
 have hs:=B3.at_ (off:=0) (n:=1) (Bs _) r0 (B3.at_ (off:=1) (n:=1) (Dv _) r1 (B3.at_ (off:=2) (n:=3) (A0.width _) r2 (B3.at_ (off:=5) (n:=1) (Dv _) r3 (B3.at_ (off:=6) (n:=1) (K0 _) r4 (B3.at_ (off:=7) (n:=1) (K0 _) r5 (B3.at_ (off:=8) (n:=3) (A0.width _) r6 (B3.at_ (off:=11) (n:=1) (Dv _) r7 (B3.end_ (off:=12) hl))))))))
 simpa only[List.drop_zero] using hs
theorem OP:prog.cellsOf 332=4:=by kernel_rfl
set_option maxRecDepth 100000 in
theorem NU {H:Type} {enc:TypeId×Value→H} {w:World} {spare:Nat→Bool} {held:Bool}:∀{fuel:Nat} {cs:List Value} {x:DataW H×List MemPlace},DataW.trod enc prog w 0 spare held fuel 332 cs=some x→∃y:AX,Rep w (Dk w) y.enc cs:=by
 intro fuel cs x h
 obtain⟨hl,n0,rfl,hf⟩:=DI underlying332 h
 rw[OP] at hl
 obtain⟨z0,y0⟩:=hf 0 _ rfl
 replace y0:DataW.trod enc prog w 0 spare held n0 9 ((cs.drop 0).take (prog.cellsOf 9))=some z0:=y0
 rw[Bt] at y0
 obtain⟨x0,r0⟩:=Br underlying9 y0
 obtain⟨z1,y1⟩:=hf 1 _ rfl
 replace y1:DataW.trod enc prog w 0 spare held n0 176 ((cs.drop 1).take (prog.cellsOf 176))=some z1:=y1
 rw[Cb] at y1
 obtain⟨x1,r1⟩:=CF y1
 refine⟨⟨x0,x1⟩,?_⟩
 rw[AX.enc_eq]
 simp only[Rep]
 have hs:=B3.at_ (off:=0) (n:=1) (Bs _) r0 (B3.at_ (off:=1) (n:=3) (A0.width _) r1 (B3.end_ (off:=4) hl))
 simpa only[List.drop_zero] using hs
theorem OU:prog.cellsOf 188=16:=by kernel_rfl
theorem XD:prog.cellsOf 182=1:=by kernel_rfl
set_option maxRecDepth 100000 in
theorem JU {H:Type} {enc:TypeId×Value→H} {w:World} {spare:Nat→Bool} {held:Bool}:∀{fuel:Nat} {cs:List Value} {x:DataW H×List MemPlace},DataW.trod enc prog w 0 spare held fuel 188 cs=some x→∃y:AL,Rep w (Dk w) y.enc cs:=by
 intro fuel cs x h
 obtain⟨hl,n0,rfl,hf⟩:=DI underlying188 h
 rw[OU] at hl
 obtain⟨z0,y0⟩:=hf 0 _ rfl
 replace y0:DataW.trod enc prog w 0 spare held n0 9 ((cs.drop 0).take (prog.cellsOf 9))=some z0:=y0
 rw[Bt] at y0
 obtain⟨x0,r0⟩:=Br underlying9 y0
 obtain⟨z1,y1⟩:=hf 1 _ rfl
 replace y1:DataW.trod enc prog w 0 spare held n0 39 ((cs.drop 1).take (prog.cellsOf 39))=some z1:=y1
 rw[EQ] at y1
 obtain⟨x1,r1⟩:=Bg (ea:=BI) underlying39 Bt (by decide) Bs (fun n cs x _ hq=>Br underlying9 hq) y1
 obtain⟨z2,y2⟩:=hf 2 _ rfl
 replace y2:DataW.trod enc prog w 0 spare held n0 177 ((cs.drop 2).take (prog.cellsOf 177))=some z2:=y2
 rw[OW] at y2
 obtain⟨x2,r2⟩:=Bg (ea:=A9.enc) underlying177 K7 (by decide) A9.width (fun n cs x _ hq=>IC hq) y2
 obtain⟨z3,y3⟩:=hf 3 _ rfl
 replace y3:DataW.trod enc prog w 0 spare held n0 182 ((cs.drop 3).take (prog.cellsOf 182))=some z3:=y3
 rw[XD] at y3
 obtain⟨x3,r3⟩:=Bg (ea:=AX.enc) underlying182 OP (by decide) AX.width (fun n cs x _ hq=>NU hq) y3
 obtain⟨z4,y4⟩:=hf 4 _ rfl
 replace y4:DataW.trod enc prog w 0 spare held n0 176 ((cs.drop 4).take (prog.cellsOf 176))=some z4:=y4
 rw[Cb] at y4
 obtain⟨x4,r4⟩:=CF y4
 obtain⟨z5,y5⟩:=hf 5 _ rfl
 replace y5:DataW.trod enc prog w 0 spare held n0 186 ((cs.drop 7).take (prog.cellsOf 186))=some z5:=y5
 rw[Ew] at y5
 obtain⟨x5,r5⟩:=GB y5
 refine⟨⟨x0,x1,x2,x3,x4,x5⟩,?_⟩
 rw[AL.enc_eq]
 simp only[Rep]
 have hs:=B3.at_ (off:=0) (n:=1) (Bs _) r0 (B3.at_ (off:=1) (n:=1) (Dv _) r1 (B3.at_ (off:=2) (n:=1) (Dv _) r2 (B3.at_ (off:=3) (n:=1) (Dv _) r3 (B3.at_ (off:=4) (n:=3) (A0.width _) r4 (B3.at_ (off:=7) (n:=9) (AG.width _) r5 (B3.end_ (off:=16) hl))))))
 simpa only[List.drop_zero] using hs
theorem OT:prog.cellsOf 319=16:=by kernel_rfl
set_option maxRecDepth 100000 in
theorem IR {H:Type} {enc:TypeId×Value→H} {w:World} {spare:Nat→Bool} {held:Bool}:∀{fuel:Nat} {cs:List Value} {x:DataW H×List MemPlace},DataW.trod enc prog w 0 spare held fuel 319 cs=some x→∃y:AC,Rep w (Dk w) y.enc cs:=by
 intro fuel cs x h
 obtain⟨hl,n0,rfl,hf⟩:=DI underlying319 h
 rw[OT] at hl
 obtain⟨z0,y0⟩:=hf 0 _ rfl
 replace y0:DataW.trod enc prog w 0 spare held n0 9 ((cs.drop 0).take (prog.cellsOf 9))=some z0:=y0
 rw[Bt] at y0
 obtain⟨x0,r0⟩:=Br underlying9 y0
 obtain⟨z1,y1⟩:=hf 1 _ rfl
 replace y1:DataW.trod enc prog w 0 spare held n0 174 ((cs.drop 1).take (prog.cellsOf 174))=some z1:=y1
 rw[K8] at y1
 obtain⟨x1,r1⟩:=Bg (ea:=A0.enc) underlying174 Cb (by decide) A0.width (fun n cs x _ hq=>CF hq) y1
 obtain⟨z2,y2⟩:=hf 2 _ rfl
 replace y2:DataW.trod enc prog w 0 spare held n0 176 ((cs.drop 2).take (prog.cellsOf 176))=some z2:=y2
 rw[Cb] at y2
 obtain⟨x2,r2⟩:=CF y2
 obtain⟨z3,y3⟩:=hf 3 _ rfl
 replace y3:DataW.trod enc prog w 0 spare held n0 4 ((cs.drop 5).take (prog.cellsOf 4))=some z3:=y3
 rw[K6] at y3
 obtain⟨x3,r3⟩:=JS underlying4 y3
 obtain⟨z4,y4⟩:=hf 4 _ rfl
 replace y4:DataW.trod enc prog w 0 spare held n0 39 ((cs.drop 6).take (prog.cellsOf 39))=some z4:=y4
 rw[EQ] at y4
 obtain⟨x4,r4⟩:=Bg (ea:=BI) underlying39 Bt (by decide) Bs (fun n cs x _ hq=>Br underlying9 hq) y4
 obtain⟨z5,y5⟩:=hf 5 _ rfl
 replace y5:DataW.trod enc prog w 0 spare held n0 186 ((cs.drop 7).take (prog.cellsOf 186))=some z5:=y5
 rw[Ew] at y5
 obtain⟨x5,r5⟩:=GB y5
 refine⟨⟨x0,x1,x2,x3,x4,x5⟩,?_⟩
 rw[AC.enc_eq]
 simp only[Rep]
 have hs:=B3.at_ (off:=0) (n:=1) (Bs _) r0 (B3.at_ (off:=1) (n:=1) (Dv _) r1 (B3.at_ (off:=2) (n:=3) (A0.width _) r2 (B3.at_ (off:=5) (n:=1) (K0 _) r3 (B3.at_ (off:=6) (n:=1) (Dv _) r4 (B3.at_ (off:=7) (n:=9) (AG.width _) r5 (B3.end_ (off:=16) hl))))))
 simpa only[List.drop_zero] using hs
theorem OY:prog.cellsOf 168=5:=by kernel_rfl
theorem XH:prog.cellsOf 166=1:=by kernel_rfl
set_option maxRecDepth 100000 in
theorem NT {H:Type} {enc:TypeId×Value→H} {w:World} {spare:Nat→Bool} {held:Bool}:∀{fuel:Nat} {cs:List Value} {x:DataW H×List MemPlace},DataW.trod enc prog w 0 spare held fuel 168 cs=some x→∃y:AU,Rep w (Dk w) y.enc cs:=by
 intro fuel cs x h
 obtain⟨hl,n0,rfl,hf⟩:=DI underlying168 h
 rw[OY] at hl
 obtain⟨z0,y0⟩:=hf 0 _ rfl
 replace y0:DataW.trod enc prog w 0 spare held n0 9 ((cs.drop 0).take (prog.cellsOf 9))=some z0:=y0
 rw[Bt] at y0
 obtain⟨x0,r0⟩:=Br underlying9 y0
 obtain⟨z1,y1⟩:=hf 1 _ rfl
 replace y1:DataW.trod enc prog w 0 spare held n0 39 ((cs.drop 1).take (prog.cellsOf 39))=some z1:=y1
 rw[EQ] at y1
 obtain⟨x1,r1⟩:=Bg (ea:=BI) underlying39 Bt (by decide) Bs (fun n cs x _ hq=>Br underlying9 hq) y1
 obtain⟨z2,y2⟩:=hf 2 _ rfl
 replace y2:DataW.trod enc prog w 0 spare held n0 4 ((cs.drop 2).take (prog.cellsOf 4))=some z2:=y2
 rw[K6] at y2
 obtain⟨x2,r2⟩:=JS underlying4 y2
 obtain⟨z3,y3⟩:=hf 3 _ rfl
 replace y3:DataW.trod enc prog w 0 spare held n0 4 ((cs.drop 3).take (prog.cellsOf 4))=some z3:=y3
 rw[K6] at y3
 obtain⟨x3,r3⟩:=JS underlying4 y3
 obtain⟨z4,y4⟩:=hf 4 _ rfl
 replace y4:DataW.trod enc prog w 0 spare held n0 166 ((cs.drop 4).take (prog.cellsOf 166))=some z4:=y4
 rw[XH] at y4
 obtain⟨x4,r4⟩:=Bg (ea:=AC.enc) underlying166 OT (by decide) AC.width (fun n cs x _ hq=>IR hq) y4
 refine⟨⟨x0,x1,x2,x3,x4⟩,?_⟩
 rw[AU.enc_eq]
 simp only[Rep]
 have hs:=B3.at_ (off:=0) (n:=1) (Bs _) r0 (B3.at_ (off:=1) (n:=1) (Dv _) r1 (B3.at_ (off:=2) (n:=1) (K0 _) r2 (B3.at_ (off:=3) (n:=1) (K0 _) r3 (B3.at_ (off:=4) (n:=1) (Dv _) r4 (B3.end_ (off:=5) hl)))))
 simpa only[List.drop_zero] using hs
theorem Rp:prog.cellsOf 61=6:=by kernel_rfl
theorem aw:prog.cellsOf 56=1:=by kernel_rfl
theorem aq:prog.cellsOf 57=1:=by kernel_rfl
theorem ao:prog.cellsOf 58=1:=by kernel_rfl
theorem an:prog.cellsOf 59=1:=by kernel_rfl
set_option maxRecDepth 100000 in
theorem KW {H:Type} {enc:TypeId×Value→H} {w:World} {spare:Nat→Bool} {held:Bool}:∀{fuel:Nat} {cs:List Value} {x:DataW H×List MemPlace},DataW.trod enc prog w 0 spare held fuel 61 cs=some x→∃y:A8,Rep w (Dk w) y.enc cs:=by
 intro fuel cs x h
 obtain⟨hl,n0,rfl,hf⟩:=DI underlying61 h
 rw[Rp] at hl
 obtain⟨z0,y0⟩:=hf 0 _ rfl
 replace y0:DataW.trod enc prog w 0 spare held n0 9 ((cs.drop 0).take (prog.cellsOf 9))=some z0:=y0
 rw[Bt] at y0
 obtain⟨x0,r0⟩:=Br underlying9 y0
 obtain⟨z1,y1⟩:=hf 1 _ rfl
 replace y1:DataW.trod enc prog w 0 spare held n0 39 ((cs.drop 1).take (prog.cellsOf 39))=some z1:=y1
 rw[EQ] at y1
 obtain⟨x1,r1⟩:=Bg (ea:=BI) underlying39 Bt (by decide) Bs (fun n cs x _ hq=>Br underlying9 hq) y1
 obtain⟨z2,y2⟩:=hf 2 _ rfl
 replace y2:DataW.trod enc prog w 0 spare held n0 56 ((cs.drop 2).take (prog.cellsOf 56))=some z2:=y2
 rw[aw] at y2
 obtain⟨x2,r2⟩:=Bg (ea:=AU.enc) underlying56 OY (by decide) AU.width (fun n cs x _ hq=>NT hq) y2
 obtain⟨z3,y3⟩:=hf 3 _ rfl
 replace y3:DataW.trod enc prog w 0 spare held n0 57 ((cs.drop 3).take (prog.cellsOf 57))=some z3:=y3
 rw[aq] at y3
 obtain⟨x3,r3⟩:=Bg (ea:=AF.enc) underlying57 OX (by decide) AF.width (fun n cs x _ hq=>JV hq) y3
 obtain⟨z4,y4⟩:=hf 4 _ rfl
 replace y4:DataW.trod enc prog w 0 spare held n0 58 ((cs.drop 4).take (prog.cellsOf 58))=some z4:=y4
 rw[ao] at y4
 obtain⟨x4,r4⟩:=Bg (ea:=AJ.enc) underlying58 OV (by decide) AJ.width (fun n cs x _ hq=>JT hq) y4
 obtain⟨z5,y5⟩:=hf 5 _ rfl
 replace y5:DataW.trod enc prog w 0 spare held n0 59 ((cs.drop 5).take (prog.cellsOf 59))=some z5:=y5
 rw[an] at y5
 obtain⟨x5,r5⟩:=Bg (ea:=AL.enc) underlying59 OU (by decide) AL.width (fun n cs x _ hq=>JU hq) y5
 refine⟨⟨x0,x1,x2,x3,x4,x5⟩,?_⟩
 rw[A8.enc_eq]
 simp only[Rep]
 have hs:=B3.at_ (off:=0) (n:=1) (Bs _) r0 (B3.at_ (off:=1) (n:=1) (Dv _) r1 (B3.at_ (off:=2) (n:=1) (Dv _) r2 (B3.at_ (off:=3) (n:=1) (Dv _) r3 (B3.at_ (off:=4) (n:=1) (Dv _) r4 (B3.at_ (off:=5) (n:=1) (Dv _) r5 (B3.end_ (off:=6) hl))))))
 simpa only[List.drop_zero] using hs
theorem ax:prog.cellsOf 24=1:=by kernel_rfl
theorem ay:prog.cellsOf 22=1:=by kernel_rfl
set_option maxRecDepth 100000 in
theorem KV {H:Type} {enc:TypeId×Value→H} {w:World} {spare:Nat→Bool} {held:Bool}:∀{fuel:Nat} {cs:List Value} {x:DataW H×List MemPlace},DataW.trod enc prog w 0 spare held fuel 24 cs=some x→∃y:A1,Rep w (Dk w) y.enc cs:=by
 intro fuel cs x h
 obtain⟨hl,n0,rfl,hf⟩:=DI underlying24 h
 rw[ax] at hl
 obtain⟨z0,y0⟩:=hf 0 _ rfl
 replace y0:DataW.trod enc prog w 0 spare held n0 22 ((cs.drop 0).take (prog.cellsOf 22))=some z0:=y0
 rw[ay] at y0
 obtain⟨x0,r0⟩:=Bg (ea:=A8.enc) underlying22 Rp (by decide) A8.width (fun n cs x _ hq=>KW hq) y0
 refine⟨⟨x0⟩,?_⟩
 rw[A1.enc_eq]
 simp only[Rep]
 have hs:=B3.at_ (off:=0) (n:=1) (Dv _) r0 (B3.end_ (off:=1) hl)
 simpa only[List.drop_zero] using hs
theorem b6 {α:Type} {g:α→BA'} {s:BA'} {l:List α} {x:α} {i:Nat} (h:byN g s l=some (x,i)):x∈l:=by
 obtain⟨y,hy,k,h2⟩:=Dm h
 unfold byF at h2
 split at h2
 ·cases h2;exact hy
 ·cases h2
theorem dy (t:AU) (s:BA'):(siR t s).1.Am.length≤t.sz:=by
 unfold siR
 cases h:byN AC.A5 s t.AW with
 |none=>exact Nat.zero_le _
 |some x=>
  obtain⟨x,i⟩:=x
  have h1:=Ae AC.sz (b6 h)
  have h2:=x.sz_eq;have h3:=t.sz_eq
  unfold szs at h2 h3
  simp only[DX];omega
theorem QD {t:AU} (hz:t.sz≤134217728) (s:BA'):IntKind.i64.wrap (((siR t s).1.Am.length:Int)+1)=((siR t s).1.Am.length:Int)+1:=BH (by omega) (by have:=dy t s;omega)
