/- Part 47. No condition. -/
import Derived.Test.YtgihkamifpmfdaaGreatDoorM35
import Derived.Test.YtgihkamifpmfdaaGreatDoorM36
namespace Go.Proofs.YtgihkamifpmfdaaGreatDoor
open Go.RowKit Tryz
set_option maxRecDepth 10000
set_option linter.unusedSimpArgs false
set_option linter.unusedVariables false
set_option maxHeartbeats 4000000
abbrev De (x:A0):DD:=.st [.lf (.int .i64 (x.AH)),.lf (.string (x.A5)),.sl false Ai ((x.AB).map (A0.dd false))]
abbrev HY (x:Ac):DD:=.st [.lf (.string (x.AZ)),.sl false .one ((x.Aa).map (dS)),.st [.lf (.int .i64 (x.Ab.AH)),.lf (.string (x.Ab.AK)),.lf (.string (x.Ab.A5)),.lf (.int .i64 (x.Ab.fN)),.st [.lf (.int .i64 (x.Ab.AM.AH)),.lf (.string (x.Ab.AM.A5)),.sl false Ai ((x.Ab.AM.AB).map (A0.dd false))],.sl false Be ((x.Ab.AB).map (AG.dd false)),.sl false BL ((x.Ab.Af).map (Ac.dd false))]]
abbrev Cm (x:AG):DD:=.st [.lf (.int .i64 (x.AH)),.lf (.string (x.AK)),.lf (.string (x.A5)),.lf (.int .i64 (x.fN)),.st [.lf (.int .i64 (x.AM.AH)),.lf (.string (x.AM.A5)),.sl false Ai ((x.AM.AB).map (A0.dd false))],.sl false Be ((x.AB).map (AG.dd false)),.sl false BL ((x.Af).map (Ac.dd false))]
abbrev E5 (x:AC):DD:=.st [.lf (.string (x.A5)),.sl false Ai ((x.Am).map (A0.dd false)),.st [.lf (.int .i64 (x.B9.AH)),.lf (.string (x.B9.A5)),.sl false Ai ((x.B9.AB).map (A0.dd false))],.lf (.bool (x.BS)),.sl false .one ((x.Aa).map (dS)),.st [.lf (.int .i64 (x.Ab.AH)),.lf (.string (x.Ab.AK)),.lf (.string (x.Ab.A5)),.lf (.int .i64 (x.Ab.fN)),.st [.lf (.int .i64 (x.Ab.AM.AH)),.lf (.string (x.Ab.AM.A5)),.sl false Ai ((x.Ab.AM.AB).map (A0.dd false))],.sl false Be ((x.Ab.AB).map (AG.dd false)),.sl false BL ((x.Ab.Af).map (Ac.dd false))]]
abbrev J3 (x:AU):DD:=.st [.lf (.string (x.A5)),.sl false .one ((x.Aq).map (dS)),.lf (.bool (x.CP)),.lf (.bool (x.B4)),.sl false CL ((x.AW).map (AC.dd false))]
abbrev DB (x:AA):DD:=.st [.lf (.string (x.A5)),.sl false Ai ((x.Av).map (A0.dd false))]
abbrev Ei (x:AF):DD:=.st [.lf (.string (x.A5)),.sl false .one ((x.Aa).map (dS)),.sl false DR ((x.A4).map (AA.dd false))]
abbrev J5 (x:A9):DD:=.st [.lf (.string (x.AK)),.st [.lf (.int .i64 (x.AM.AH)),.lf (.string (x.AM.A5)),.sl false Ai ((x.AM.AB).map (A0.dd false))]]
abbrev GX (x:AY):DD:=.st [.lf (.string (x.A5)),.sl false .one ((x.Aa).map (dS)),.st [.lf (.int .i64 (x.Ab.AH)),.lf (.string (x.Ab.AK)),.lf (.string (x.Ab.A5)),.lf (.int .i64 (x.Ab.fN)),.st [.lf (.int .i64 (x.Ab.AM.AH)),.lf (.string (x.Ab.AM.A5)),.sl false Ai ((x.Ab.AM.AB).map (A0.dd false))],.sl false Be ((x.Ab.AB).map (AG.dd false)),.sl false BL ((x.Ab.Af).map (Ac.dd false))]]
abbrev Eg (x:AJ):DD:=.st [.lf (.string (x.AK)),.sl false .one ((x.Aa).map (dS)),.st [.lf (.int .i64 (x.At.AH)),.lf (.string (x.At.A5)),.sl false Ai ((x.At.AB).map (A0.dd false))],.sl false BC ((x.Ah).map (A9.dd false)),.lf (.bool (x.Ca)),.lf (.bool (x.BT)),.st [.lf (.int .i64 (x.B4.AH)),.lf (.string (x.B4.A5)),.sl false Ai ((x.B4.AB).map (A0.dd false))],.sl false DH ((x.Ar).map (AY.dd false))]
abbrev J4 (x:AX):DD:=.st [.lf (.string (x.A5)),.st [.lf (.int .i64 (x.AM.AH)),.lf (.string (x.AM.A5)),.sl false Ai ((x.AM.AB).map (A0.dd false))]]
abbrev Eh (x:AL):DD:=.st [.lf (.string (x.A5)),.sl false .one ((x.Aa).map (dS)),.sl false BC ((x.Ah).map (A9.dd false)),.sl false CZ ((x.Am).map (AX.dd false)),.st [.lf (.int .i64 (x.B9.AH)),.lf (.string (x.B9.A5)),.sl false Ai ((x.B9.AB).map (A0.dd false))],.st [.lf (.int .i64 (x.Ab.AH)),.lf (.string (x.Ab.AK)),.lf (.string (x.Ab.A5)),.lf (.int .i64 (x.Ab.fN)),.st [.lf (.int .i64 (x.Ab.AM.AH)),.lf (.string (x.Ab.AM.A5)),.sl false Ai ((x.Ab.AM.AB).map (A0.dd false))],.sl false Be ((x.Ab.AB).map (AG.dd false)),.sl false BL ((x.Ab.Af).map (Ac.dd false))]]
abbrev FT (x:A8):DD:=.st [.lf (.string (x.A5)),.sl false .one ((x.Ba).map (dS)),.sl false FL ((x.Aj).map (AU.dd false)),.sl false FK ((x.AE).map (AF.dd false)),.sl false FJ ((x.AQ).map (AJ.dd false)),.sl false FI ((x.Ad).map (AL.dd false))]
abbrev Ee (x:A1):DD:=.st [.sl false Dw ((x.A2).map (A8.dd false))]
instance iJ (l:List BA') (left:Int):Ct cx 47 [.d (.sl false .one (l.map dS)),dI' left] (0≤left∧left≤1048576) (dI' (BW (szs ByteArray.size l) left)):=by
 refine XiF 0 (.sl false .one (l.map dS)) func47 28 [.tmp 4] [] [] AN trivial ?_;intro hfit hp h M G H E
 have hF:=SZF.of ByteArray.size l
 have hfs:∀k (h:k<l.length),(l[k]).size≤maxLen:=fun k h=>by have:=O6 hfit.2 _ (gm h);simpa[DD.fit,BK] using this
 unfold maxLen at hfs
 replace H:=AI (Int.sub_sub left) H
 exact DVr
theorem Kq (n:Nat) (i0:∀(x:A0) (left:Int),Ct cx 184 [.d (De x),dI' left] (SizeOf.sizeOf x<n∧0≤left∧left≤1048576) (dI' (BW (x.sz) left))):∀(l:List A0) (left:Int),Ct cx 270 [.d (.sl false Ai (l.map (A0.dd false))),dI' left] ((∀y∈l,SizeOf.sizeOf y<n)∧0≤left∧left≤1048576) (dI' (BW (szs A0.sz l) left)):=fun l left=>by
 refine XiF 0 (.sl false Ai (l.map (A0.dd false))) func270 27 [.tmp 4] [] [] AN trivial ?_;intro hfit hp h M G H E
 have hq:∀k (h:k<l.length),SizeOf.sizeOf l[k]<n:=fun k h=>hp.1 _ (gm h);replace H:=AI hq H;have hp2:=hp.2
 have hF:=SZF.of A0.sz l
 exact DVr
theorem UX (n:Nat) (jType:∀(l:List A0) (left:Int),Ct cx 270 [.d (.sl false Ai (l.map (A0.dd false))),dI' left] ((∀y∈l,SizeOf.sizeOf y<n)∧0≤left∧left≤1048576) (dI' (BW (szs A0.sz l) left))):∀(x:A0) (left:Int),Ct cx 184 [.d (De x),dI' left] (SizeOf.sizeOf x<n+1∧0≤left∧left≤1048576) (dI' (BW (x.sz) left)):=fun x left=>by
 refine XiF 0 (De x) func184 19 [.tmp 4] [] [] AN trivial ?_;intro hfit hp h M G H E
 have hp2:=hp.2
 have uArgs:∀y∈x.AB,SizeOf.sizeOf y<n:=fun y hy=>by have:=List.sizeOf_lt_of_mem hy;have:=x.lt_fArgs;omega
 replace H:=AI uArgs H
 have hsz:=x.sz_eq
 simp[DD.fit,DD.fits,BK,maxLen] at hfit
 exact DVz
theorem JE:∀n:Nat,(∀(x:A0) (left:Int),Ct cx 184 [.d (De x),dI' left] (SizeOf.sizeOf x<n∧0≤left∧left≤1048576) (dI' (BW (x.sz) left)))
 |0=>fun x left=>⟨fk1 func184,fun hp=>absurd hp.1 (Nat.not_lt_zero _)⟩
 |n+1=>have ih:=JE n;UX n (Kq n ih)
instance nB (x:A0) (left:Int):Ct cx 184 [.d (De x),dI' left] (0≤left∧left≤1048576) (dI' (BW (x.sz) left)):=⟨fk1 func184,fun hp h=>((JE _) x left).cs ⟨Nat.lt_succ_self _,hp⟩ h⟩
instance lZ (l:List A0) (left:Int):Ct cx 270 [.d (.sl false Ai (l.map (A0.dd false))),dI' left] (0≤left∧left≤1048576) (dI' (BW (szs A0.sz l) left)):=⟨fk1 func270,fun hp h=>(Kq (SizeOf.sizeOf l) (JE _) l left).cs ⟨fun y hy=>List.sizeOf_lt_of_mem hy,hp⟩ h⟩
theorem Ub (n:Nat) (i0:∀(x:Ac) (left:Int),Ct cx 354 [.d (HY x),dI' left] (SizeOf.sizeOf x<n∧0≤left∧left≤1048576) (dI' (BW (x.sz) left))):∀(l:List Ac) (left:Int),Ct cx 275 [.d (.sl false BL (l.map (Ac.dd false))),dI' left] ((∀y∈l,SizeOf.sizeOf y<n)∧0≤left∧left≤1048576) (dI' (BW (szs Ac.sz l) left)):=fun l left=>by
 refine XiF 0 (.sl false BL (l.map (Ac.dd false))) func275 27 [.tmp 4] [] [] AN trivial ?_;intro hfit hp h M G H E
 have hq:∀k (h:k<l.length),SizeOf.sizeOf l[k]<n:=fun k h=>hp.1 _ (gm h);replace H:=AI hq H;have hp2:=hp.2
 have hF:=SZF.of Ac.sz l
 exact DVr
theorem SR (n:Nat) (i0:∀(x:AG) (left:Int),Ct cx 188 [.d (Cm x),dI' left] (SizeOf.sizeOf x<n∧0≤left∧left≤1048576) (dI' (BW (x.sz) left))):∀(l:List AG) (left:Int),Ct cx 274 [.d (.sl false Be (l.map (AG.dd false))),dI' left] ((∀y∈l,SizeOf.sizeOf y<n)∧0≤left∧left≤1048576) (dI' (BW (szs AG.sz l) left)):=fun l left=>by
 refine XiF 0 (.sl false Be (l.map (AG.dd false))) func274 27 [.tmp 4] [] [] AN trivial ?_;intro hfit hp h M G H E
 have hq:∀k (h:k<l.length),SizeOf.sizeOf l[k]<n:=fun k h=>hp.1 _ (gm h);replace H:=AI hq H;have hp2:=hp.2
 have hF:=SZF.of AG.sz l
 exact DVr
theorem YW (n:Nat) (iExpr:∀(x:AG) (left:Int),Ct cx 188 [.d (Cm x),dI' left] (SizeOf.sizeOf x<n∧0≤left∧left≤1048576) (dI' (BW (x.sz) left))):∀(x:Ac) (left:Int),Ct cx 354 [.d (HY x),dI' left] (SizeOf.sizeOf x<n+1∧0≤left∧left≤1048576) (dI' (BW (x.sz) left)):=fun x left=>by
 refine XiF 0 (HY x) func354 25 [.tmp 4] [] [] AN trivial ?_;intro hfit hp h M G H E
 have hp2:=hp.2
 have uBody:SizeOf.sizeOf x.Ab<n:=by have:=x.lt_fBody;omega
 replace H:=AI uBody H
 have hsz:=x.sz_eq
 simp[DD.fit,DD.fits,BK,maxLen] at hfit
 exact DVz
theorem UZ (n:Nat) (jExpr:∀(l:List AG) (left:Int),Ct cx 274 [.d (.sl false Be (l.map (AG.dd false))),dI' left] ((∀y∈l,SizeOf.sizeOf y<n)∧0≤left∧left≤1048576) (dI' (BW (szs AG.sz l) left))) (jArm:∀(l:List Ac) (left:Int),Ct cx 275 [.d (.sl false BL (l.map (Ac.dd false))),dI' left] ((∀y∈l,SizeOf.sizeOf y<n)∧0≤left∧left≤1048576) (dI' (BW (szs Ac.sz l) left))):∀(x:AG) (left:Int),Ct cx 188 [.d (Cm x),dI' left] (SizeOf.sizeOf x<n+1∧0≤left∧left≤1048576) (dI' (BW (x.sz) left)):=fun x left=>by
 refine XiF 0 (Cm x) func188 38 [.tmp 4] [] [] AN trivial ?_;intro hfit hp h M G H E
 have hp2:=hp.2
 have uArgs:∀y∈x.AB,SizeOf.sizeOf y<n:=fun y hy=>by have:=List.sizeOf_lt_of_mem hy;have:=x.lt_fArgs;omega
 replace H:=AI uArgs H
 have uArms:∀y∈x.Af,SizeOf.sizeOf y<n:=fun y hy=>by have:=List.sizeOf_lt_of_mem hy;have:=x.lt_fArms;omega
 replace H:=AI uArms H
 have hsz:=x.sz_eq
 simp[DD.fit,DD.fits,BK,maxLen] at hfit
 exact DVz
theorem NA:∀n:Nat,(∀(x:Ac) (left:Int),Ct cx 354 [.d (HY x),dI' left] (SizeOf.sizeOf x<n∧0≤left∧left≤1048576) (dI' (BW (x.sz) left)))∧(∀(x:AG) (left:Int),Ct cx 188 [.d (Cm x),dI' left] (SizeOf.sizeOf x<n∧0≤left∧left≤1048576) (dI' (BW (x.sz) left)))
 |0=>⟨fun x left=>⟨fk1 func354,fun hp=>absurd hp.1 (Nat.not_lt_zero _)⟩,fun x left=>⟨fk1 func188,fun hp=>absurd hp.1 (Nat.not_lt_zero _)⟩⟩
 |n+1=>have ih:=NA n;⟨YW n ih.2,UZ n (SR n ih.2) (Ub n ih.1)⟩
instance nC (x:AG) (left:Int):Ct cx 188 [.d (Cm x),dI' left] (0≤left∧left≤1048576) (dI' (BW (x.sz) left)):=⟨fk1 func188,fun hp h=>((NA _).2 x left).cs ⟨Nat.lt_succ_self _,hp⟩ h⟩
instance bo (x:AC) (left:Int):Ct cx 268 [.d (E5 x),dI' left] (0≤left∧left≤1048576) (dI' (BW (x.sz) left)):=by
 refine XiF 0 (E5 x) func268 37 [.tmp 4] [] [] AN trivial ?_;intro hfit hp h M G H E
 have hsz:=x.sz_eq
 simp[DD.fit,DD.fits,BK,maxLen] at hfit
 exact DVz
instance YV (l:List AC) (left:Int):Ct cx 182 [.d (.sl false CL (l.map (AC.dd false))),dI' left] (0≤left∧left≤1048576) (dI' (BW (szs AC.sz l) left)):=by
 refine XiF 0 (.sl false CL (l.map (AC.dd false))) func182 27 [.tmp 4] [] [] AN trivial ?_;intro hfit hp h M G H E
 have hF:=SZF.of AC.sz l
 exact DVr
instance la (x:AU) (left:Int):Ct cx 118 [.d (J3 x),dI' left] (0≤left∧left≤1048576) (dI' (BW (x.sz) left)):=by
 refine XiF 0 (J3 x) func118 25 [.tmp 4] [] [] AN trivial ?_;intro hfit hp h M G H E
 have hsz:=x.sz_eq
 simp[DD.fit,DD.fits,BK,maxLen] at hfit
 exact DVz
instance jd (l:List AU) (left:Int):Ct cx 48 [.d (.sl false FL (l.map (AU.dd false))),dI' left] (0≤left∧left≤1048576) (dI' (BW (szs AU.sz l) left)):=by
 refine XiF 0 (.sl false FL (l.map (AU.dd false))) func48 27 [.tmp 4] [] [] AN trivial ?_;intro hfit hp h M G H E
 have hF:=SZF.of AU.sz l
 exact DVr
instance Y1 (x:AA) (left:Int):Ct cx 269 [.d (DB x),dI' left] (0≤left∧left≤1048576) (dI' (BW (x.sz) left)):=by
 refine XiF 0 (DB x) func269 19 [.tmp 4] [] [] AN trivial ?_;intro hfit hp h M G H E
 have hsz:=x.sz_eq
 simp[DD.fit,DD.fits,BK,maxLen] at hfit
 exact DVz
instance Ua (l:List AA) (left:Int):Ct cx 183 [.d (.sl false DR (l.map (AA.dd false))),dI' left] (0≤left∧left≤1048576) (dI' (BW (szs AA.sz l) left)):=by
 refine XiF 0 (.sl false DR (l.map (AA.dd false))) func183 27 [.tmp 4] [] [] AN trivial ?_;intro hfit hp h M G H E
 have hF:=SZF.of AA.sz l
 exact DVr
instance dq (x:AF) (left:Int):Ct cx 119 [.d (Ei x),dI' left] (0≤left∧left≤1048576) (dI' (BW (x.sz) left)):=by
 refine XiF 0 (Ei x) func119 25 [.tmp 4] [] [] AN trivial ?_;intro hfit hp h M G H E
 have hsz:=x.sz_eq
 simp[DD.fit,DD.fits,BK,maxLen] at hfit
 exact DVz
instance br (l:List AF) (left:Int):Ct cx 49 [.d (.sl false FK (l.map (AF.dd false))),dI' left] (0≤left∧left≤1048576) (dI' (BW (szs AF.sz l) left)):=by
 refine XiF 0 (.sl false FK (l.map (AF.dd false))) func49 27 [.tmp 4] [] [] AN trivial ?_;intro hfit hp h M G H E
 have hF:=SZF.of AF.sz l
 exact DVr
instance lc (x:A9) (left:Int):Ct cx 271 [.d (J5 x),dI' left] (0≤left∧left≤1048576) (dI' (BW (x.sz) left)):=by
 refine XiF 0 (J5 x) func271 19 [.tmp 4] [] [] AN trivial ?_;intro hfit hp h M G H E
 have hsz:=x.sz_eq
 simp[DD.fit,DD.fits,BK,maxLen] at hfit
 exact DVz
instance jg (l:List A9) (left:Int):Ct cx 185 [.d (.sl false BC (l.map (A9.dd false))),dI' left] (0≤left∧left≤1048576) (dI' (BW (szs A9.sz l) left)):=by
 refine XiF 0 (.sl false BC (l.map (A9.dd false))) func185 27 [.tmp 4] [] [] AN trivial ?_;intro hfit hp h M G H E
 have hF:=SZF.of A9.sz l
 exact DVr
instance jf (x:AY) (left:Int):Ct cx 272 [.d (GX x),dI' left] (0≤left∧left≤1048576) (dI' (BW (x.sz) left)):=by
 refine XiF 0 (GX x) func272 25 [.tmp 4] [] [] AN trivial ?_;intro hfit hp h M G H E
 have hsz:=x.sz_eq
 simp[DD.fit,DD.fits,BK,maxLen] at hfit
 exact DVz
instance iM (l:List AY) (left:Int):Ct cx 186 [.d (.sl false DH (l.map (AY.dd false))),dI' left] (0≤left∧left≤1048576) (dI' (BW (szs AY.sz l) left)):=by
 refine XiF 0 (.sl false DH (l.map (AY.dd false))) func186 27 [.tmp 4] [] [] AN trivial ?_;intro hfit hp h M G H E
 have hF:=SZF.of AY.sz l
 exact DVr
instance dm (x:AJ) (left:Int):Ct cx 120 [.d (Eg x),dI' left] (0≤left∧left≤1048576) (dI' (BW (x.sz) left)):=by
 refine XiF 0 (Eg x) func120 43 [.tmp 4] [] [] AN trivial ?_;intro hfit hp h M G H E
 have hsz:=x.sz_eq
 simp[DD.fit,DD.fits,BK,maxLen] at hfit
 exact DVz
instance bp (l:List AJ) (left:Int):Ct cx 50 [.d (.sl false FJ (l.map (AJ.dd false))),dI' left] (0≤left∧left≤1048576) (dI' (BW (szs AJ.sz l) left)):=by
 refine XiF 0 (.sl false FJ (l.map (AJ.dd false))) func50 27 [.tmp 4] [] [] AN trivial ?_;intro hfit hp h M G H E
 have hF:=SZF.of AJ.sz l
 exact DVr
instance lb (x:AX) (left:Int):Ct cx 273 [.d (J4 x),dI' left] (0≤left∧left≤1048576) (dI' (BW (x.sz) left)):=by
 refine XiF 0 (J4 x) func273 19 [.tmp 4] [] [] AN trivial ?_;intro hfit hp h M G H E
 have hsz:=x.sz_eq
 simp[DD.fit,DD.fits,BK,maxLen] at hfit
 exact DVz
instance je (l:List AX) (left:Int):Ct cx 187 [.d (.sl false CZ (l.map (AX.dd false))),dI' left] (0≤left∧left≤1048576) (dI' (BW (szs AX.sz l) left)):=by
 refine XiF 0 (.sl false CZ (l.map (AX.dd false))) func187 27 [.tmp 4] [] [] AN trivial ?_;intro hfit hp h M G H E
 have hF:=SZF.of AX.sz l
 exact DVr
instance dp (x:AL) (left:Int):Ct cx 121 [.d (Eh x),dI' left] (0≤left∧left≤1048576) (dI' (BW (x.sz) left)):=by
 refine XiF 0 (Eh x) func121 43 [.tmp 4] [] [] AN trivial ?_;intro hfit hp h M G H E
 have hsz:=x.sz_eq
 simp[DD.fit,DD.fits,BK,maxLen] at hfit
 exact DVz
instance bq (l:List AL) (left:Int):Ct cx 51 [.d (.sl false FI (l.map (AL.dd false))),dI' left] (0≤left∧left≤1048576) (dI' (BW (szs AL.sz l) left)):=by
 refine XiF 0 (.sl false FI (l.map (AL.dd false))) func51 27 [.tmp 4] [] [] AN trivial ?_;intro hfit hp h M G H E
 have hF:=SZF.of AL.sz l
 exact DVr
instance iL (x:A8) (left:Int):Ct cx 23 [.d (FT x),dI' left] (0≤left∧left≤1048576) (dI' (BW (x.sz) left)):=by
 refine XiF 0 (FT x) func23 43 [.tmp 4] [] [] AN trivial ?_;intro hfit hp h M G H E
 have hsz:=x.sz_eq
 simp[DD.fit,DD.fits,BK,maxLen] at hfit
 exact DVz
instance dk (l:List A8) (left:Int):Ct cx 9 [.d (.sl false Dw (l.map (A8.dd false))),dI' left] (0≤left∧left≤1048576) (dI' (BW (szs A8.sz l) left)):=by
 refine XiF 0 (.sl false Dw (l.map (A8.dd false))) func9 27 [.tmp 4] [] [] AN trivial ?_;intro hfit hp h M G H E
 have hF:=SZF.of A8.sz l
 exact DVr
instance iK (x:A1) (left:Int):Ct cx 4 [.d (Ee x),dI' left] (0≤left∧left≤1048576) (dI' (BW (x.sz) left)):=by
 refine XiF 0 (Ee x) func4 12 [.tmp 4] [] [] AN trivial ?_;intro hfit hp h M G H E
 have hsz:=x.sz_eq
 exact DVz
instance iW (l:List BA'):Ct cx 113 [.d (.sl false .one (l.map dS)),.d (.sl false .one (l.map dS))] (True) (dB' true):=by
 refine Xi func113 26 [.tmp 4] [] [] AN trivial ?_;intro hp h M G H E
 exact DVe
theorem LE (n:Nat) (i0:∀(x:A0),Ct cx 263 [.d (De x),.d (De x)] (SizeOf.sizeOf x<n∧True) (dB' true)):∀(l:List A0),Ct cx 348 [.d (.sl false Ai (l.map (A0.dd false))),.d (.sl false Ai (l.map (A0.dd false)))] ((∀y∈l,SizeOf.sizeOf y<n)∧True) (dB' true):=fun l=>by
 refine Xi func348 27 [.tmp 4] [] [] AN trivial ?_;intro hp h M G H E
 have hq:∀k (h:k<l.length),SizeOf.sizeOf l[k]<n:=fun k h=>hp.1 _ (gm h);replace H:=AI hq H
 exact DVe
theorem Wa (n:Nat) (jType:∀(l:List A0),Ct cx 348 [.d (.sl false Ai (l.map (A0.dd false))),.d (.sl false Ai (l.map (A0.dd false)))] ((∀y∈l,SizeOf.sizeOf y<n)∧True) (dB' true)):∀(x:A0),Ct cx 263 [.d (De x),.d (De x)] (SizeOf.sizeOf x<n+1∧True) (dB' true):=fun x=>by
 refine Xi func263 21 [.tmp 4] [] [] AN trivial ?_;intro hp h M G H E
 have uArgs:∀y∈x.AB,SizeOf.sizeOf y<n:=fun y hy=>by have:=List.sizeOf_lt_of_mem hy;have:=x.lt_fArgs;omega
 replace H:=AI uArgs H
 exact DVe
theorem Jz:∀n:Nat,(∀(x:A0),Ct cx 263 [.d (De x),.d (De x)] (SizeOf.sizeOf x<n∧True) (dB' true))
 |0=>fun x=>⟨fk1 func263,fun hp=>absurd hp.1 (Nat.not_lt_zero _)⟩
 |n+1=>have ih:=Jz n;Wa n (LE n ih)
instance pQ (x:A0):Ct cx 263 [.d (De x),.d (De x)] (True) (dB' true):=⟨fk1 func263,fun hp h=>((Jz _) x).cs ⟨Nat.lt_succ_self _,hp⟩ h⟩
instance mB (l:List A0):Ct cx 348 [.d (.sl false Ai (l.map (A0.dd false))),.d (.sl false Ai (l.map (A0.dd false)))] (True) (dB' true):=⟨fk1 func348,fun hp h=>(LE (SizeOf.sizeOf l) (Jz _) l).cs ⟨fun y hy=>List.sizeOf_lt_of_mem hy,hp⟩ h⟩
theorem Wd (n:Nat) (i0:∀(x:Ac),Ct cx 404 [.d (HY x),.d (HY x)] (SizeOf.sizeOf x<n∧True) (dB' true)):∀(l:List Ac),Ct cx 353 [.d (.sl false BL (l.map (Ac.dd false))),.d (.sl false BL (l.map (Ac.dd false)))] ((∀y∈l,SizeOf.sizeOf y<n)∧True) (dB' true):=fun l=>by
 refine Xi func353 27 [.tmp 4] [] [] AN trivial ?_;intro hp h M G H E
 have hq:∀k (h:k<l.length),SizeOf.sizeOf l[k]<n:=fun k h=>hp.1 _ (gm h);replace H:=AI hq H
 exact DVe
theorem TO (n:Nat) (i0:∀(x:AG),Ct cx 267 [.d (Cm x),.d (Cm x)] (SizeOf.sizeOf x<n∧True) (dB' true)):∀(l:List AG),Ct cx 352 [.d (.sl false Be (l.map (AG.dd false))),.d (.sl false Be (l.map (AG.dd false)))] ((∀y∈l,SizeOf.sizeOf y<n)∧True) (dB' true):=fun l=>by
 refine Xi func352 27 [.tmp 4] [] [] AN trivial ?_;intro hp h M G H E
 have hq:∀k (h:k<l.length),SizeOf.sizeOf l[k]<n:=fun k h=>hp.1 _ (gm h);replace H:=AI hq H
 exact DVe
theorem aP (n:Nat) (iExpr:∀(x:AG),Ct cx 267 [.d (Cm x),.d (Cm x)] (SizeOf.sizeOf x<n∧True) (dB' true)):∀(x:Ac),Ct cx 404 [.d (HY x),.d (HY x)] (SizeOf.sizeOf x<n+1∧True) (dB' true):=fun x=>by
 refine Xi func404 22 [.tmp 4] [] [] AN trivial ?_;intro hp h M G H E
 have uBody:SizeOf.sizeOf x.Ab<n:=by have:=x.lt_fBody;omega
 replace H:=AI uBody H
 exact DVe
theorem Wb (n:Nat) (jExpr:∀(l:List AG),Ct cx 352 [.d (.sl false Be (l.map (AG.dd false))),.d (.sl false Be (l.map (AG.dd false)))] ((∀y∈l,SizeOf.sizeOf y<n)∧True) (dB' true)) (jArm:∀(l:List Ac),Ct cx 353 [.d (.sl false BL (l.map (Ac.dd false))),.d (.sl false BL (l.map (Ac.dd false)))] ((∀y∈l,SizeOf.sizeOf y<n)∧True) (dB' true)):∀(x:AG),Ct cx 267 [.d (Cm x),.d (Cm x)] (SizeOf.sizeOf x<n+1∧True) (dB' true):=fun x=>by
 refine Xi func267 43 [.tmp 4] [] [] AN trivial ?_;intro hp h M G H E
 have uArgs:∀y∈x.AB,SizeOf.sizeOf y<n:=fun y hy=>by have:=List.sizeOf_lt_of_mem hy;have:=x.lt_fArgs;omega
 replace H:=AI uArgs H
 have uArms:∀y∈x.Af,SizeOf.sizeOf y<n:=fun y hy=>by have:=List.sizeOf_lt_of_mem hy;have:=x.lt_fArms;omega
 replace H:=AI uArms H
 exact DVe
theorem OE:∀n:Nat,(∀(x:Ac),Ct cx 404 [.d (HY x),.d (HY x)] (SizeOf.sizeOf x<n∧True) (dB' true))∧(∀(x:AG),Ct cx 267 [.d (Cm x),.d (Cm x)] (SizeOf.sizeOf x<n∧True) (dB' true))
 |0=>⟨fun x=>⟨fk1 func404,fun hp=>absurd hp.1 (Nat.not_lt_zero _)⟩,fun x=>⟨fk1 func267,fun hp=>absurd hp.1 (Nat.not_lt_zero _)⟩⟩
 |n+1=>have ih:=OE n;⟨aP n ih.2,Wb n (TO n ih.2) (Wd n ih.1)⟩
instance pR (x:AG):Ct cx 267 [.d (Cm x),.d (Cm x)] (True) (dB' true):=⟨fk1 func267,fun hp h=>((OE _).2 x).cs ⟨Nat.lt_succ_self _,hp⟩ h⟩
instance cZ (x:AC):Ct cx 346 [.d (E5 x),.d (E5 x)] (True) (dB' true):=by
 refine Xi func346 39 [.tmp 4] [] [] AN trivial ?_;intro hp h M G H E
 exact DVe
instance aO (l:List AC):Ct cx 261 [.d (.sl false CL (l.map (AC.dd false))),.d (.sl false CL (l.map (AC.dd false)))] (True) (dB' true):=by
 refine Xi func261 27 [.tmp 4] [] [] AN trivial ?_;intro hp h M G H E
 exact DVe
instance mC (x:AU):Ct cx 178 [.d (J3 x),.d (J3 x)] (True) (dB' true):=by
 refine Xi func178 32 [.tmp 4] [] [] AN trivial ?_;intro hp h M G H E
 exact DVe
instance l0 (l:List AU):Ct cx 114 [.d (.sl false FL (l.map (AU.dd false))),.d (.sl false FL (l.map (AU.dd false)))] (True) (dB' true):=by
 refine Xi func114 27 [.tmp 4] [] [] AN trivial ?_;intro hp h M G H E
 exact DVe
instance Y2 (x:AA):Ct cx 347 [.d (DB x),.d (DB x)] (True) (dB' true):=by
 refine Xi func347 16 [.tmp 4] [] [] AN trivial ?_;intro hp h M G H E
 exact DVe
instance Wc (l:List AA):Ct cx 262 [.d (.sl false DR (l.map (AA.dd false))),.d (.sl false DR (l.map (AA.dd false)))] (True) (dB' true):=by
 refine Xi func262 27 [.tmp 4] [] [] AN trivial ?_;intro hp h M G H E
 exact DVe
instance gJ (x:AF):Ct cx 179 [.d (Ei x),.d (Ei x)] (True) (dB' true):=by
 refine Xi func179 22 [.tmp 4] [] [] AN trivial ?_;intro hp h M G H E
 exact DVe
instance cc (l:List AF):Ct cx 115 [.d (.sl false FK (l.map (AF.dd false))),.d (.sl false FK (l.map (AF.dd false)))] (True) (dB' true):=by
 refine Xi func115 27 [.tmp 4] [] [] AN trivial ?_;intro hp h M G H E
 exact DVe
instance mE (x:A9):Ct cx 349 [.d (J5 x),.d (J5 x)] (True) (dB' true):=by
 refine Xi func349 16 [.tmp 4] [] [] AN trivial ?_;intro hp h M G H E
 exact DVe
instance l6 (l:List A9):Ct cx 264 [.d (.sl false BC (l.map (A9.dd false))),.d (.sl false BC (l.map (A9.dd false)))] (True) (dB' true):=by
 refine Xi func264 27 [.tmp 4] [] [] AN trivial ?_;intro hp h M G H E
 exact DVe
instance l5 (x:AY):Ct cx 350 [.d (GX x),.d (GX x)] (True) (dB' true):=by
 refine Xi func350 22 [.tmp 4] [] [] AN trivial ?_;intro hp h M G H E
 exact DVe
instance iZ (l:List AY):Ct cx 265 [.d (.sl false DH (l.map (AY.dd false))),.d (.sl false DH (l.map (AY.dd false)))] (True) (dB' true):=by
 refine Xi func265 27 [.tmp 4] [] [] AN trivial ?_;intro hp h M G H E
 exact DVe
instance gH (x:AJ):Ct cx 180 [.d (Eg x),.d (Eg x)] (True) (dB' true):=by
 refine Xi func180 50 [.tmp 4] [] [] AN trivial ?_;intro hp h M G H E
 exact DVe
instance ca (l:List AJ):Ct cx 116 [.d (.sl false FJ (l.map (AJ.dd false))),.d (.sl false FJ (l.map (AJ.dd false)))] (True) (dB' true):=by
 refine Xi func116 27 [.tmp 4] [] [] AN trivial ?_;intro hp h M G H E
 exact DVe
instance mD (x:AX):Ct cx 351 [.d (J4 x),.d (J4 x)] (True) (dB' true):=by
 refine Xi func351 16 [.tmp 4] [] [] AN trivial ?_;intro hp h M G H E
 exact DVe
instance l4 (l:List AX):Ct cx 266 [.d (.sl false CZ (l.map (AX.dd false))),.d (.sl false CZ (l.map (AX.dd false)))] (True) (dB' true):=by
 refine Xi func266 27 [.tmp 4] [] [] AN trivial ?_;intro hp h M G H E
 exact DVe
instance gI (x:AL):Ct cx 181 [.d (Eh x),.d (Eh x)] (True) (dB' true):=by
 refine Xi func181 40 [.tmp 4] [] [] AN trivial ?_;intro hp h M G H E
 exact DVe
instance cb (l:List AL):Ct cx 117 [.d (.sl false FI (l.map (AL.dd false))),.d (.sl false FI (l.map (AL.dd false)))] (True) (dB' true):=by
 refine Xi func117 27 [.tmp 4] [] [] AN trivial ?_;intro hp h M G H E
 exact DVe
instance iY (x:A8):Ct cx 46 [.d (FT x),.d (FT x)] (True) (dB' true):=by
 refine Xi func46 40 [.tmp 4] [] [] AN trivial ?_;intro hp h M G H E
 exact DVe
instance gG (l:List A8):Ct cx 22 [.d (.sl false Dw (l.map (A8.dd false))),.d (.sl false Dw (l.map (A8.dd false)))] (True) (dB' true):=by
 refine Xi func22 27 [.tmp 4] [] [] AN trivial ?_;intro hp h M G H E
 exact DVe
instance iX (x:A1):Ct cx 8 [.d (Ee x),.d (Ee x)] (True) (dB' true):=by
 refine Xi func8 11 [.tmp 4] [] [] AN trivial ?_;intro hp h M G H E
 exact DVe
instance (priority:=2000) sPth2 (w:A1) (s to:BA'):Ct cx 302 [.d (Au w),dS' s,dS' to] (True) (.tp [.d (.sl true .one ((((pth w to 8 s).getD [])).map (dN))),dB' ((pth w to 8 s).isSome)]):=by
 refine Xi func302 14 [.tmp 6,.tmp 7] [12] [] AN trivial ?_;intro hp h M G H E
 all_goals exact GA2
instance sAsm (w:A1) (l:List A9):Ct cx 211 [.d (Au w),.d (.sl false BC ((l).map (A9.dd false)))] (w.sz≤134217728∧l.length≤4∧(∀b∈l,b.AM.wd)) (.d (.sl true Bf (((asm w l)).map (AD.dd true)))):=by
 refine Xi func211 80 [.tmp 4] [18,48,60,62,75,79] [] AN (AI @KC<|@Cv) ?_;intro hp h M G H E
 have hzw:=hp.1;have hll:=hp.2.1;have hwt:=fun k (h:k<l.length)=>hp.2.2 _ (gm h);have ho1:=ct;have ho2:=cr;have ho3:=cq;replace H:=AI hzw (AI hwt (AI ho1 (AI ho2 (AI ho3 H))))
 repeat' (first|(refine iWL ?_;refine Cs M ?_)|(refine iDL ?_;refine CE M ?_)|(refine IN.mk ?_;intros)|(refine iTw ?_;refine T2 ?_ ?_<;>((try clear H);intro hb H)<;>try exact hb.elim)|(refine LF.mk ?_;exact LX)|refine GN ?_|(refine XL [1,2] [2] (fun k0 _=>[(6,dI' k0),(5,.d (.sl true Bf (((asK w l k0)).map (AD.dd true))))]) (fun _ _=>[]) (l.length) (fun _ _=>True) rU ?_;intro k0 hk0 s0 hi0;have hal:=Iw w l k0 hk0;have ham:k0*(1+w.sz)≤4*(1+w.sz):=Nat.mul_le_mul_right _ (by omega);have hae:l.length≤k0→asK w l k0=asm w l:=fun h=>MY h;have han:∀h:k0<l.length,asK w l (k0+1)=(asK w l k0++[⟨l[k0],(k0:Int),[]⟩])++(Ce w l[k0].AK).map (asO w l[k0] k0):=fun h=>PZ h)|(refine XL [1,2,6,7] [2] (fun k1 _=>[(8,dI' k1),(5,.d (.sl true Bf ((((asK w l k0++[(⟨l[k0],(k0:Int),[]⟩:AD)])++mp (asO w l[k0] k0) (Ce w l[k0].AK) k1)).map (AD.dd true))))]) (fun _ _=>[]) ((Ce w l[k0].AK).length) (fun _ _=>True) rU ?_;intro k1 hk1 s1 hi1;have hsl:=Ex w l[k0].AK;have hml:=Bh (asO w l[k0] k0) hk1;have hme:(Ce w l[k0].AK).length≤k1→mp (asO w l[k0] k0) (Ce w l[k0].AK) k1=(Ce w l[k0].AK).map (asO w l[k0] k0):=fun h=>Bb h;have hmn:∀h:k1<(Ce w l[k0].AK).length,mp (asO w l[k0] k0) (Ce w l[k0].AK) (k1+1)=mp (asO w l[k0] k0) (Ce w l[k0].AK) k1++[⟨⟨(Ce w l[k0].AK)[k1],l[k0].AM⟩,(k0:Int),((pth w (Ce w l[k0].AK)[k1] 8 l[k0].AK).getD []).map fun (n:Nat)=>(n:Int)⟩]:=fun h=>Es h)|fail)
