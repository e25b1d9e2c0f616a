/- Part 40. No condition. -/
import Derived.Test.YtdooklofebdknaaGreatM24
import Derived.Test.YtdooklofebdknaaGreatM29
namespace Go.Proofs.YtdooklofebdknaaGreat
open Go.RowKit Tryz
set_option maxRecDepth 10000
set_option linter.unusedSimpArgs false
set_option linter.unusedVariables false
set_option maxHeartbeats 4000000
abbrev Dc (x:A0):DD:=.st [.lf (.int .i64 (x.AH)),.lf (.string (x.A6)),.sl false Ag ((x.AB).map (A0.dd false))]
abbrev HS (x:Ab):DD:=.st [.lf (.string (x.AY)),.sl false .one ((x.AZ).map (dS)),.st [.lf (.int .i64 (x.Aa.AH)),.lf (.string (x.Aa.AK)),.lf (.string (x.Aa.A6)),.lf (.int .i64 (x.Aa.fN)),.st [.lf (.int .i64 (x.Aa.AM.AH)),.lf (.string (x.Aa.AM.A6)),.sl false Ag ((x.Aa.AM.AB).map (A0.dd false))],.sl false Be ((x.Aa.AB).map (AG.dd false)),.sl false BJ ((x.Aa.Ad).map (Ab.dd false))]]
abbrev Cl (x:AG):DD:=.st [.lf (.int .i64 (x.AH)),.lf (.string (x.AK)),.lf (.string (x.A6)),.lf (.int .i64 (x.fN)),.st [.lf (.int .i64 (x.AM.AH)),.lf (.string (x.AM.A6)),.sl false Ag ((x.AM.AB).map (A0.dd false))],.sl false Be ((x.AB).map (AG.dd false)),.sl false BJ ((x.Ad).map (Ab.dd false))]
abbrev E3 (x:AC):DD:=.st [.lf (.string (x.A6)),.sl false Ag ((x.Al).map (A0.dd false)),.st [.lf (.int .i64 (x.B8.AH)),.lf (.string (x.B8.A6)),.sl false Ag ((x.B8.AB).map (A0.dd false))],.lf (.bool (x.BR)),.sl false .one ((x.AZ).map (dS)),.st [.lf (.int .i64 (x.Aa.AH)),.lf (.string (x.Aa.AK)),.lf (.string (x.Aa.A6)),.lf (.int .i64 (x.Aa.fN)),.st [.lf (.int .i64 (x.Aa.AM.AH)),.lf (.string (x.Aa.AM.A6)),.sl false Ag ((x.Aa.AM.AB).map (A0.dd false))],.sl false Be ((x.Aa.AB).map (AG.dd false)),.sl false BJ ((x.Aa.Ad).map (Ab.dd false))]]
abbrev In (x:AS):DD:=.st [.lf (.string (x.A6)),.sl false .one ((x.Ao).map (dS)),.lf (.bool (x.CP)),.lf (.bool (x.B3)),.sl false CM ((x.AU).map (AC.dd false))]
abbrev DA (x:AA):DD:=.st [.lf (.string (x.A6)),.sl false Ag ((x.At).map (A0.dd false))]
abbrev Eg (x:AF):DD:=.st [.lf (.string (x.A6)),.sl false .one ((x.AZ).map (dS)),.sl false DQ ((x.A4).map (AA.dd false))]
abbrev Ip (x:A9):DD:=.st [.lf (.string (x.AK)),.st [.lf (.int .i64 (x.AM.AH)),.lf (.string (x.AM.A6)),.sl false Ag ((x.AM.AB).map (A0.dd false))]]
abbrev GQ (x:AX):DD:=.st [.lf (.string (x.A6)),.sl false .one ((x.AZ).map (dS)),.st [.lf (.int .i64 (x.Aa.AH)),.lf (.string (x.Aa.AK)),.lf (.string (x.Aa.A6)),.lf (.int .i64 (x.Aa.fN)),.st [.lf (.int .i64 (x.Aa.AM.AH)),.lf (.string (x.Aa.AM.A6)),.sl false Ag ((x.Aa.AM.AB).map (A0.dd false))],.sl false Be ((x.Aa.AB).map (AG.dd false)),.sl false BJ ((x.Aa.Ad).map (Ab.dd false))]]
abbrev Ed (x:AJ):DD:=.st [.lf (.string (x.AK)),.sl false .one ((x.AZ).map (dS)),.st [.lf (.int .i64 (x.Ar.AH)),.lf (.string (x.Ar.A6)),.sl false Ag ((x.Ar.AB).map (A0.dd false))],.sl false BA ((x.Af).map (A9.dd false)),.lf (.bool (x.CY)),.lf (.bool (x.BS)),.st [.lf (.int .i64 (x.B3.AH)),.lf (.string (x.B3.A6)),.sl false Ag ((x.B3.AB).map (A0.dd false))],.sl false DG ((x.Ap).map (AX.dd false))]
abbrev Io (x:AW):DD:=.st [.lf (.string (x.A6)),.st [.lf (.int .i64 (x.AM.AH)),.lf (.string (x.AM.A6)),.sl false Ag ((x.AM.AB).map (A0.dd false))]]
abbrev Ee (x:AL):DD:=.st [.lf (.string (x.A6)),.sl false .one ((x.AZ).map (dS)),.sl false BA ((x.Af).map (A9.dd false)),.sl false CX ((x.Al).map (AW.dd false)),.st [.lf (.int .i64 (x.B8.AH)),.lf (.string (x.B8.A6)),.sl false Ag ((x.B8.AB).map (A0.dd false))],.st [.lf (.int .i64 (x.Aa.AH)),.lf (.string (x.Aa.AK)),.lf (.string (x.Aa.A6)),.lf (.int .i64 (x.Aa.fN)),.st [.lf (.int .i64 (x.Aa.AM.AH)),.lf (.string (x.Aa.AM.A6)),.sl false Ag ((x.Aa.AM.AB).map (A0.dd false))],.sl false Be ((x.Aa.AB).map (AG.dd false)),.sl false BJ ((x.Aa.Ad).map (Ab.dd false))]]
abbrev FQ (x:A8):DD:=.st [.lf (.string (x.A6)),.sl false .one ((x.BZ).map (dS)),.sl false FJ ((x.Ai).map (AS.dd false)),.sl false FI ((x.AE).map (AF.dd false)),.sl false FH ((x.AO).map (AJ.dd false)),.sl false FG ((x.Ac).map (AL.dd false))]
abbrev Ec (x:A1):DD:=.st [.sl false Dt ((x.A2).map (A8.dd false))]
instance fZ (l:List ByteArray) (left:Int):Ct cx 85 [.d (.sl false .one (l.map dS)),.d (.lf (.int .i64 (left)))] (0≤left∧left≤1048576) (.d (.lf (.int .i64 (BV (szs ByteArray.size l) left)))):=by
 refine XiF 0 (.sl false .one (l.map dS)) func85 28 [.tmp 4] [] [] AN trivial ?_;intro hfit hp h M G H E
 have hF:=SZF.of ByteArray.size l
 have hfs:∀k (h:k<l.length),(l[k]).size≤maxLen:=fun k h=>by have:=Na hfit.2 _ (gm h);simpa[DD.fit,BL] using this
 unfold maxLen at hfs
 replace H:=AI (Int.sub_sub left) H
 exact DVr
theorem KU (n:Nat) (i0:∀(x:A0) (left:Int),Ct cx 223 [.d (Dc x),.d (.lf (.int .i64 (left)))] (SizeOf.sizeOf x<n∧0≤left∧left≤1048576) (.d (.lf (.int .i64 (BV (x.sz) left))))):∀(l:List A0) (left:Int),Ct cx 299 [.d (.sl false Ag (l.map (A0.dd false))),.d (.lf (.int .i64 (left)))] ((∀y∈l,SizeOf.sizeOf y<n)∧0≤left∧left≤1048576) (.d (.lf (.int .i64 (BV (szs A0.sz l) left)))):=fun l left=>by
 refine XiF 0 (.sl false Ag (l.map (A0.dd false))) func299 27 [.tmp 4] [] [] AN trivial ?_;intro hfit hp h M G H E
 have hq:∀k (h:k<l.length),SizeOf.sizeOf l[k]<n:=fun k h=>hp.1 _ (gm h);replace H:=AI hq H;have hp2:=hp.2
 have hF:=SZF.of A0.sz l
 exact DVr
theorem Tw (n:Nat) (jType:∀(l:List A0) (left:Int),Ct cx 299 [.d (.sl false Ag (l.map (A0.dd false))),.d (.lf (.int .i64 (left)))] ((∀y∈l,SizeOf.sizeOf y<n)∧0≤left∧left≤1048576) (.d (.lf (.int .i64 (BV (szs A0.sz l) left))))):∀(x:A0) (left:Int),Ct cx 223 [.d (Dc x),.d (.lf (.int .i64 (left)))] (SizeOf.sizeOf x<n+1∧0≤left∧left≤1048576) (.d (.lf (.int .i64 (BV (x.sz) left)))):=fun x left=>by
 refine XiF 0 (Dc x) func223 19 [.tmp 4] [] [] AN trivial ?_;intro hfit hp h M G H E
 have hp2:=hp.2
 have uArgs:∀y∈x.AB,SizeOf.sizeOf y<n:=fun y hy=>by have:=List.sizeOf_lt_of_mem hy;have:=x.lt_fArgs;omega
 replace H:=AI uArgs H
 have hsz:=x.sz_eq
 simp[DD.fit,DD.fits,BL,maxLen] at hfit
 exact DVz
theorem Ix:∀n:Nat,(∀(x:A0) (left:Int),Ct cx 223 [.d (Dc x),.d (.lf (.int .i64 (left)))] (SizeOf.sizeOf x<n∧0≤left∧left≤1048576) (.d (.lf (.int .i64 (BV (x.sz) left)))))
 |0=>fun x left=>⟨fk1 func223,fun hp=>absurd hp.1 (Nat.not_lt_zero _)⟩
 |n+1=>have ih:=Ix n;Tw n (KU n ih)
instance lJ (x:A0) (left:Int):Ct cx 223 [.d (Dc x),.d (.lf (.int .i64 (left)))] (0≤left∧left≤1048576) (.d (.lf (.int .i64 (BV (x.sz) left)))):=⟨fk1 func223,fun hp h=>((Ix _) x left).cs ⟨Nat.lt_succ_self _,hp⟩ h⟩
instance jp (l:List A0) (left:Int):Ct cx 299 [.d (.sl false Ag (l.map (A0.dd false))),.d (.lf (.int .i64 (left)))] (0≤left∧left≤1048576) (.d (.lf (.int .i64 (BV (szs A0.sz l) left)))):=⟨fk1 func299,fun hp h=>(KU (SizeOf.sizeOf l) (Ix _) l left).cs ⟨fun y hy=>List.sizeOf_lt_of_mem hy,hp⟩ h⟩
theorem U1 (n:Nat) (i0:∀(x:Ab) (left:Int),Ct cx 367 [.d (HS x),.d (.lf (.int .i64 (left)))] (SizeOf.sizeOf x<n∧0≤left∧left≤1048576) (.d (.lf (.int .i64 (BV (x.sz) left))))):∀(l:List Ab) (left:Int),Ct cx 304 [.d (.sl false BJ (l.map (Ab.dd false))),.d (.lf (.int .i64 (left)))] ((∀y∈l,SizeOf.sizeOf y<n)∧0≤left∧left≤1048576) (.d (.lf (.int .i64 (BV (szs Ab.sz l) left)))):=fun l left=>by
 refine XiF 0 (.sl false BJ (l.map (Ab.dd false))) func304 27 [.tmp 4] [] [] AN trivial ?_;intro hfit hp h M G H E
 have hq:∀k (h:k<l.length),SizeOf.sizeOf l[k]<n:=fun k h=>hp.1 _ (gm h);replace H:=AI hq H;have hp2:=hp.2
 have hF:=SZF.of Ab.sz l
 exact DVr
theorem Rq (n:Nat) (i0:∀(x:AG) (left:Int),Ct cx 227 [.d (Cl x),.d (.lf (.int .i64 (left)))] (SizeOf.sizeOf x<n∧0≤left∧left≤1048576) (.d (.lf (.int .i64 (BV (x.sz) left))))):∀(l:List AG) (left:Int),Ct cx 303 [.d (.sl false Be (l.map (AG.dd false))),.d (.lf (.int .i64 (left)))] ((∀y∈l,SizeOf.sizeOf y<n)∧0≤left∧left≤1048576) (.d (.lf (.int .i64 (BV (szs AG.sz l) left)))):=fun l left=>by
 refine XiF 0 (.sl false Be (l.map (AG.dd false))) func303 27 [.tmp 4] [] [] AN trivial ?_;intro hfit hp h M G H E
 have hq:∀k (h:k<l.length),SizeOf.sizeOf l[k]<n:=fun k h=>hp.1 _ (gm h);replace H:=AI hq H;have hp2:=hp.2
 have hF:=SZF.of AG.sz l
 exact DVr
theorem XU (n:Nat) (iExpr:∀(x:AG) (left:Int),Ct cx 227 [.d (Cl x),.d (.lf (.int .i64 (left)))] (SizeOf.sizeOf x<n∧0≤left∧left≤1048576) (.d (.lf (.int .i64 (BV (x.sz) left))))):∀(x:Ab) (left:Int),Ct cx 367 [.d (HS x),.d (.lf (.int .i64 (left)))] (SizeOf.sizeOf x<n+1∧0≤left∧left≤1048576) (.d (.lf (.int .i64 (BV (x.sz) left)))):=fun x left=>by
 refine XiF 0 (HS x) func367 25 [.tmp 4] [] [] AN trivial ?_;intro hfit hp h M G H E
 have hp2:=hp.2
 have uBody:SizeOf.sizeOf x.Aa<n:=by have:=x.lt_fBody;omega
 replace H:=AI uBody H
 have hsz:=x.sz_eq
 simp[DD.fit,DD.fits,BL,maxLen] at hfit
 exact DVz
theorem Tz (n:Nat) (jExpr:∀(l:List AG) (left:Int),Ct cx 303 [.d (.sl false Be (l.map (AG.dd false))),.d (.lf (.int .i64 (left)))] ((∀y∈l,SizeOf.sizeOf y<n)∧0≤left∧left≤1048576) (.d (.lf (.int .i64 (BV (szs AG.sz l) left))))) (jArm:∀(l:List Ab) (left:Int),Ct cx 304 [.d (.sl false BJ (l.map (Ab.dd false))),.d (.lf (.int .i64 (left)))] ((∀y∈l,SizeOf.sizeOf y<n)∧0≤left∧left≤1048576) (.d (.lf (.int .i64 (BV (szs Ab.sz l) left))))):∀(x:AG) (left:Int),Ct cx 227 [.d (Cl x),.d (.lf (.int .i64 (left)))] (SizeOf.sizeOf x<n+1∧0≤left∧left≤1048576) (.d (.lf (.int .i64 (BV (x.sz) left)))):=fun x left=>by
 refine XiF 0 (Cl x) func227 38 [.tmp 4] [] [] AN trivial ?_;intro hfit hp h M G H E
 have hp2:=hp.2
 have uArgs:∀y∈x.AB,SizeOf.sizeOf y<n:=fun y hy=>by have:=List.sizeOf_lt_of_mem hy;have:=x.lt_fArgs;omega
 replace H:=AI uArgs H
 have uArms:∀y∈x.Ad,SizeOf.sizeOf y<n:=fun y hy=>by have:=List.sizeOf_lt_of_mem hy;have:=x.lt_fArms;omega
 replace H:=AI uArms H
 have hsz:=x.sz_eq
 simp[DD.fit,DD.fits,BL,maxLen] at hfit
 exact DVz
theorem Mm:∀n:Nat,(∀(x:Ab) (left:Int),Ct cx 367 [.d (HS x),.d (.lf (.int .i64 (left)))] (SizeOf.sizeOf x<n∧0≤left∧left≤1048576) (.d (.lf (.int .i64 (BV (x.sz) left)))))∧(∀(x:AG) (left:Int),Ct cx 227 [.d (Cl x),.d (.lf (.int .i64 (left)))] (SizeOf.sizeOf x<n∧0≤left∧left≤1048576) (.d (.lf (.int .i64 (BV (x.sz) left)))))
 |0=>⟨fun x left=>⟨fk1 func367,fun hp=>absurd hp.1 (Nat.not_lt_zero _)⟩,fun x left=>⟨fk1 func227,fun hp=>absurd hp.1 (Nat.not_lt_zero _)⟩⟩
 |n+1=>have ih:=Mm n;⟨XU n ih.2,Tz n (Rq n ih.2) (U1 n ih.1)⟩
instance lK (x:AG) (left:Int):Ct cx 227 [.d (Cl x),.d (.lf (.int .i64 (left)))] (0≤left∧left≤1048576) (.d (.lf (.int .i64 (BV (x.sz) left)))):=⟨fk1 func227,fun hp h=>((Mm _).2 x left).cs ⟨Nat.lt_succ_self _,hp⟩ h⟩
instance aS (x:AC) (left:Int):Ct cx 297 [.d (E3 x),.d (.lf (.int .i64 (left)))] (0≤left∧left≤1048576) (.d (.lf (.int .i64 (BV (x.sz) left)))):=by
 refine XiF 0 (E3 x) func297 37 [.tmp 4] [] [] AN trivial ?_;intro hfit hp h M G H E
 have hsz:=x.sz_eq
 simp[DD.fit,DD.fits,BL,maxLen] at hfit
 exact DVz
instance XS (l:List AC) (left:Int):Ct cx 221 [.d (.sl false CM (l.map (AC.dd false))),.d (.lf (.int .i64 (left)))] (0≤left∧left≤1048576) (.d (.lf (.int .i64 (BV (szs AC.sz l) left)))):=by
 refine XiF 0 (.sl false CM (l.map (AC.dd false))) func221 27 [.tmp 4] [] [] AN trivial ?_;intro hfit hp h M G H E
 have hF:=SZF.of AC.sz l
 exact DVr
instance jq (x:AS) (left:Int):Ct cx 154 [.d (In x),.d (.lf (.int .i64 (left)))] (0≤left∧left≤1048576) (.d (.lf (.int .i64 (BV (x.sz) left)))):=by
 refine XiF 0 (In x) func154 25 [.tmp 4] [] [] AN trivial ?_;intro hfit hp h M G H E
 have hsz:=x.sz_eq
 simp[DD.fit,DD.fits,BL,maxLen] at hfit
 exact DVz
instance i9 (l:List AS) (left:Int):Ct cx 86 [.d (.sl false FJ (l.map (AS.dd false))),.d (.lf (.int .i64 (left)))] (0≤left∧left≤1048576) (.d (.lf (.int .i64 (BV (szs AS.sz l) left)))):=by
 refine XiF 0 (.sl false FJ (l.map (AS.dd false))) func86 27 [.tmp 4] [] [] AN trivial ?_;intro hfit hp h M G H E
 have hF:=SZF.of AS.sz l
 exact DVr
instance Wt (x:AA) (left:Int):Ct cx 298 [.d (DA x),.d (.lf (.int .i64 (left)))] (0≤left∧left≤1048576) (.d (.lf (.int .i64 (BV (x.sz) left)))):=by
 refine XiF 0 (DA x) func298 19 [.tmp 4] [] [] AN trivial ?_;intro hfit hp h M G H E
 have hsz:=x.sz_eq
 simp[DD.fit,DD.fits,BL,maxLen] at hfit
 exact DVz
instance U0 (l:List AA) (left:Int):Ct cx 222 [.d (.sl false DQ (l.map (AA.dd false))),.d (.lf (.int .i64 (left)))] (0≤left∧left≤1048576) (.d (.lf (.int .i64 (BV (szs AA.sz l) left)))):=by
 refine XiF 0 (.sl false DQ (l.map (AA.dd false))) func222 27 [.tmp 4] [] [] AN trivial ?_;intro hfit hp h M G H E
 have hF:=SZF.of AA.sz l
 exact DVr
instance cM (x:AF) (left:Int):Ct cx 155 [.d (Eg x),.d (.lf (.int .i64 (left)))] (0≤left∧left≤1048576) (.d (.lf (.int .i64 (BV (x.sz) left)))):=by
 refine XiF 0 (Eg x) func155 25 [.tmp 4] [] [] AN trivial ?_;intro hfit hp h M G H E
 have hsz:=x.sz_eq
 simp[DD.fit,DD.fits,BL,maxLen] at hfit
 exact DVz
instance aV (l:List AF) (left:Int):Ct cx 87 [.d (.sl false FI (l.map (AF.dd false))),.d (.lf (.int .i64 (left)))] (0≤left∧left≤1048576) (.d (.lf (.int .i64 (BV (szs AF.sz l) left)))):=by
 refine XiF 0 (.sl false FI (l.map (AF.dd false))) func87 27 [.tmp 4] [] [] AN trivial ?_;intro hfit hp h M G H E
 have hF:=SZF.of AF.sz l
 exact DVr
instance js (x:A9) (left:Int):Ct cx 300 [.d (Ip x),.d (.lf (.int .i64 (left)))] (0≤left∧left≤1048576) (.d (.lf (.int .i64 (BV (x.sz) left)))):=by
 refine XiF 0 (Ip x) func300 19 [.tmp 4] [] [] AN trivial ?_;intro hfit hp h M G H E
 have hsz:=x.sz_eq
 simp[DD.fit,DD.fits,BL,maxLen] at hfit
 exact DVz
instance iG (l:List A9) (left:Int):Ct cx 224 [.d (.sl false BA (l.map (A9.dd false))),.d (.lf (.int .i64 (left)))] (0≤left∧left≤1048576) (.d (.lf (.int .i64 (BV (szs A9.sz l) left)))):=by
 refine XiF 0 (.sl false BA (l.map (A9.dd false))) func224 27 [.tmp 4] [] [] AN trivial ?_;intro hfit hp h M G H E
 have hF:=SZF.of A9.sz l
 exact DVr
instance iB (x:AX) (left:Int):Ct cx 301 [.d (GQ x),.d (.lf (.int .i64 (left)))] (0≤left∧left≤1048576) (.d (.lf (.int .i64 (BV (x.sz) left)))):=by
 refine XiF 0 (GQ x) func301 25 [.tmp 4] [] [] AN trivial ?_;intro hfit hp h M G H E
 have hsz:=x.sz_eq
 simp[DD.fit,DD.fits,BL,maxLen] at hfit
 exact DVz
instance fe (l:List AX) (left:Int):Ct cx 225 [.d (.sl false DG (l.map (AX.dd false))),.d (.lf (.int .i64 (left)))] (0≤left∧left≤1048576) (.d (.lf (.int .i64 (BV (szs AX.sz l) left)))):=by
 refine XiF 0 (.sl false DG (l.map (AX.dd false))) func225 27 [.tmp 4] [] [] AN trivial ?_;intro hfit hp h M G H E
 have hF:=SZF.of AX.sz l
 exact DVr
instance cK (x:AJ) (left:Int):Ct cx 156 [.d (Ed x),.d (.lf (.int .i64 (left)))] (0≤left∧left≤1048576) (.d (.lf (.int .i64 (BV (x.sz) left)))):=by
 refine XiF 0 (Ed x) func156 43 [.tmp 4] [] [] AN trivial ?_;intro hfit hp h M G H E
 have hsz:=x.sz_eq
 simp[DD.fit,DD.fits,BL,maxLen] at hfit
 exact DVz
instance aT (l:List AJ) (left:Int):Ct cx 88 [.d (.sl false FH (l.map (AJ.dd false))),.d (.lf (.int .i64 (left)))] (0≤left∧left≤1048576) (.d (.lf (.int .i64 (BV (szs AJ.sz l) left)))):=by
 refine XiF 0 (.sl false FH (l.map (AJ.dd false))) func88 27 [.tmp 4] [] [] AN trivial ?_;intro hfit hp h M G H E
 have hF:=SZF.of AJ.sz l
 exact DVr
instance jr (x:AW) (left:Int):Ct cx 302 [.d (Io x),.d (.lf (.int .i64 (left)))] (0≤left∧left≤1048576) (.d (.lf (.int .i64 (BV (x.sz) left)))):=by
 refine XiF 0 (Io x) func302 19 [.tmp 4] [] [] AN trivial ?_;intro hfit hp h M G H E
 have hsz:=x.sz_eq
 simp[DD.fit,DD.fits,BL,maxLen] at hfit
 exact DVz
instance iA (l:List AW) (left:Int):Ct cx 226 [.d (.sl false CX (l.map (AW.dd false))),.d (.lf (.int .i64 (left)))] (0≤left∧left≤1048576) (.d (.lf (.int .i64 (BV (szs AW.sz l) left)))):=by
 refine XiF 0 (.sl false CX (l.map (AW.dd false))) func226 27 [.tmp 4] [] [] AN trivial ?_;intro hfit hp h M G H E
 have hF:=SZF.of AW.sz l
 exact DVr
instance cL (x:AL) (left:Int):Ct cx 157 [.d (Ee x),.d (.lf (.int .i64 (left)))] (0≤left∧left≤1048576) (.d (.lf (.int .i64 (BV (x.sz) left)))):=by
 refine XiF 0 (Ee x) func157 43 [.tmp 4] [] [] AN trivial ?_;intro hfit hp h M G H E
 have hsz:=x.sz_eq
 simp[DD.fit,DD.fits,BL,maxLen] at hfit
 exact DVz
instance aU (l:List AL) (left:Int):Ct cx 89 [.d (.sl false FG (l.map (AL.dd false))),.d (.lf (.int .i64 (left)))] (0≤left∧left≤1048576) (.d (.lf (.int .i64 (BV (szs AL.sz l) left)))):=by
 refine XiF 0 (.sl false FG (l.map (AL.dd false))) func89 27 [.tmp 4] [] [] AN trivial ?_;intro hfit hp h M G H E
 have hF:=SZF.of AL.sz l
 exact DVr
instance fd (x:A8) (left:Int):Ct cx 35 [.d (FQ x),.d (.lf (.int .i64 (left)))] (0≤left∧left≤1048576) (.d (.lf (.int .i64 (BV (x.sz) left)))):=by
 refine XiF 0 (FQ x) func35 43 [.tmp 4] [] [] AN trivial ?_;intro hfit hp h M G H E
 have hsz:=x.sz_eq
 simp[DD.fit,DD.fits,BL,maxLen] at hfit
 exact DVz
instance cI (l:List A8) (left:Int):Ct cx 16 [.d (.sl false Dt (l.map (A8.dd false))),.d (.lf (.int .i64 (left)))] (0≤left∧left≤1048576) (.d (.lf (.int .i64 (BV (szs A8.sz l) left)))):=by
 refine XiF 0 (.sl false Dt (l.map (A8.dd false))) func16 27 [.tmp 4] [] [] AN trivial ?_;intro hfit hp h M G H E
 have hF:=SZF.of A8.sz l
 exact DVr
instance fb (x:A1) (left:Int):Ct cx 5 [.d (Ec x),.d (.lf (.int .i64 (left)))] (0≤left∧left≤1048576) (.d (.lf (.int .i64 (BV (x.sz) left)))):=by
 refine XiF 0 (Ec x) func5 12 [.tmp 4] [] [] AN trivial ?_;intro hfit hp h M G H E
 have hsz:=x.sz_eq
 exact DVz
instance fp (l:List ByteArray):Ct cx 125 [.d (.sl false .one (l.map dS)),.d (.sl false .one (l.map dS))] (True) (.d (.lf (.bool true))):=by
 refine Xi func125 26 [.tmp 4] [] [] AN trivial ?_;intro hp h M G H E
 exact DVe
theorem Kr (n:Nat) (i0:∀(x:A0),Ct cx 270 [.d (Dc x),.d (Dc x)] (SizeOf.sizeOf x<n∧True) (.d (.lf (.bool true)))):∀(l:List A0),Ct cx 334 [.d (.sl false Ag (l.map (A0.dd false))),.d (.sl false Ag (l.map (A0.dd false)))] ((∀y∈l,SizeOf.sizeOf y<n)∧True) (.d (.lf (.bool true))):=fun l=>by
 refine Xi func334 27 [.tmp 4] [] [] AN trivial ?_;intro hp h M G H E
 have hq:∀k (h:k<l.length),SizeOf.sizeOf l[k]<n:=fun k h=>hp.1 _ (gm h);replace H:=AI hq H
 exact DVe
theorem Vq (n:Nat) (jType:∀(l:List A0),Ct cx 334 [.d (.sl false Ag (l.map (A0.dd false))),.d (.sl false Ag (l.map (A0.dd false)))] ((∀y∈l,SizeOf.sizeOf y<n)∧True) (.d (.lf (.bool true)))):∀(x:A0),Ct cx 270 [.d (Dc x),.d (Dc x)] (SizeOf.sizeOf x<n+1∧True) (.d (.lf (.bool true))):=fun x=>by
 refine Xi func270 21 [.tmp 4] [] [] AN trivial ?_;intro hp h M G H E
 have uArgs:∀y∈x.AB,SizeOf.sizeOf y<n:=fun y hy=>by have:=List.sizeOf_lt_of_mem hy;have:=x.lt_fArgs;omega
 replace H:=AI uArgs H
 exact DVe
theorem Jg:∀n:Nat,(∀(x:A0),Ct cx 270 [.d (Dc x),.d (Dc x)] (SizeOf.sizeOf x<n∧True) (.d (.lf (.bool true))))
 |0=>fun x=>⟨fk1 func270,fun hp=>absurd hp.1 (Nat.not_lt_zero _)⟩
 |n+1=>have ih:=Jg n;Vq n (Kr n ih)
instance nP (x:A0):Ct cx 270 [.d (Dc x),.d (Dc x)] (True) (.d (.lf (.bool true))):=⟨fk1 func270,fun hp h=>((Jg _) x).cs ⟨Nat.lt_succ_self _,hp⟩ h⟩
instance kL (l:List A0):Ct cx 334 [.d (.sl false Ag (l.map (A0.dd false))),.d (.sl false Ag (l.map (A0.dd false)))] (True) (.d (.lf (.bool true))):=⟨fk1 func334,fun hp h=>(Kr (SizeOf.sizeOf l) (Jg _) l).cs ⟨fun y hy=>List.sizeOf_lt_of_mem hy,hp⟩ h⟩
theorem Vt (n:Nat) (i0:∀(x:Ab),Ct cx 391 [.d (HS x),.d (HS x)] (SizeOf.sizeOf x<n∧True) (.d (.lf (.bool true)))):∀(l:List Ab),Ct cx 339 [.d (.sl false BJ (l.map (Ab.dd false))),.d (.sl false BJ (l.map (Ab.dd false)))] ((∀y∈l,SizeOf.sizeOf y<n)∧True) (.d (.lf (.bool true))):=fun l=>by
 refine Xi func339 27 [.tmp 4] [] [] AN trivial ?_;intro hp h M G H E
 have hq:∀k (h:k<l.length),SizeOf.sizeOf l[k]<n:=fun k h=>hp.1 _ (gm h);replace H:=AI hq H
 exact DVe
theorem Si (n:Nat) (i0:∀(x:AG),Ct cx 274 [.d (Cl x),.d (Cl x)] (SizeOf.sizeOf x<n∧True) (.d (.lf (.bool true)))):∀(l:List AG),Ct cx 338 [.d (.sl false Be (l.map (AG.dd false))),.d (.sl false Be (l.map (AG.dd false)))] ((∀y∈l,SizeOf.sizeOf y<n)∧True) (.d (.lf (.bool true))):=fun l=>by
 refine Xi func338 27 [.tmp 4] [] [] AN trivial ?_;intro hp h M G H E
 have hq:∀k (h:k<l.length),SizeOf.sizeOf l[k]<n:=fun k h=>hp.1 _ (gm h);replace H:=AI hq H
 exact DVe
theorem ZA (n:Nat) (iExpr:∀(x:AG),Ct cx 274 [.d (Cl x),.d (Cl x)] (SizeOf.sizeOf x<n∧True) (.d (.lf (.bool true)))):∀(x:Ab),Ct cx 391 [.d (HS x),.d (HS x)] (SizeOf.sizeOf x<n+1∧True) (.d (.lf (.bool true))):=fun x=>by
 refine Xi func391 22 [.tmp 4] [] [] AN trivial ?_;intro hp h M G H E
 have uBody:SizeOf.sizeOf x.Aa<n:=by have:=x.lt_fBody;omega
 replace H:=AI uBody H
 exact DVe
theorem Vr (n:Nat) (jExpr:∀(l:List AG),Ct cx 338 [.d (.sl false Be (l.map (AG.dd false))),.d (.sl false Be (l.map (AG.dd false)))] ((∀y∈l,SizeOf.sizeOf y<n)∧True) (.d (.lf (.bool true)))) (jArm:∀(l:List Ab),Ct cx 339 [.d (.sl false BJ (l.map (Ab.dd false))),.d (.sl false BJ (l.map (Ab.dd false)))] ((∀y∈l,SizeOf.sizeOf y<n)∧True) (.d (.lf (.bool true)))):∀(x:AG),Ct cx 274 [.d (Cl x),.d (Cl x)] (SizeOf.sizeOf x<n+1∧True) (.d (.lf (.bool true))):=fun x=>by
 refine Xi func274 43 [.tmp 4] [] [] AN trivial ?_;intro hp h M G H E
 have uArgs:∀y∈x.AB,SizeOf.sizeOf y<n:=fun y hy=>by have:=List.sizeOf_lt_of_mem hy;have:=x.lt_fArgs;omega
 replace H:=AI uArgs H
 have uArms:∀y∈x.Ad,SizeOf.sizeOf y<n:=fun y hy=>by have:=List.sizeOf_lt_of_mem hy;have:=x.lt_fArms;omega
 replace H:=AI uArms H
 exact DVe
theorem Nq:∀n:Nat,(∀(x:Ab),Ct cx 391 [.d (HS x),.d (HS x)] (SizeOf.sizeOf x<n∧True) (.d (.lf (.bool true))))∧(∀(x:AG),Ct cx 274 [.d (Cl x),.d (Cl x)] (SizeOf.sizeOf x<n∧True) (.d (.lf (.bool true))))
 |0=>⟨fun x=>⟨fk1 func391,fun hp=>absurd hp.1 (Nat.not_lt_zero _)⟩,fun x=>⟨fk1 func274,fun hp=>absurd hp.1 (Nat.not_lt_zero _)⟩⟩
 |n+1=>have ih:=Nq n;⟨ZA n ih.2,Vr n (Si n ih.2) (Vt n ih.1)⟩
instance nQ (x:AG):Ct cx 274 [.d (Cl x),.d (Cl x)] (True) (.d (.lf (.bool true))):=⟨fk1 func274,fun hp h=>((Nq _).2 x).cs ⟨Nat.lt_succ_self _,hp⟩ h⟩
instance bC (x:AC):Ct cx 332 [.d (E3 x),.d (E3 x)] (True) (.d (.lf (.bool true))):=by
 refine Xi func332 39 [.tmp 4] [] [] AN trivial ?_;intro hp h M G H E
 exact DVe
instance Z9 (l:List AC):Ct cx 268 [.d (.sl false CM (l.map (AC.dd false))),.d (.sl false CM (l.map (AC.dd false)))] (True) (.d (.lf (.bool true))):=by
 refine Xi func268 27 [.tmp 4] [] [] AN trivial ?_;intro hp h M G H E
 exact DVe
instance kM (x:AS):Ct cx 198 [.d (In x),.d (In x)] (True) (.d (.lf (.bool true))):=by
 refine Xi func198 32 [.tmp 4] [] [] AN trivial ?_;intro hp h M G H E
 exact DVe
instance jI (l:List AS):Ct cx 126 [.d (.sl false FJ (l.map (AS.dd false))),.d (.sl false FJ (l.map (AS.dd false)))] (True) (.d (.lf (.bool true))):=by
 refine Xi func126 27 [.tmp 4] [] [] AN trivial ?_;intro hp h M G H E
 exact DVe
instance Wu (x:AA):Ct cx 333 [.d (DA x),.d (DA x)] (True) (.d (.lf (.bool true))):=by
 refine Xi func333 16 [.tmp 4] [] [] AN trivial ?_;intro hp h M G H E
 exact DVe
instance Vs (l:List AA):Ct cx 269 [.d (.sl false DQ (l.map (AA.dd false))),.d (.sl false DQ (l.map (AA.dd false)))] (True) (.d (.lf (.bool true))):=by
 refine Xi func269 27 [.tmp 4] [] [] AN trivial ?_;intro hp h M G H E
 exact DVe
instance eX (x:AF):Ct cx 199 [.d (Eg x),.d (Eg x)] (True) (.d (.lf (.bool true))):=by
 refine Xi func199 22 [.tmp 4] [] [] AN trivial ?_;intro hp h M G H E
 exact DVe
instance bF (l:List AF):Ct cx 127 [.d (.sl false FI (l.map (AF.dd false))),.d (.sl false FI (l.map (AF.dd false)))] (True) (.d (.lf (.bool true))):=by
 refine Xi func127 27 [.tmp 4] [] [] AN trivial ?_;intro hp h M G H E
 exact DVe
instance kO (x:A9):Ct cx 335 [.d (Ip x),.d (Ip x)] (True) (.d (.lf (.bool true))):=by
 refine Xi func335 16 [.tmp 4] [] [] AN trivial ?_;intro hp h M G H E
 exact DVe
instance jL (l:List A9):Ct cx 271 [.d (.sl false BA (l.map (A9.dd false))),.d (.sl false BA (l.map (A9.dd false)))] (True) (.d (.lf (.bool true))):=by
 refine Xi func271 27 [.tmp 4] [] [] AN trivial ?_;intro hp h M G H E
 exact DVe
instance jK (x:AX):Ct cx 336 [.d (GQ x),.d (GQ x)] (True) (.d (.lf (.bool true))):=by
 refine Xi func336 22 [.tmp 4] [] [] AN trivial ?_;intro hp h M G H E
 exact DVe
instance fw (l:List AX):Ct cx 272 [.d (.sl false DG (l.map (AX.dd false))),.d (.sl false DG (l.map (AX.dd false)))] (True) (.d (.lf (.bool true))):=by
 refine Xi func272 27 [.tmp 4] [] [] AN trivial ?_;intro hp h M G H E
 exact DVe
instance eV (x:AJ):Ct cx 200 [.d (Ed x),.d (Ed x)] (True) (.d (.lf (.bool true))):=by
 refine Xi func200 50 [.tmp 4] [] [] AN trivial ?_;intro hp h M G H E
 exact DVe
instance bD (l:List AJ):Ct cx 128 [.d (.sl false FH (l.map (AJ.dd false))),.d (.sl false FH (l.map (AJ.dd false)))] (True) (.d (.lf (.bool true))):=by
 refine Xi func128 27 [.tmp 4] [] [] AN trivial ?_;intro hp h M G H E
 exact DVe
instance kN (x:AW):Ct cx 337 [.d (Io x),.d (Io x)] (True) (.d (.lf (.bool true))):=by
 refine Xi func337 16 [.tmp 4] [] [] AN trivial ?_;intro hp h M G H E
 exact DVe
instance jJ (l:List AW):Ct cx 273 [.d (.sl false CX (l.map (AW.dd false))),.d (.sl false CX (l.map (AW.dd false)))] (True) (.d (.lf (.bool true))):=by
 refine Xi func273 27 [.tmp 4] [] [] AN trivial ?_;intro hp h M G H E
 exact DVe
instance eW (x:AL):Ct cx 201 [.d (Ee x),.d (Ee x)] (True) (.d (.lf (.bool true))):=by
 refine Xi func201 40 [.tmp 4] [] [] AN trivial ?_;intro hp h M G H E
 exact DVe
instance bE (l:List AL):Ct cx 129 [.d (.sl false FG (l.map (AL.dd false))),.d (.sl false FG (l.map (AL.dd false)))] (True) (.d (.lf (.bool true))):=by
 refine Xi func129 27 [.tmp 4] [] [] AN trivial ?_;intro hp h M G H E
 exact DVe
instance fu (x:A8):Ct cx 72 [.d (FQ x),.d (FQ x)] (True) (.d (.lf (.bool true))):=by
 refine Xi func72 40 [.tmp 4] [] [] AN trivial ?_;intro hp h M G H E
 exact DVe
instance eU (l:List A8):Ct cx 30 [.d (.sl false Dt (l.map (A8.dd false))),.d (.sl false Dt (l.map (A8.dd false)))] (True) (.d (.lf (.bool true))):=by
 refine Xi func30 27 [.tmp 4] [] [] AN trivial ?_;intro hp h M G H E
 exact DVe
instance fq (x:A1):Ct cx 10 [.d (Ec x),.d (Ec x)] (True) (.d (.lf (.bool true))):=by
 refine Xi func10 11 [.tmp 4] [] [] AN trivial ?_;intro hp h M G H E
 exact DVe
