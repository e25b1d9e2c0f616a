/- Part 44. No condition. -/
import Derived.Test.YtdooklofebdknaaGreatM39
import Derived.Test.YtdooklofebdknaaGreatM40
namespace Go.Proofs.YtdooklofebdknaaGreat
open Go.RowKit Tryz
set_option maxRecDepth 10000
set_option linter.unusedSimpArgs false
set_option linter.unusedVariables false
set_option maxHeartbeats 4000000
instance fV (l:List ByteArray):Ct cx 101 [.d (.sl false .one (l.map dS))] (l.length≤134217728) (.d (.sl true .one (l.map dS))):=by
 refine Xi func101 22 [.tmp 2] [21] [] AN trivial ?_;intro hp h M G H E
 have hF:TOF dS (.lf (.string ⟨#[]⟩)) .one l:=⟨fun _=>rfl,rfl,by decide⟩
 exact DVo
theorem KL (n:Nat) (i0:∀(x:A0),Ct cx 246 [.d (Dc x)] (SizeOf.sizeOf x<n∧x.sz≤134217728) (.d (x.dd true))):∀(l:List A0),Ct cx 314 [.d (.sl false Ag (l.map (A0.dd false)))] ((∀y∈l,SizeOf.sizeOf y<n)∧l.length≤134217728∧∀y∈l,y.sz≤134217728) (.d (.sl true Ag (l.map (A0.dd true)))):=fun l=>by
 refine Xi func314 23 [.tmp 2] [22] [] AN trivial ?_;intro hp h M G H E
 have hq:∀k (h:k<l.length),SizeOf.sizeOf l[k]<n:=fun k h=>hp.1 _ (gm h);replace H:=AI hq H;have hp2:=hp.2
 have hF:TOF (A0.dd true) (.st [.lf (.int .i64 0),.lf (.string ⟨#[]⟩),.sl true Ag []]) Ag l:=⟨A0.sh_dd true,rfl,by decide⟩
 have hpz:=fun k (h:k<l.length)=>hp2.2 _ (gm h);replace H:=AI hpz H
 exact DVo
theorem Tn (n:Nat) (jType:∀(l:List A0),Ct cx 314 [.d (.sl false Ag (l.map (A0.dd false)))] ((∀y∈l,SizeOf.sizeOf y<n)∧l.length≤134217728∧∀y∈l,y.sz≤134217728) (.d (.sl true Ag (l.map (A0.dd true))))):∀(x:A0),Ct cx 246 [.d (Dc x)] (SizeOf.sizeOf x<n+1∧x.sz≤134217728) (.d (x.dd true)):=fun x=>by
 refine Xi func246 15 [.cell 2 65] [14] [] AN trivial ?_;intro hp h M G H E
 have hp2:=hp.2
 have uArgs:∀y∈x.AB,SizeOf.sizeOf y<n:=fun y hy=>by have:=List.sizeOf_lt_of_mem hy;have:=x.lt_fArgs;omega
 replace H:=AI uArgs H
 have hsz:=x.sz_eq;unfold szs at hsz
 have hzArgs:∀y∈x.AB,y.sz≤134217728:=fun y hy=>by have:=Ah A0.sz hy;omega
 exact DVo
theorem Ir:∀n:Nat,(∀(x:A0),Ct cx 246 [.d (Dc x)] (SizeOf.sizeOf x<n∧x.sz≤134217728) (.d (x.dd true)))
 |0=>fun x=>⟨fk1 func246,fun hp=>absurd hp.1 (Nat.not_lt_zero _)⟩
 |n+1=>have ih:=Ir n;Tn n (KL n ih)
instance lH (x:A0):Ct cx 246 [.d (Dc x)] (x.sz≤134217728) (.d (x.dd true)):=⟨fk1 func246,fun hp h=>((Ir _) x).cs ⟨Nat.lt_succ_self _,hp⟩ h⟩
instance jk (l:List A0):Ct cx 314 [.d (.sl false Ag (l.map (A0.dd false)))] (l.length≤134217728∧∀y∈l,y.sz≤134217728) (.d (.sl true Ag (l.map (A0.dd true)))):=⟨fk1 func314,fun hp h=>(KL (SizeOf.sizeOf l) (Ir _) l).cs ⟨fun y hy=>List.sizeOf_lt_of_mem hy,hp⟩ h⟩
theorem Tq (n:Nat) (i0:∀(x:Ab),Ct cx 375 [.d (HS x)] (SizeOf.sizeOf x<n∧x.sz≤134217728) (.d (x.dd true))):∀(l:List Ab),Ct cx 319 [.d (.sl false BJ (l.map (Ab.dd false)))] ((∀y∈l,SizeOf.sizeOf y<n)∧l.length≤134217728∧∀y∈l,y.sz≤134217728) (.d (.sl true BJ (l.map (Ab.dd true)))):=fun l=>by
 refine Xi func319 23 [.tmp 2] [22] [] AN trivial ?_;intro hp h M G H E
 have hq:∀k (h:k<l.length),SizeOf.sizeOf l[k]<n:=fun k h=>hp.1 _ (gm h);replace H:=AI hq H;have hp2:=hp.2
 have hF:TOF (Ab.dd true) (.st [.lf (.string ⟨#[]⟩),.sl true .one [],.st [.lf (.int .i64 0),.lf (.string ⟨#[]⟩),.lf (.string ⟨#[]⟩),.lf (.int .i64 0),.st [.lf (.int .i64 0),.lf (.string ⟨#[]⟩),.sl true Ag []],.sl true Be [],.sl true BJ []]]) BJ l:=⟨Ab.sh_dd true,rfl,by decide⟩
 have hpz:=fun k (h:k<l.length)=>hp2.2 _ (gm h);replace H:=AI hpz H
 exact DVo
theorem Rp (n:Nat) (i0:∀(x:AG),Ct cx 250 [.d (Cl x)] (SizeOf.sizeOf x<n∧x.sz≤134217728) (.d (x.dd true))):∀(l:List AG),Ct cx 318 [.d (.sl false Be (l.map (AG.dd false)))] ((∀y∈l,SizeOf.sizeOf y<n)∧l.length≤134217728∧∀y∈l,y.sz≤134217728) (.d (.sl true Be (l.map (AG.dd true)))):=fun l=>by
 refine Xi func318 23 [.tmp 2] [22] [] AN trivial ?_;intro hp h M G H E
 have hq:∀k (h:k<l.length),SizeOf.sizeOf l[k]<n:=fun k h=>hp.1 _ (gm h);replace H:=AI hq H;have hp2:=hp.2
 have hF:TOF (AG.dd true) (.st [.lf (.int .i64 0),.lf (.string ⟨#[]⟩),.lf (.string ⟨#[]⟩),.lf (.int .i64 0),.st [.lf (.int .i64 0),.lf (.string ⟨#[]⟩),.sl true Ag []],.sl true Be [],.sl true BJ []]) Be l:=⟨AG.sh_dd true,rfl,by decide⟩
 have hpz:=fun k (h:k<l.length)=>hp2.2 _ (gm h);replace H:=AI hpz H
 exact DVo
theorem XH (n:Nat) (iExpr:∀(x:AG),Ct cx 250 [.d (Cl x)] (SizeOf.sizeOf x<n∧x.sz≤134217728) (.d (x.dd true))):∀(x:Ab),Ct cx 375 [.d (HS x)] (SizeOf.sizeOf x<n+1∧x.sz≤134217728) (.d (x.dd true)):=fun x=>by
 refine Xi func375 16 [.cell 2 172] [15] [] AN trivial ?_;intro hp h M G H E
 have hp2:=hp.2
 have uBody:SizeOf.sizeOf x.Aa<n:=by have:=x.lt_fBody;omega
 replace H:=AI uBody H
 have hsz:=x.sz_eq;unfold szs at hsz
 exact DVo
theorem To (n:Nat) (jExpr:∀(l:List AG),Ct cx 318 [.d (.sl false Be (l.map (AG.dd false)))] ((∀y∈l,SizeOf.sizeOf y<n)∧l.length≤134217728∧∀y∈l,y.sz≤134217728) (.d (.sl true Be (l.map (AG.dd true))))) (jArm:∀(l:List Ab),Ct cx 319 [.d (.sl false BJ (l.map (Ab.dd false)))] ((∀y∈l,SizeOf.sizeOf y<n)∧l.length≤134217728∧∀y∈l,y.sz≤134217728) (.d (.sl true BJ (l.map (Ab.dd true))))):∀(x:AG),Ct cx 250 [.d (Cl x)] (SizeOf.sizeOf x<n+1∧x.sz≤134217728) (.d (x.dd true)):=fun x=>by
 refine Xi func250 29 [.cell 2 75] [28] [] AN trivial ?_;intro hp h M G H E
 have hp2:=hp.2
 have uArgs:∀y∈x.AB,SizeOf.sizeOf y<n:=fun y hy=>by have:=List.sizeOf_lt_of_mem hy;have:=x.lt_fArgs;omega
 replace H:=AI uArgs H
 have uArms:∀y∈x.Ad,SizeOf.sizeOf y<n:=fun y hy=>by have:=List.sizeOf_lt_of_mem hy;have:=x.lt_fArms;omega
 replace H:=AI uArms H
 have hsz:=x.sz_eq;unfold szs at hsz
 have hzArgs:∀y∈x.AB,y.sz≤134217728:=fun y hy=>by have:=Ah AG.sz hy;omega
 have hzArms:∀y∈x.Ad,y.sz≤134217728:=fun y hy=>by have:=Ah Ab.sz hy;omega
 exact DVo
theorem Mj:∀n:Nat,(∀(x:Ab),Ct cx 375 [.d (HS x)] (SizeOf.sizeOf x<n∧x.sz≤134217728) (.d (x.dd true)))∧(∀(x:AG),Ct cx 250 [.d (Cl x)] (SizeOf.sizeOf x<n∧x.sz≤134217728) (.d (x.dd true)))
 |0=>⟨fun x=>⟨fk1 func375,fun hp=>absurd hp.1 (Nat.not_lt_zero _)⟩,fun x=>⟨fk1 func250,fun hp=>absurd hp.1 (Nat.not_lt_zero _)⟩⟩
 |n+1=>have ih:=Mj n;⟨XH n ih.2,To n (Rp n ih.2) (Tq n ih.1)⟩
instance lI (x:AG):Ct cx 250 [.d (Cl x)] (x.sz≤134217728) (.d (x.dd true)):=⟨fk1 func250,fun hp h=>((Mj _).2 x).cs ⟨Nat.lt_succ_self _,hp⟩ h⟩
instance aO (x:AC):Ct cx 312 [.d (E3 x)] (x.sz≤134217728) (.d (x.dd true)):=by
 refine Xi func312 27 [.cell 2 109] [26] [] AN trivial ?_;intro hp h M G H E
 have hsz:=x.sz_eq;unfold szs at hsz
 have hzParams:∀y∈x.Al,y.sz≤134217728:=fun y hy=>by have:=Ah A0.sz hy;omega
 exact DVo
instance XG (l:List AC):Ct cx 244 [.d (.sl false CM (l.map (AC.dd false)))] (l.length≤134217728∧∀y∈l,y.sz≤134217728) (.d (.sl true CM (l.map (AC.dd true)))):=by
 refine Xi func244 23 [.tmp 2] [22] [] AN trivial ?_;intro hp h M G H E
 have hF:TOF (AC.dd true) (.st [.lf (.string ⟨#[]⟩),.sl true Ag [],.st [.lf (.int .i64 0),.lf (.string ⟨#[]⟩),.sl true Ag []],.lf (.bool false),.sl true .one [],.st [.lf (.int .i64 0),.lf (.string ⟨#[]⟩),.lf (.string ⟨#[]⟩),.lf (.int .i64 0),.st [.lf (.int .i64 0),.lf (.string ⟨#[]⟩),.sl true Ag []],.sl true Be [],.sl true BJ []]]) CM l:=⟨AC.sh_dd true,rfl,by decide⟩
 have hpz:=fun k (h:k<l.length)=>hp.2 _ (gm h);replace H:=AI hpz H
 exact DVo
instance jl (x:AS):Ct cx 170 [.d (In x)] (x.sz≤134217728) (.d (x.dd true)):=by
 refine Xi func170 22 [.cell 2 57] [21] [] AN trivial ?_;intro hp h M G H E
 have hsz:=x.sz_eq;unfold szs at hsz
 have hzSignatures:∀y∈x.AU,y.sz≤134217728:=fun y hy=>by have:=Ah AC.sz hy;omega
 exact DVo
instance i5 (l:List AS):Ct cx 102 [.d (.sl false FJ (l.map (AS.dd false)))] (l.length≤134217728∧∀y∈l,y.sz≤134217728) (.d (.sl true FJ (l.map (AS.dd true)))):=by
 refine Xi func102 23 [.tmp 2] [22] [] AN trivial ?_;intro hp h M G H E
 have hF:TOF (AS.dd true) (.st [.lf (.string ⟨#[]⟩),.sl true .one [],.lf (.bool false),.lf (.bool false),.sl true CM []]) FJ l:=⟨AS.sh_dd true,rfl,by decide⟩
 have hpz:=fun k (h:k<l.length)=>hp.2 _ (gm h);replace H:=AI hpz H
 exact DVo
instance Ws (x:AA):Ct cx 313 [.d (DA x)] (x.sz≤134217728) (.d (x.dd true)):=by
 refine Xi func313 12 [.cell 2 116] [11] [] AN trivial ?_;intro hp h M G H E
 have hsz:=x.sz_eq;unfold szs at hsz
 have hzFields:∀y∈x.At,y.sz≤134217728:=fun y hy=>by have:=Ah A0.sz hy;omega
 exact DVo
instance Tp (l:List AA):Ct cx 245 [.d (.sl false DQ (l.map (AA.dd false)))] (l.length≤134217728∧∀y∈l,y.sz≤134217728) (.d (.sl true DQ (l.map (AA.dd true)))):=by
 refine Xi func245 23 [.tmp 2] [22] [] AN trivial ?_;intro hp h M G H E
 have hF:TOF (AA.dd true) (.st [.lf (.string ⟨#[]⟩),.sl true Ag []]) DQ l:=⟨AA.sh_dd true,rfl,by decide⟩
 have hpz:=fun k (h:k<l.length)=>hp.2 _ (gm h);replace H:=AI hpz H
 exact DVo
instance cC (x:AF):Ct cx 171 [.d (Eg x)] (x.sz≤134217728) (.d (x.dd true)):=by
 refine Xi func171 16 [.cell 2 61] [15] [] AN trivial ?_;intro hp h M G H E
 have hsz:=x.sz_eq;unfold szs at hsz
 have hzConstructors:∀y∈x.A4,y.sz≤134217728:=fun y hy=>by have:=Ah AA.sz hy;omega
 exact DVo
instance aR (l:List AF):Ct cx 103 [.d (.sl false FI (l.map (AF.dd false)))] (l.length≤134217728∧∀y∈l,y.sz≤134217728) (.d (.sl true FI (l.map (AF.dd true)))):=by
 refine Xi func103 23 [.tmp 2] [22] [] AN trivial ?_;intro hp h M G H E
 have hF:TOF (AF.dd true) (.st [.lf (.string ⟨#[]⟩),.sl true .one [],.sl true DQ []]) FI l:=⟨AF.sh_dd true,rfl,by decide⟩
 have hpz:=fun k (h:k<l.length)=>hp.2 _ (gm h);replace H:=AI hpz H
 exact DVo
instance jo (x:A9):Ct cx 315 [.d (Ip x)] (x.sz≤134217728) (.d (x.dd true)):=by
 refine Xi func315 12 [.cell 2 174] [11] [] AN trivial ?_;intro hp h M G H E
 have hsz:=x.sz_eq;unfold szs at hsz
 exact DVo
instance i8 (l:List A9):Ct cx 247 [.d (.sl false BA (l.map (A9.dd false)))] (l.length≤134217728∧∀y∈l,y.sz≤134217728) (.d (.sl true BA (l.map (A9.dd true)))):=by
 refine Xi func247 23 [.tmp 2] [22] [] AN trivial ?_;intro hp h M G H E
 have hF:TOF (A9.dd true) (.st [.lf (.string ⟨#[]⟩),.st [.lf (.int .i64 0),.lf (.string ⟨#[]⟩),.sl true Ag []]]) BA l:=⟨A9.sh_dd true,rfl,by decide⟩
 have hpz:=fun k (h:k<l.length)=>hp.2 _ (gm h);replace H:=AI hpz H
 exact DVo
instance i7 (x:AX):Ct cx 316 [.d (GQ x)] (x.sz≤134217728) (.d (x.dd true)):=by
 refine Xi func316 16 [.cell 2 120] [15] [] AN trivial ?_;intro hp h M G H E
 have hsz:=x.sz_eq;unfold szs at hsz
 exact DVo
instance fY (l:List AX):Ct cx 248 [.d (.sl false DG (l.map (AX.dd false)))] (l.length≤134217728∧∀y∈l,y.sz≤134217728) (.d (.sl true DG (l.map (AX.dd true)))):=by
 refine Xi func248 23 [.tmp 2] [22] [] AN trivial ?_;intro hp h M G H E
 have hF:TOF (AX.dd true) (.st [.lf (.string ⟨#[]⟩),.sl true .one [],.st [.lf (.int .i64 0),.lf (.string ⟨#[]⟩),.lf (.string ⟨#[]⟩),.lf (.int .i64 0),.st [.lf (.int .i64 0),.lf (.string ⟨#[]⟩),.sl true Ag []],.sl true Be [],.sl true BJ []]]) DG l:=⟨AX.sh_dd true,rfl,by decide⟩
 have hpz:=fun k (h:k<l.length)=>hp.2 _ (gm h);replace H:=AI hpz H
 exact DVo
instance cA (x:AJ):Ct cx 172 [.d (Ed x)] (x.sz≤134217728) (.d (x.dd true)):=by
 refine Xi func172 34 [.cell 2 69] [33] [] AN trivial ?_;intro hp h M G H E
 have hsz:=x.sz_eq;unfold szs at hsz
 have hzWhere:∀y∈x.Af,y.sz≤134217728:=fun y hy=>by have:=Ah A9.sz hy;omega
 have hzMethods:∀y∈x.Ap,y.sz≤134217728:=fun y hy=>by have:=Ah AX.sz hy;omega
 exact DVo
instance aP (l:List AJ):Ct cx 104 [.d (.sl false FH (l.map (AJ.dd false)))] (l.length≤134217728∧∀y∈l,y.sz≤134217728) (.d (.sl true FH (l.map (AJ.dd true)))):=by
 refine Xi func104 23 [.tmp 2] [22] [] AN trivial ?_;intro hp h M G H E
 have hF:TOF (AJ.dd true) (.st [.lf (.string ⟨#[]⟩),.sl true .one [],.st [.lf (.int .i64 0),.lf (.string ⟨#[]⟩),.sl true Ag []],.sl true BA [],.lf (.bool false),.lf (.bool false),.st [.lf (.int .i64 0),.lf (.string ⟨#[]⟩),.sl true Ag []],.sl true DG []]) FH l:=⟨AJ.sh_dd true,rfl,by decide⟩
 have hpz:=fun k (h:k<l.length)=>hp.2 _ (gm h);replace H:=AI hpz H
 exact DVo
instance jm (x:AW):Ct cx 317 [.d (Io x)] (x.sz≤134217728) (.d (x.dd true)):=by
 refine Xi func317 12 [.cell 2 153] [11] [] AN trivial ?_;intro hp h M G H E
 have hsz:=x.sz_eq;unfold szs at hsz
 exact DVo
instance i6 (l:List AW):Ct cx 249 [.d (.sl false CX (l.map (AW.dd false)))] (l.length≤134217728∧∀y∈l,y.sz≤134217728) (.d (.sl true CX (l.map (AW.dd true)))):=by
 refine Xi func249 23 [.tmp 2] [22] [] AN trivial ?_;intro hp h M G H E
 have hF:TOF (AW.dd true) (.st [.lf (.string ⟨#[]⟩),.st [.lf (.int .i64 0),.lf (.string ⟨#[]⟩),.sl true Ag []]]) CX l:=⟨AW.sh_dd true,rfl,by decide⟩
 have hpz:=fun k (h:k<l.length)=>hp.2 _ (gm h);replace H:=AI hpz H
 exact DVo
instance cB (x:AL):Ct cx 173 [.d (Ee x)] (x.sz≤134217728) (.d (x.dd true)):=by
 refine Xi func173 28 [.cell 2 77] [27] [] AN trivial ?_;intro hp h M G H E
 have hsz:=x.sz_eq;unfold szs at hsz
 have hzWhere:∀y∈x.Af,y.sz≤134217728:=fun y hy=>by have:=Ah A9.sz hy;omega
 have hzParams:∀y∈x.Al,y.sz≤134217728:=fun y hy=>by have:=Ah AW.sz hy;omega
 exact DVo
instance aQ (l:List AL):Ct cx 105 [.d (.sl false FG (l.map (AL.dd false)))] (l.length≤134217728∧∀y∈l,y.sz≤134217728) (.d (.sl true FG (l.map (AL.dd true)))):=by
 refine Xi func105 23 [.tmp 2] [22] [] AN trivial ?_;intro hp h M G H E
 have hF:TOF (AL.dd true) (.st [.lf (.string ⟨#[]⟩),.sl true .one [],.sl true BA [],.sl true CX [],.st [.lf (.int .i64 0),.lf (.string ⟨#[]⟩),.sl true Ag []],.st [.lf (.int .i64 0),.lf (.string ⟨#[]⟩),.lf (.string ⟨#[]⟩),.lf (.int .i64 0),.st [.lf (.int .i64 0),.lf (.string ⟨#[]⟩),.sl true Ag []],.sl true Be [],.sl true BJ []]]) FG l:=⟨AL.sh_dd true,rfl,by decide⟩
 have hpz:=fun k (h:k<l.length)=>hp.2 _ (gm h);replace H:=AI hpz H
 exact DVo
instance fX (x:A8):Ct cx 46 [.d (FQ x)] (x.sz≤134217728) (.d (x.dd true)):=by
 refine Xi func46 28 [.cell 2 49] [27] [] AN trivial ?_;intro hp h M G H E
 have hsz:=x.sz_eq;unfold szs at hsz
 have hzTraits:∀y∈x.Ai,y.sz≤134217728:=fun y hy=>by have:=Ah AS.sz hy;omega
 have hzDataTypes:∀y∈x.AE,y.sz≤134217728:=fun y hy=>by have:=Ah AF.sz hy;omega
 have hzInstances:∀y∈x.AO,y.sz≤134217728:=fun y hy=>by have:=Ah AJ.sz hy;omega
 have hzFunctions:∀y∈x.Ac,y.sz≤134217728:=fun y hy=>by have:=Ah AL.sz hy;omega
 exact DVo
instance c9 (l:List A8):Ct cx 20 [.d (.sl false Dt (l.map (A8.dd false)))] (l.length≤134217728∧∀y∈l,y.sz≤134217728) (.d (.sl true Dt (l.map (A8.dd true)))):=by
 refine Xi func20 23 [.tmp 2] [22] [] AN trivial ?_;intro hp h M G H E
 have hF:TOF (A8.dd true) (.st [.lf (.string ⟨#[]⟩),.sl true .one [],.sl true FJ [],.sl true FI [],.sl true FH [],.sl true FG []]) Dt l:=⟨A8.sh_dd true,rfl,by decide⟩
 have hpz:=fun k (h:k<l.length)=>hp.2 _ (gm h);replace H:=AI hpz H
 exact DVo
instance fW (x:A1):Ct cx 7 [.d (Ec x)] (x.sz≤134217728) (.d (x.dd true)):=by
 refine Xi func7 9 [.cell 2 30] [8] [] AN trivial ?_;intro hp h M G H E
 have hsz:=x.sz_eq;unfold szs at hsz
 have hzPackages:∀y∈x.A2,y.sz≤134217728:=fun y hy=>by have:=Ah A8.sz hy;omega
 exact DVo
instance sFnAt (w:A1) (s:ByteArray):Ct cx 241 [.d (As w),.d (.lf (.string (s)))] (True) (.tp [.d (((fnR w s).1).dd false),.d (.lf (.int .i64 (((fnR w s).2.1:Nat):Int))),.d (.lf (.bool ((fnR w s).2.2)))]):=by
 refine Xiv func241 50 [.cell 4 77,.tmp 5,.tmp 6] [47] [] AN (AI @fnR.eq_1<|AI @DW.eq_def<|AI @nmF.eq_1<|AI @Aw<|AI @Aq<|AI @zFn.eq_1<|AI @zT.eq_1<|@zX.eq_1) ?_;intro hp h M G H E
 repeat' (first|(refine IN.mk ?_;intros)|(refine iTw ?_;refine T2 ?_ ?_<;>((try clear H);intro hb H)<;>try exact hb.elim)|(refine LF.mk ?_;exact LX)|refine GN ?_|(refine XC [1,2,4] [2,4] 7 (w.A2.length) (fun k0=>inP A8.Ac AL.A6 w s=fs (inF A8.Ac AL.A6 s) k0 (w.A2.drop k0)) ?_;intro k0 hk0 hi0)|(refine XC [1,2,4,7] [2,4] 8 (w.A2[k0].Ac.length) (fun k1=>inF A8.Ac AL.A6 s k0 w.A2[k0]=fs (nmF AL.A6 s k0) k1 (w.A2[k0].Ac.drop k1)) ?_;intro k1 hk1 hi1)|fail)
instance iIxK (l:List Nat) (s:Nat):Ct cx 262 [.d (.sl false .one ((l).map (dN))),.d (.lf (.int .i64 ((s:Nat):Int)))] (True) (.d (.lf (.int .i64 (ixK l s)))):=by
 refine Xi func262 19 [.tmp 4] [] [] AN (AI @ixK.eq_1<|AI @kF.eq_1<|AI @Aw<|@Aq) ?_;intro hp h M G H E
 repeat' (first|(refine IN.mk ?_;intros)|(refine iTw ?_;refine T2 ?_ ?_<;>((try clear H);intro hb H)<;>try exact hb.elim)|(refine LF.mk ?_;exact LX)|refine GN ?_|(refine XC [0,1,7] [] 8 (l.length) (fun k0=>fs (kF s) 0 l=fs (kF s) k0 (l.drop k0)) ?_;intro k0 hk0 hi0)|fail)
instance iCoK (l:List Nat) (s:Nat):Ct cx 191 [.d (.sl false .one ((l).map (dN))),.d (.lf (.int .i64 ((s:Nat):Int)))] (True) (.d (.lf (.bool (F7 l s)))):=by
 refine Xi func191 9 [.tmp 4] [] [] AN (AI @Qb<|@V5) ?_;intro hp h M G H E
 all_goals exact GA0
instance iSees (w:A1) (v:List Nat) (k:Nat):Ct cx 118 [.d (.st [As w,.sl false .one (v.map dN)]),.d (.lf (.int .i64 ((k:Nat):Int)))] (True) (.d (.lf (.bool (F7 v k)))):=by
 refine Xi func118 9 [.tmp 4] [] [] AN trivial ?_;intro hp h M G H E
 all_goals exact GA0
instance iTrV (w:A1) (v:List Nat) (s:ByteArray):Ct cx 51 [.d (.st [As w,.sl false .one (v.map dN)]),.d (.lf (.string (s)))] (True) (.tp [.d (((trR w s).1).dd false),.d (.lf (.bool (trV w v s)))]):=by
 refine Xiv func51 24 [.cell 4 57,.tmp 5] [17] [] AN (@trV.eq_1) ?_;intro hp h M G H E
 all_goals exact GA1
instance iDaV (w:A1) (v:List Nat) (s:ByteArray):Ct cx 193 [.d (.st [As w,.sl false .one (v.map dN)]),.d (.lf (.string (s)))] (True) (.tp [.d (((daR w s).1).dd false),.d (.lf (.bool (daV w v s)))]):=by
 refine Xiv func193 24 [.cell 4 61,.tmp 5] [17] [] AN (@daV.eq_1) ?_;intro hp h M G H E
 all_goals exact GA1
instance iFnV (w:A1) (v:List Nat) (s:ByteArray):Ct cx 195 [.d (.st [As w,.sl false .one (v.map dN)]),.d (.lf (.string (s)))] (True) (.tp [.d (((fnR w s).1).dd false),.d (.lf (.bool (fnV w v s)))]):=by
 refine Xiv func195 24 [.cell 4 77,.tmp 5] [17] [] AN (@fnV.eq_1) ?_;intro hp h M G H E
 all_goals exact GA1
instance iCtV (w:A1) (v:List Nat) (s:ByteArray):Ct cx 196 [.d (.st [As w,.sl false .one (v.map dN)]),.d (.lf (.string (s)))] (True) (.tp [.d (((ctR w s).1).dd false),.d (.lf (.int .i64 (((ctR w s).2.1:Nat):Int))),.d (.lf (.bool (ctV w v s)))]):=by
 refine Xiv func196 41 [.cell 4 61,.tmp 5,.tmp 6] [30] [] AN (AI @ctV.eq_1<|@ew) ?_;intro hp h M G H E
 all_goals exact GA1
instance iIns (w:A1) (o:A3):Ct cx 147 [.d (As w),.d (FR o)] (w.sz≤134217728∧inR w o) (.tp [.d (((Am w o)).dd false),.d (.lf (.bool (true)))]):=by
 refine Xiv func147 47 [.cell 4 69,.tmp 5] [46] [] AN (@DZ) ?_;intro hp h M G H E
 have hwz:=w.sz_eq;unfold szs at hwz
 obtain⟨hz,i,k,hi,hk,rfl⟩:=hp
 have hkz:=Ah A8.sz (gm hi);have hpz:=(w.A2[i]).sz_eq;unfold szs at hpz
 have hI:=DZ hi hk;replace H:=AI hI H
 have hw1:=BF (n:=(w.A2.length:Int) - 1) (by omega) (by omega);have hw2:=BF (n:=(w.A2[i].AO.length:Int) - 1) (by omega) (by omega)
 have hwi:Ay (i:Int) 0 ((w.A2.length:Int) - 1)=true:=by unfold Ay;simp;omega
 have hwk:Ay (k:Int) 0 ((w.A2[i].AO.length:Int) - 1)=true:=by unfold Ay;simp;omega
 replace H:=AI hw1 (AI hw2 (AI hwi (AI hwk H)))
 all_goals exact GA1
instance iAllI (w:A1):Ct cx 83 [.d (As w)] (w.sz≤134217728) (.d (.sl true Bc (((BD w)).map (A3.dd true)))):=by
 refine Xi func83 31 [.tmp 2] [15,22,30] [] AN (AI @Ez<|AI @Jz<|@J3) ?_;intro hp h M G H E
 have hwz:=w.sz_eq;unfold szs at hwz
 repeat' (first|(refine IN.mk ?_;intros)|(refine iTw ?_;refine T2 ?_ ?_<;>((try clear H);intro hb H)<;>try exact hb.elim)|(refine LF.mk ?_;exact LX)|refine GN ?_|(refine XL [9,10] [] (fun k0 _=>[(11,.d (.lf (.int .i64 (k0:Int)))),(3,.d (.sl true Bc (((alK w k0)).map (A3.dd true))))]) (fun _ _=>[]) (w.A2.length) (fun _ _=>True) rU ?_;intro k0 hk0 s0 hi0;have hal:=K0 w hk0;have hae:w.A2.length≤k0→alK w k0=BD w:=fun h=>MH (by omega);have han:=K1 w k0)|(refine XL [4,9,10,11,18] [] (fun k1 _=>[(19,.d (.lf (.int .i64 (k1:Int)))),(3,.d (.sl true Bc (((alK w k0++rfK k0 k1)).map (A3.dd true))))]) (fun _ _=>[]) (w.A2[k0].AO.length) (fun _ _=>True) rU ?_;intro k1 hk1 s1 hi1;have hrl:=Gi k0 k1;have hpg:=PG (w:=w) (k:=k0) (by omega);have hrn:=Ob k0 k1;(have hre:w.A2[k0].AO.length≤k1→rfK k0 k1=rfP w k0:=fun h=>by rw[Ez (by omega),show k1=w.A2[k0].AO.length by omega]))|fail)
instance (priority:=10) eC (w:A1):Ct cx 83 [.d (As w)] (w.sz≤134217728) (.ms Bc (((BD w)).map (A3.dd true))):=by
 refine Xi func83 31 [.tmp 2] [22,30] [] AN (AI @Ez<|AI @Jz<|@J3) ?_;intro hp h M G H E
 have hwz:=w.sz_eq;unfold szs at hwz
 repeat' (first|(refine iR (i:=2) ?_;refine XmN 3 ?_)|(refine iWL ?_;first|refine Xmw M ?_|refine jf ?_ (hE:=rfl))|(refine IN.mk ?_;intros)|(refine iTw ?_;refine T2 ?_ ?_<;>((try clear H);intro hb H)<;>try exact hb.elim)|(refine LF.mk ?_;exact LX)|refine GN ?_|(refine XL [9,10] [] (fun k0 _=>[(11,.d (.lf (.int .i64 (k0:Int)))),(3,.ms Bc (((alK w k0)).map (A3.dd true)))]) (fun _ _=>[]) (w.A2.length) (fun _ _=>True) rU ?_;intro k0 hk0 s0 hi0;have hal:=K0 w hk0;have hae:w.A2.length≤k0→alK w k0=BD w:=fun h=>MH (by omega);have han:=K1 w k0)|(refine XL [4,9,10,11,18] [] (fun k1 _=>[(19,.d (.lf (.int .i64 (k1:Int)))),(3,.ms Bc (((alK w k0++rfK k0 k1)).map (A3.dd true)))]) (fun _ _=>[]) (w.A2[k0].AO.length) (fun _ _=>True) rU ?_;intro k1 hk1 s1 hi1;have hrl:=Gi k0 k1;have hpg:=PG (w:=w) (k:=k0) (by omega);have hrn:=Ob k0 k1;(have hre:w.A2[k0].AO.length≤k1→rfK k0 k1=rfP w k0:=fun h=>by rw[Ez (by omega),show k1=w.A2[k0].AO.length by omega]))|fail)
instance iMore (k:Int) (n:ByteArray) (l:List A0) (k2:Int) (n2:ByteArray) (l2:List A0):Ct cx 287 [.d (uK k n l),.d (uK k2 n2 l2)] (A0.sz (⟨k,n,l⟩:A0)≤134217727∧A0.sz (⟨k2,n2,l2⟩:A0)≤134217727) (.d (.lf (.bool (Gp (⟨k,n,l⟩:A0) (⟨k2,n2,l2⟩:A0))))):=by
 refine Xi func287 14 [.tmp 4] [] [] AN (@Gp.eq_1) ?_;intro hp h M G H E
 have hp1:=CK (Nat.le_trans hp.1 (by decide));have hp2:=CK (Nat.le_trans hp.2 (by decide));have hs1:AQ (⟨k,n,l⟩:A0)≤134217728:=Nat.le_trans (Cm _) (by have:=hp.1;omega);have hs2:AQ (⟨k2,n2,l2⟩:A0)≤134217728:=Nat.le_trans (Cm _) (by have:=hp.2;omega);replace H:=AI hp1 (AI hp2 H)
 all_goals exact GA1
theorem Ya:∀(N:Nat) (k:Int) (n:ByteArray) (l:List A0),Ct cx 290 [.d (uK k n l)] (AQ (⟨k,n,l⟩:A0)<N∧A0.wd (⟨k,n,l⟩:A0)) (.d (.lf (.int .i64 (szW (⟨k,n,l⟩:A0))))):=by
 intro N
 induction N with
 |zero=>intro k n l;exact⟨fk1 func290,fun hp=>absurd hp.1 (Nat.not_lt_zero _)⟩
 |succ N ih=>
 intro k n l
 refine Xi func290 19 [.tmp 2] [12] [] AN (@Mn) ?_;intro hp h M G H E
 have gs:∀j (hj:j<l.length),AQ l[j]<N:=fun j hj=>by have:=Bo hj;have:=BE (⟨k,n,l⟩:A0);have:=hp.1;simp only at*;omega
 have gx:∀j (hj:j<l.length),AQ l[j]<N∧l[j].wd:=fun j hj=>⟨gs j hj,Bj hp.2 _ (gm hj)⟩;have hlw:=Cz hp.2;simp only at hlw;replace H:=AI gx (AI hlw H)
 repeat' (first|(refine IN.mk ?_;intros)|(refine iTw ?_;refine T2 ?_ ?_<;>((try clear H);intro hb H)<;>try exact hb.elim)|(refine LF.mk ?_;exact LX)|refine GN ?_|(refine XL [7,8] [] (fun k0 _=>[(9,.d (.lf (.int .i64 (k0:Int)))),(3,.d (.lf (.int .i64 (swK l k0))))]) (fun _ _=>[]) (l.length) (fun _ _=>True) rU ?_;intro k0 hk0 s0 hi0;have hse:l.length≤k0→swK l k0=szW (⟨k,n,l⟩:A0):=fun h=>Pj h k n;have hsn:∀h:k0<l.length,IntKind.i64.wrap (swK l k0+szW l[k0])=swK l (k0+1):=fun h=>U2 h)|fail)
instance (priority:=2000) iTszW (k:Int) (n:ByteArray) (l:List A0):Ct cx 290 [.d (uK k n l)] (A0.wd (⟨k,n,l⟩:A0)) (.d (.lf (.int .i64 (szW (⟨k,n,l⟩:A0))))):=⟨fk1 func290,fun hp h=>(Ya _ k n l).cs ⟨Nat.lt_succ_self _,hp⟩ h⟩
theorem ZB {α:Type} (x:A0) (P:A0→Prop) (hP:∀x,P x→x.AB.length≤134217728∧∀y∈x.AB,P y) (g:Nat) (fn:Func) (body:Code) (hg:CT cx.P g fn body) (k:Nat) (xs:List DD) (val:α→DD) (step:A0→α→α) (ok:α→Prop) (hok:∀y c,P y→ok c→ok (step y c)) (hv:∀y,P y→∀c,ok c→∀(lv:Nat) (h:HP),hpg h lv k=some (.d (val c))→CS cx.P g ([.d (y.dd false)]++(xs.map AV.el++[.pt lv k []])) h (.tp []) (hps h lv k (some (.d (val (step y c)))))) (hPx:P x) (c:α) (hc:ok c) (lv:Nat) (ih:∀y∈x.AB,∀c,ok c→∀(lv:Nat) (h:HP),hpg h lv k=some (.d (val c))→CS cx.P 255 [.d (y.dd false),.fn g (xs.map AV.el++[.pt lv k []])] h (.tp []) (hps h lv k (some (.d (val (ev step y c)))))) (h:HP) (hcap:hpg h lv k=some (.d (val c))):CS cx.P 255 [.d (x.dd false),.fn g (xs.map AV.el++[.pt lv k []])] h (.tp []) (hps h lv k (some (.d (val (ev step x c))))):=by
 have hxl:=(hP x hPx).1
 have hc2:=Df hcap
 refine Ze func255 rfl 20 ?_
 apply Zr;intros
 refine Zo ?_ (by simp[AV.up,AV.vw]<;>omega);simp[AV.up,AV.vw]
 exact Zx
 apply Zr;intros
 iterate 2 (refine Zo ?_ (by simp[AV.up,AV.vw]<;>omega);simp[AV.up,AV.vw])
 refine WL.call [] _ _ _ rfl rfl (by simp) (g:=g) (caps:=(xs.map AV.el++[.pt (lv+1) k []])) (by simp) (by simp) hg rfl (by simp[AV.up,AV.vw]) (by simp) (by simp[AV.up,AV.vw]) (hv x hPx c hc (lv+1) _ (by simpa using hc2)) rfl ?_;simp[AV.up,AV.vw]
 exact Zx
 apply Zr;intros
 iterate 4 (refine Zo ?_ (by simp[AV.up,AV.vw]<;>omega);simp[AV.up,AV.vw])
 exact Zx
 refine W.block ?_
 refine W.loopT [1,10,11] [] (fun k0=>[(12,.d (.lf (.int .i64 (k0:Int))))]) (fun _=>[]) x.AB.length (fun k0=>hps h lv k (some (.d (val (evK step x c k0))))) (by simp[Jd]) (by simp) fun k0 hk0 T hT=> ?_
 simp at hT;subst hT
 apply Zr;intros
 refine Zo ?_ (by simp[AV.up,AV.vw]<;>omega);simp[AV.up,AV.vw]
 exact Zx
 refine Zv rfl ?_ ?_<;>intro hb0<;>try simp at hb0
 have hx:=B1 hb0 (by omega)
 have hs:=Je (step:=step) (c:=c) hb0
 refine W.skip ?_
 refine Zb ?_
 apply Zr;intros
 refine Zo ?_ (by simp[AV.up,AV.vw,hb0,hx]<;>omega);simp[AV.up,AV.vw,hb0,hx]
 refine Zm [15] ?_ (by simp[AV.up,AV.vw,hb0,hx]<;>omega);simp[AV.up,AV.vw,hb0,hx]
 iterate 2 (refine Zo ?_ (by simp[AV.up,AV.vw,hb0,hx]<;>omega);simp[AV.up,AV.vw,hb0,hx])
 exact Zx
 apply Zs;intros
 iterate 2 (refine Zo ?_ (by simp[AV.up,AV.vw,hb0,hx]<;>omega);simp[AV.up,AV.vw,hb0,hx])
 refine Zl [] rfl func255 (ih x.AB[k0] (gm hb0) (evK step x c k0) (eQ hP hok hPx hc k0) (lv+1) _ (by simpa using Df (Er hcap))) ?_ (by simp[AV.up,AV.vw,hb0,hx]);simp[AV.up,AV.vw,hb0,hx]
 exact Zx
 apply Zs;intros
 iterate 2 (refine Zo ?_ (by simp[AV.up,AV.vw,hb0,hx]<;>omega);simp[AV.up,AV.vw,hb0,hx])
 exact Zx
 refine⟨hb0,Wz.toT (by simp[hs]) rfl ?_⟩
 simp
 have hkl:k0=x.AB.length:=by omega
 subst hkl
 simp only[Jf]
 refine W.exit ?_
 refine⟨.inl rfl,⟨_,rfl⟩,?_⟩
 simp[f255]
theorem H7 {α:Type} (x:A0) (P:A0→Prop) (hP:∀x,P x→x.AB.length≤134217728∧∀y∈x.AB,P y) (g:Nat) (fn:Func) (body:Code) (hg:CT cx.P g fn body) (k:Nat) (xs:List DD) (val:α→DD) (step:A0→α→α) (ok:α→Prop) (hok:∀y c,P y→ok c→ok (step y c)) (hv:∀y,P y→∀c,ok c→∀(lv:Nat) (h:HP),hpg h lv k=some (.d (val c))→CS cx.P g ([.d (y.dd false)]++(xs.map AV.el++[.pt lv k []])) h (.tp []) (hps h lv k (some (.d (val (step y c)))))) (hx:P x) (c:α) (hc:ok c) (lv:Nat) (h:HP) (hcap:hpg h lv k=some (.d (val c))):CS cx.P 255 [.d (x.dd false),.fn g (xs.map AV.el++[.pt lv k []])] h (.tp []) (hps h lv k (some (.d (val (ev step x c))))):=ZB x P hP g fn body hg k xs val step ok hok hv hx c hc lv (fun y hy c hc lv h hcap=>H7 y P hP g fn body hg k xs val step ok hok hv ((hP x hx).2 y hy) c hc lv h hcap) h hcap
termination_by SizeOf.sizeOf x
decreasing_by have:=List.sizeOf_lt_of_mem hy;have:=x.lt_fArgs;omega
instance iVarT (s:ByteArray):Ct cx 405 [.d (.lf (.string (s)))] (True) (.d (((⟨1,s,[]⟩:A0)).dd true)):=by
 refine Xi func405 5 [.cell 2 65] [] [] AN trivial ?_;intro hp h M G H E
 all_goals exact GA0
instance md (s:ByteArray):Ct cx 192 [.d (.lf (.string (s)))] (True) (.d (.lf (.bool (Cp s)))):=⟨fk1 func192,fun hp h=>by have q:=EJ s h;first|exact q|simpa using q⟩
instance iDyn (w:A1) (v:List Nat) (s:ByteArray):Ct cx 194 [.d (.st [As w,.sl false .one (v.map dN)]),.d (.lf (.string (s)))] (w.sz≤134217728) (.d (.lf (.int .i64 (ckD w v s)))):=by
 refine Xi func194 18 [.tmp 4] [] [] AN (@ckD.eq_1) ?_;intro hp h M G H E
 have ht:=ET w
 all_goals exact GA0
instance iOwn (w:A1) (v:List Nat) (k:Int) (s:ByteArray) (l:List A0):Ct cx 119 [.d (.st [As w,.sl false .one (v.map dN)]),.d (uK k s l)] (w.sz≤134217728) (.d (.lf (.int .i64 (ckH w v k s l.length)))):=by
 refine Xi func119 54 [.tmp 4] [] [] AN (@ckH.eq_1) ?_;intro hp h M G H E
 all_goals exact GA0
theorem j5 (w:A1) (t:A0) (h:HP):CS cx.P 211 [.d ((w).dd false),.d ((t).dd false)] h (.d (.lf (.int .i64 (Fh w t)))) h:=by
 refine Xe func211 rfl 27 [.tmp 4] ?_
 let M:List Nat:=[]
 let G:List Nat:=[]
 have H:=AN
 repeat' (first|refine GO ?_|(refine Two.mk ?_ ?_<;>intro hb<;>(try simp at hb)<;>(try norm_cast at hb)<;>try replace H:=HN hb H)|(refine RG.mk ?_;(try clear hK hD);first|intro _ K hD hK|intro K hD hK)|(refine RF.mk ?_;intro hr)|(refine LF.mk ?_;(try clear hK hD);first|rfl|(simp[Fh, *];done)|(simp_all [Fh];done)|grind [Fh]))
instance jz (w:A1) (k:Int) (s:ByteArray) (l:List A0):Ct cx 211 [.d (As w),.d (uK k s l)] (True) (.d (.lf (.int .i64 (Fh w ⟨k,s,l⟩)))):=⟨fk1 func211,fun hp h=>by have q:=j5 w ⟨k,s,l⟩ h;first|exact q|simpa using q⟩
instance iOrph (w:A1) (o:A3):Ct cx 148 [.d (As w),.d (FR o)] (w.sz≤134217728∧inR w o) (.d (.lf (.bool (Fa w o)))):=by
 refine Xi func148 42 [.tmp 4] [] [] AN (@Fa.eq_1) ?_;intro hp h M G H E
 have hip:=hp.2;replace H:=AI hip H
 all_goals exact GA1
instance mO (t:AS) (x:AJ):Ct cx 64 [.d (K5 t),.d (E4 x)] (t.sz≤134217728) (.d (.lf (.int .i64 (if Cv t x then 0 else 6)))):=by
 refine Xi func64 64 [.tmp 4] [20,48] [] AN (AI @JH<|AI @m1.eq_1<|AI @m2.eq_1<|AI @Bb<|@BK) ?_;intro hp h M G H E
 have hsw:=@Po t hp;replace H:=AI hsw H
 repeat' (first|exact true|(refine IN.mk ?_;intros)|(refine iTw ?_;refine T2 ?_ ?_<;>((try clear H);intro hb H)<;>try exact hb.elim)|(refine LF.mk ?_;exact LX)|refine BO.mk ?_ ?_|(apply iPJ;exact NPJ)|apply PXs.of|refine GN ?_|(refine XC [2,3,15,16] [2,3] 17 (x.Ap.length) (fun k0=>(x.Ap.all (m1 t))=(x.Ap.drop k0).all (m1 t)) ?_;intro k0 hk0 hi0)|(refine XC [3,43,44] [3] 45 (t.AU.length) (fun k1=>x.Ap.all (m1 t)=true∧t.AU.all (m2 x)=(t.AU.drop k1).all (m2 x)) ?_;intro k1 hk1 hi1)|fail)
theorem Qo (w:A1) (v:List Nat) (hp:w.sz≤134217728) (n:Nat) (ii:∀(k:Int) (s:ByteArray) (l:List A0),Ct cx 56 [.d (.st [As w,.sl false .one (v.map dN)]),.d (uK k s l)] (AQ ⟨k,s,l⟩<n) (.d (.lf (.int .i64 (ckT w v ⟨k,s,l⟩))))) (l:List A0) (hl:Ae l<n) (h:HP):CS cx.P 54 [.d (.st [w.dd false,.sl false .one (v.map dN)]),.d (.sl false Ag ((l).map (A0.dd false)))] h (.d (.lf (.int .i64 (fc (ckT w v) l)))) h:=by
 have gx:=@Bo
 refine Xe func54 rfl 21 [.tmp 4] ?_
 let M:List Nat:=[13]
 let G:List Nat:=[]
 have H:=AN
 repeat' (first|refine GO ?_|(refine Two.mk ?_ ?_<;>intro hb<;>(try simp at hb)<;>(try norm_cast at hb)<;>try replace H:=HN hb H)|(refine RG.mk ?_;(try clear hK hD);first|intro _ K hD hK|intro K hD hK)|(refine RF.mk ?_;intro hr)|(refine LF.mk ?_;(try clear hK hD);first|rfl|(simp[BN,Ax, *];done)|(simp_all [BN,Ax];done)|grind [BN,Ax]))
 refine W.loopR [2,8,9] [2] (fun k0 _=>[(10,.d (.lf (.int .i64 (k0:Int))))]) (fun _ _=>[]) (l.length) (fun k0 _=>fc (ckT w v) l=fc (ckT w v) (l.drop k0)) (fun S=>()) rfl (by simp) (by first|trivial|rfl|(simp;done)|(simp[BN,Ax];done)|(simp_all [BN,Ax];done)) ?_
 intro k0 hk0 s0 hi0 T hT;simp at hT;subst hT
 repeat' (first|refine GO ?_|(refine Two.mk ?_ ?_<;>intro hb<;>(try simp at hb)<;>(try norm_cast at hb)<;>try replace H:=HN hb H)|(refine RG.mk ?_;(try clear hK hD);first|intro _ K hD hK|intro K hD hK)|(refine RF.mk ?_;intro hr)|(refine LF.mk ?_;(try clear hK hD);first|rfl|(simp[BN,Ax, *];done)|(simp_all [BN,Ax];done)|grind [BN,Ax]))
theorem e8 (w:A1) (v:List Nat) (hp:w.sz≤134217728):∀(n:Nat) (x:A0),AQ x<n→∀h:HP,CS cx.P 56 [.d (.st [w.dd false,.sl false .one (v.map dN)]),.d ((x).dd false)] h (.d (.lf (.int .i64 (ckT w v x)))) h:=by
 intro n
 induction n with
 |zero=>intro x hx;omega
 |succ n ih=>
 intro x hx h
 have hsx:Ae x.AB<n:=by have:=BE x;omega
 have ii:∀(k:Int) (s:ByteArray) (l:List A0),Ct cx 56 [.d (.st [As w,.sl false .one (v.map dN)]),.d (uK k s l)] (AQ ⟨k,s,l⟩<n) (.d (.lf (.int .i64 (ckT w v ⟨k,s,l⟩)))):=fun k s l=>⟨fk1 func56,fun hp h=>by have q:=ih ⟨k,s,l⟩ hp h;first|exact q|simpa using q⟩
 have ij:∀l:List A0,Ct cx 54 [.d (.st [As w,.sl false .one (v.map dN)]),.d (.sl false Ag ((l).map (A0.dd false)))] (Ae l<n) (.d (.lf (.int .i64 (fc (ckT w v) l)))):=fun l=>⟨fk1 func54,fun hl h=>by have q:=Qo w v hp n ii l hl h;first|exact q|simpa using q⟩
 refine Xe func56 rfl 16 [.tmp 4] ?_
 let M:List Nat:=[]
 let G:List Nat:=[]
 have H:=AN
 repeat' (first|refine GO ?_|(refine Two.mk ?_ ?_<;>intro hb<;>(try simp at hb)<;>(try norm_cast at hb)<;>try replace H:=HN hb H)|(refine RG.mk ?_;(try clear hK hD);first|intro _ K hD hK|intro K hD hK)|(refine RF.mk ?_;intro hr)|(refine LF.mk ?_;(try clear hK hD);first|rfl|(simp[ED, *];done)|(simp_all [ED];done)|grind [ED]))
theorem VM (w:A1) (v:List Nat) (x:A0) (hp:w.sz≤134217728) (h:HP):CS cx.P 56 [.d (.st [w.dd false,.sl false .one (v.map dN)]),.d ((x).dd false)] h (.d (.lf (.int .i64 (ckT w v x)))) h:=e8 w v hp _ x (Nat.lt_succ_self _) h
instance mZ (w:A1) (v:List Nat) (k:Int) (s:ByteArray) (l:List A0):Ct cx 56 [.d (.st [As w,.sl false .one (v.map dN)]),.d (uK k s l)] (w.sz≤134217728) (.d (.lf (.int .i64 (ckT w v ⟨k,s,l⟩)))):=⟨fk1 func56,fun hp h=>by have q:=VM w v ⟨k,s,l⟩ hp h;first|exact q|simpa using q⟩
theorem Yi (w:A1) (v:List Nat) (l:List A0) (hp:w.sz≤134217728) (h:HP):CS cx.P 54 [.d (.st [w.dd false,.sl false .one (v.map dN)]),.d (.sl false Ag ((l).map (A0.dd false)))] h (.d (.lf (.int .i64 (fc (ckT w v) l)))) h:=Qo w v hp _ (fun k s l=>⟨fk1 func56,fun _ h=>by have q:=VM w v ⟨k,s,l⟩ hp h;first|exact q|simpa using q⟩) l (Nat.lt_succ_self _) h
instance k8 (w:A1) (v:List Nat) (l:List A0):Ct cx 54 [.d (.st [As w,.sl false .one (v.map dN)]),.d (.sl false Ag ((l).map (A0.dd false)))] (w.sz≤134217728) (.d (.lf (.int .i64 (fc (ckT w v) l)))):=⟨fk1 func54,fun hp h=>by have q:=Yi w v l hp h;first|exact q|simpa using q⟩
instance iCkB (w:A1) (v:List Nat) (b:A9):Ct cx 121 [.d (.st [As w,.sl false .one (v.map dN)]),.d (Dr b)] (w.sz≤134217728) (.d (.lf (.int .i64 (ckB w v b)))):=by
 refine Xi func121 20 [.tmp 4] [] [] AN (@ckB.eq_1) ?_;intro hp h M G H E
 all_goals exact GA0
instance iCkBs (w:A1) (v:List Nat) (l:List A9):Ct cx 61 [.d (.st [As w,.sl false .one (v.map dN)]),.d (.sl false BA ((l).map (A9.dd false)))] (w.sz≤134217728) (.d (.lf (.int .i64 (fc (ckB w v) l)))):=by
 refine Xi func61 21 [.tmp 4] [13] [] AN (AI @BN<|@Ax) ?_;intro hp h M G H E
 repeat' (first|(refine IN.mk ?_;intros)|(refine iTw ?_;refine T2 ?_ ?_<;>((try clear H);intro hb H)<;>try exact hb.elim)|(refine LF.mk ?_;exact LX)|refine GN ?_|(refine XC [2,8,9] [2] 10 (l.length) (fun k0=>fc (ckB w v) l=fc (ckB w v) (l.drop k0)) ?_;intro k0 hk0 hi0)|fail)
theorem Fi {r:Nat→Int} {n k:Nat} (h:k<n):fc r ((List.range n).drop k)=if r k=0 then fc r ((List.range n).drop (k+1)) else r k:=by
  have:=BN (f:=r) (l:=List.range n) (k:=k) (by simpa using h);simpa using this
theorem V7 (r:Int):(if r=0 then 0 else r)=r:=by split<;>simp_all
theorem EN {r:Nat→Int} {n k:Nat} (h:n≤k):fc r ((List.range n).drop k)=0:=Ax (by simpa using h)
theorem JP (F:List AV) (n:Nat) (g:Nat→Nat) (cs:Nat→List AV) (r:Nat→Int) (hF:VwC F) (hl:F.length=n) (hg:∀i,i<n→F[i]? =some (.fn (g i) (cs i))) (hv:∀i,VwC (cs i)) (hi:∀i,Ct cx (g i) (cs i) (i<n) (.d (.lf (.int .i64 (r i))))) (h:HP):CS cx.P 52 [.fr F] h (.d (.lf (.int .i64 (fc r (List.range n))))) h:=by
 refine Xe func52 rfl 18 [.tmp 2] ?_
 let M:List Nat:=[]
 let G:List Nat:=[]
 have H:=AN
 have hw:=fun i=>(hv i).all
 have hg2:∀i (h:i<F.length),F[i]=.fn (g i) (cs i):=fun i h=>by have q:=hg i (by omega);rw[List.getElem?_eq_getElem h] at q;exact Option.some.inj q
 replace H:=AI hF.all (AI hl (AI hg2 (AI hw H)))
 repeat' (first|refine GF ?_|refine GO ?_|(refine Two.mk ?_ ?_<;>intro hb<;>(try simp at hb)<;>(try norm_cast at hb)<;>try replace H:=HN hb H)|(refine RG.mk ?_;(try clear hK hD);first|intro _ K hD hK|intro K hD hK)|(refine RF.mk ?_;intro hr)|(refine LF.mk ?_;(try clear hK hD);first|rfl|(simp[Fi,EN, *];done)|(simp_all [Fi,EN];done)|grind [Fi,EN]))
 refine W.loopR [6,7] [] (fun k0 _=>[(8,.d (.lf (.int .i64 (k0:Int))))]) (fun _ _=>[]) (n) (fun k0 _=>fc r (List.range n)=fc r ((List.range n).drop k0)) (fun S=>()) rfl (by simp[H]) (by first|trivial|rfl|(simp;done)|(simp[Fi,EN];done)|(simp_all [Fi,EN];done)) ?_
 intro k0 hk0 s0 hi0 T hT;simp at hT;subst hT
 repeat' (first|refine GF ?_|refine GO ?_|(refine Two.mk ?_ ?_<;>intro hb<;>(try simp at hb)<;>(try norm_cast at hb)<;>try replace H:=HN hb H)|(refine RG.mk ?_;(try clear hK hD);first|intro _ K hD hK|intro K hD hK)|(refine RF.mk ?_;intro hr)|(refine LF.mk ?_;(try clear hK hD);first|rfl|(simp[Fi,EN, *];done)|(simp_all [Fi,EN];done)|grind [Fi,EN]))
instance fm (g0 g1 g2 : Nat) (c0 c1 c2 : List AV) (r0 r1 r2 : Int) {p0 p1 p2 : Prop} [v0 : VwC c0] [h0 : Ct cx g0 c0 p0 (.d (.lf (.int .i64 (r0))))] [v1 : VwC c1] [h1 : Ct cx g1 c1 p1 (.d (.lf (.int .i64 (r1))))] [v2 : VwC c2] [h2 : Ct cx g2 c2 p2 (.d (.lf (.int .i64 (r2))))] : Ct cx 52 [.fr [.fn g0 c0, .fn g1 c1, .fn g2 c2]] (p0 ∧ p1 ∧ p2) (.d (.lf (.int .i64 (or0 r0 (or0 r1 r2))))) := ⟨fk1 func52, fun hp h => by
  obtain⟨q0,q1,q2⟩:=hp
  have q:=JP [.fn g0 c0,.fn g1 c1,.fn g2 c2] 3 (fun i=>match i with|0=>g0|1=>g1|_=>g2) (fun i=>match i with|0=>c0|1=>c1|_=>c2) (fun i=>match i with|0=>r0|1=>r1|_=>r2) inferInstance rfl (fun i hi=>by rcases i with _|_|_|i<;>first|rfl|omega) (fun i=>by rcases i with _|_|i;exact v0;exact v1;exact v2) (fun i=>by rcases i with _|_|i;exact⟨h0.ok,fun _=>h0.cs q0⟩;exact⟨h1.ok,fun _=>h1.cs q1⟩;exact⟨h2.ok,fun _=>h2.cs q2⟩) h
  simpa[fc,or0,V7,List.range,List.range.loop] using q⟩
instance fj (g0 g1 g2 g3 : Nat) (c0 c1 c2 c3 : List AV) (r0 r1 r2 r3 : Int) {p0 p1 p2 p3 : Prop} [v0 : VwC c0] [h0 : Ct cx g0 c0 p0 (.d (.lf (.int .i64 (r0))))] [v1 : VwC c1] [h1 : Ct cx g1 c1 p1 (.d (.lf (.int .i64 (r1))))] [v2 : VwC c2] [h2 : Ct cx g2 c2 p2 (.d (.lf (.int .i64 (r2))))] [v3 : VwC c3] [h3 : Ct cx g3 c3 p3 (.d (.lf (.int .i64 (r3))))] : Ct cx 52 [.fr [.fn g0 c0, .fn g1 c1, .fn g2 c2, .fn g3 c3]] (p0 ∧ p1 ∧ p2 ∧ p3) (.d (.lf (.int .i64 (or0 r0 (or0 r1 (or0 r2 r3)))))) := ⟨fk1 func52, fun hp h => by
  obtain⟨q0,q1,q2,q3⟩:=hp
  have q:=JP [.fn g0 c0,.fn g1 c1,.fn g2 c2,.fn g3 c3] 4 (fun i=>match i with|0=>g0|1=>g1|2=>g2|_=>g3) (fun i=>match i with|0=>c0|1=>c1|2=>c2|_=>c3) (fun i=>match i with|0=>r0|1=>r1|2=>r2|_=>r3) inferInstance rfl (fun i hi=>by rcases i with _|_|_|_|i<;>first|rfl|omega) (fun i=>by rcases i with _|_|_|i;exact v0;exact v1;exact v2;exact v3) (fun i=>by rcases i with _|_|_|i;exact⟨h0.ok,fun _=>h0.cs q0⟩;exact⟨h1.ok,fun _=>h1.cs q1⟩;exact⟨h2.ok,fun _=>h2.cs q2⟩;exact⟨h3.ok,fun _=>h3.cs q3⟩) h
  simpa[fc,or0,V7,List.range,List.range.loop] using q⟩
instance fi (g0 g1 g2 g3 g4 : Nat) (c0 c1 c2 c3 c4 : List AV) (r0 r1 r2 r3 r4 : Int) {p0 p1 p2 p3 p4 : Prop} [v0 : VwC c0] [h0 : Ct cx g0 c0 p0 (.d (.lf (.int .i64 (r0))))] [v1 : VwC c1] [h1 : Ct cx g1 c1 p1 (.d (.lf (.int .i64 (r1))))] [v2 : VwC c2] [h2 : Ct cx g2 c2 p2 (.d (.lf (.int .i64 (r2))))] [v3 : VwC c3] [h3 : Ct cx g3 c3 p3 (.d (.lf (.int .i64 (r3))))] [v4 : VwC c4] [h4 : Ct cx g4 c4 p4 (.d (.lf (.int .i64 (r4))))] : Ct cx 52 [.fr [.fn g0 c0, .fn g1 c1, .fn g2 c2, .fn g3 c3, .fn g4 c4]] (p0 ∧ p1 ∧ p2 ∧ p3 ∧ p4) (.d (.lf (.int .i64 (or0 r0 (or0 r1 (or0 r2 (or0 r3 r4))))))) := ⟨fk1 func52, fun hp h => by
  obtain⟨q0,q1,q2,q3,q4⟩:=hp
  have q:=JP [.fn g0 c0,.fn g1 c1,.fn g2 c2,.fn g3 c3,.fn g4 c4] 5 (fun i=>match i with|0=>g0|1=>g1|2=>g2|3=>g3|_=>g4) (fun i=>match i with|0=>c0|1=>c1|2=>c2|3=>c3|_=>c4) (fun i=>match i with|0=>r0|1=>r1|2=>r2|3=>r3|_=>r4) inferInstance rfl (fun i hi=>by rcases i with _|_|_|_|_|i<;>first|rfl|omega) (fun i=>by rcases i with _|_|_|_|i;exact v0;exact v1;exact v2;exact v3;exact v4) (fun i=>by rcases i with _|_|_|_|i;exact⟨h0.ok,fun _=>h0.cs q0⟩;exact⟨h1.ok,fun _=>h1.cs q1⟩;exact⟨h2.ok,fun _=>h2.cs q2⟩;exact⟨h3.ok,fun _=>h3.cs q3⟩;exact⟨h4.ok,fun _=>h4.cs q4⟩) h
  simpa[fc,or0,V7,List.range,List.range.loop] using q⟩
