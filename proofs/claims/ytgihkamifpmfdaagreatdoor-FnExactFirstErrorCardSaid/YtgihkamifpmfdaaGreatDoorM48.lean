/- Part 48. No condition. -/
import Derived.Test.YtgihkamifpmfdaaGreatDoorM45
import Derived.Test.YtgihkamifpmfdaaGreatDoorM47
namespace Go.Proofs.YtgihkamifpmfdaaGreatDoor
open Go.RowKit Tryz
set_option maxRecDepth 10000
set_option linter.unusedSimpArgs false
set_option linter.unusedVariables false
set_option maxHeartbeats 4000000
instance iB (l:List BA'):Ct cx 70 [.d (.sl false .one (l.map dS))] (l.length≤134217728) (.d (.sl true .one (l.map dS))):=by
 refine Xi func70 22 [.tmp 2] [21] [] AN trivial ?_;intro hp h M G H E
 have hF:TOF dS (.lf (.string ⟨#[]⟩)) .one l:=⟨fun _=>rfl,rfl,by decide⟩
 exact DVo
theorem Kg (n:Nat) (i0:∀(x:A0),Ct cx 214 [.d (De x)] (SizeOf.sizeOf x<n∧x.sz≤134217728) (.d (x.dd true))):∀(l:List A0),Ct cx 306 [.d (.sl false Ai (l.map (A0.dd false)))] ((∀y∈l,SizeOf.sizeOf y<n)∧l.length≤134217728∧∀y∈l,y.sz≤134217728) (.d (.sl true Ai (l.map (A0.dd true)))):=fun l=>by
 refine Xi func306 23 [.tmp 2] [22] [] AN trivial ?_;intro hp h M G H E
 have hq:∀k (h:k<l.length),SizeOf.sizeOf l[k]<n:=fun k h=>hp.1 _ (gm h);replace H:=AI hq H;have hp2:=hp.2
 have hF:TOF (A0.dd true) (.st [.lf (.int .i64 0),.lf (.string ⟨#[]⟩),.sl true Ai []]) Ai l:=⟨A0.sh_dd true,rfl,by decide⟩
 have hpz:=fun k (h:k<l.length)=>hp2.2 _ (gm h);replace H:=AI hpz H
 exact DVo
theorem UO (n:Nat) (jType:∀(l:List A0),Ct cx 306 [.d (.sl false Ai (l.map (A0.dd false)))] ((∀y∈l,SizeOf.sizeOf y<n)∧l.length≤134217728∧∀y∈l,y.sz≤134217728) (.d (.sl true Ai (l.map (A0.dd true))))):∀(x:A0),Ct cx 214 [.d (De x)] (SizeOf.sizeOf x<n+1∧x.sz≤134217728) (.d (x.dd true)):=fun x=>by
 refine Xi func214 15 [.cell 2 85] [14] [] AN trivial ?_;intro hp h M G H E
 have hp2:=hp.2
 have uArgs:∀y∈x.AB,SizeOf.sizeOf y<n:=fun y hy=>by have:=List.sizeOf_lt_of_mem hy;have:=x.lt_fArgs;omega
 replace H:=AI uArgs H
 have hsz:=x.sz_eq;unfold szs at hsz
 have hzArgs:∀y∈x.AB,y.sz≤134217728:=fun y hy=>by have:=Ae A0.sz hy;omega
 exact DVo
theorem J7:∀n:Nat,(∀(x:A0),Ct cx 214 [.d (De x)] (SizeOf.sizeOf x<n∧x.sz≤134217728) (.d (x.dd true)))
 |0=>fun x=>⟨fk1 func214,fun hp=>absurd hp.1 (Nat.not_lt_zero _)⟩
 |n+1=>have ih:=J7 n;UO n (Kg n ih)
instance n9 (x:A0):Ct cx 214 [.d (De x)] (x.sz≤134217728) (.d (x.dd true)):=⟨fk1 func214,fun hp h=>((J7 _) x).cs ⟨Nat.lt_succ_self _,hp⟩ h⟩
instance lV (l:List A0):Ct cx 306 [.d (.sl false Ai (l.map (A0.dd false)))] (l.length≤134217728∧∀y∈l,y.sz≤134217728) (.d (.sl true Ai (l.map (A0.dd true)))):=⟨fk1 func306,fun hp h=>(Kg (SizeOf.sizeOf l) (J7 _) l).cs ⟨fun y hy=>List.sizeOf_lt_of_mem hy,hp⟩ h⟩
theorem UR (n:Nat) (i0:∀(x:Ac),Ct cx 371 [.d (HY x)] (SizeOf.sizeOf x<n∧x.sz≤134217728) (.d (x.dd true))):∀(l:List Ac),Ct cx 311 [.d (.sl false BL (l.map (Ac.dd false)))] ((∀y∈l,SizeOf.sizeOf y<n)∧l.length≤134217728∧∀y∈l,y.sz≤134217728) (.d (.sl true BL (l.map (Ac.dd true)))):=fun l=>by
 refine Xi func311 23 [.tmp 2] [22] [] AN trivial ?_;intro hp h M G H E
 have hq:∀k (h:k<l.length),SizeOf.sizeOf l[k]<n:=fun k h=>hp.1 _ (gm h);replace H:=AI hq H;have hp2:=hp.2
 have hF:TOF (Ac.dd true) (.st [.lf (.string ⟨#[]⟩),.sl true .one [],.st [.lf (.int .i64 0),.lf (.string ⟨#[]⟩),.lf (.string ⟨#[]⟩),.lf (.int .i64 0),.st [.lf (.int .i64 0),.lf (.string ⟨#[]⟩),.sl true Ai []],.sl true Be [],.sl true BL []]]) BL l:=⟨Ac.sh_dd true,rfl,by decide⟩
 have hpz:=fun k (h:k<l.length)=>hp2.2 _ (gm h);replace H:=AI hpz H
 exact DVo
theorem SQ (n:Nat) (i0:∀(x:AG),Ct cx 218 [.d (Cm x)] (SizeOf.sizeOf x<n∧x.sz≤134217728) (.d (x.dd true))):∀(l:List AG),Ct cx 310 [.d (.sl false Be (l.map (AG.dd false)))] ((∀y∈l,SizeOf.sizeOf y<n)∧l.length≤134217728∧∀y∈l,y.sz≤134217728) (.d (.sl true Be (l.map (AG.dd true)))):=fun l=>by
 refine Xi func310 23 [.tmp 2] [22] [] AN trivial ?_;intro hp h M G H E
 have hq:∀k (h:k<l.length),SizeOf.sizeOf l[k]<n:=fun k h=>hp.1 _ (gm h);replace H:=AI hq H;have hp2:=hp.2
 have hF:TOF (AG.dd true) (.st [.lf (.int .i64 0),.lf (.string ⟨#[]⟩),.lf (.string ⟨#[]⟩),.lf (.int .i64 0),.st [.lf (.int .i64 0),.lf (.string ⟨#[]⟩),.sl true Ai []],.sl true Be [],.sl true BL []]) Be l:=⟨AG.sh_dd true,rfl,by decide⟩
 have hpz:=fun k (h:k<l.length)=>hp2.2 _ (gm h);replace H:=AI hpz H
 exact DVo
theorem YM (n:Nat) (iExpr:∀(x:AG),Ct cx 218 [.d (Cm x)] (SizeOf.sizeOf x<n∧x.sz≤134217728) (.d (x.dd true))):∀(x:Ac),Ct cx 371 [.d (HY x)] (SizeOf.sizeOf x<n+1∧x.sz≤134217728) (.d (x.dd true)):=fun x=>by
 refine Xi func371 16 [.cell 2 229] [15] [] AN trivial ?_;intro hp h M G H E
 have hp2:=hp.2
 have uBody:SizeOf.sizeOf x.Ab<n:=by have:=x.lt_fBody;omega
 replace H:=AI uBody H
 have hsz:=x.sz_eq;unfold szs at hsz
 exact DVo
theorem UP (n:Nat) (jExpr:∀(l:List AG),Ct cx 310 [.d (.sl false Be (l.map (AG.dd false)))] ((∀y∈l,SizeOf.sizeOf y<n)∧l.length≤134217728∧∀y∈l,y.sz≤134217728) (.d (.sl true Be (l.map (AG.dd true))))) (jArm:∀(l:List Ac),Ct cx 311 [.d (.sl false BL (l.map (Ac.dd false)))] ((∀y∈l,SizeOf.sizeOf y<n)∧l.length≤134217728∧∀y∈l,y.sz≤134217728) (.d (.sl true BL (l.map (Ac.dd true))))):∀(x:AG),Ct cx 218 [.d (Cm x)] (SizeOf.sizeOf x<n+1∧x.sz≤134217728) (.d (x.dd true)):=fun x=>by
 refine Xi func218 29 [.cell 2 95] [28] [] AN trivial ?_;intro hp h M G H E
 have hp2:=hp.2
 have uArgs:∀y∈x.AB,SizeOf.sizeOf y<n:=fun y hy=>by have:=List.sizeOf_lt_of_mem hy;have:=x.lt_fArgs;omega
 replace H:=AI uArgs H
 have uArms:∀y∈x.Af,SizeOf.sizeOf y<n:=fun y hy=>by have:=List.sizeOf_lt_of_mem hy;have:=x.lt_fArms;omega
 replace H:=AI uArms H
 have hsz:=x.sz_eq;unfold szs at hsz
 have hzArgs:∀y∈x.AB,y.sz≤134217728:=fun y hy=>by have:=Ae AG.sz hy;omega
 have hzArms:∀y∈x.Af,y.sz≤134217728:=fun y hy=>by have:=Ae Ac.sz hy;omega
 exact DVo
theorem N7:∀n:Nat,(∀(x:Ac),Ct cx 371 [.d (HY x)] (SizeOf.sizeOf x<n∧x.sz≤134217728) (.d (x.dd true)))∧(∀(x:AG),Ct cx 218 [.d (Cm x)] (SizeOf.sizeOf x<n∧x.sz≤134217728) (.d (x.dd true)))
 |0=>⟨fun x=>⟨fk1 func371,fun hp=>absurd hp.1 (Nat.not_lt_zero _)⟩,fun x=>⟨fk1 func218,fun hp=>absurd hp.1 (Nat.not_lt_zero _)⟩⟩
 |n+1=>have ih:=N7 n;⟨YM n ih.2,UP n (SQ n ih.2) (UR n ih.1)⟩
instance nA (x:AG):Ct cx 218 [.d (Cm x)] (x.sz≤134217728) (.d (x.dd true)):=⟨fk1 func218,fun hp h=>((N7 _).2 x).cs ⟨Nat.lt_succ_self _,hp⟩ h⟩
instance bi (x:AC):Ct cx 304 [.d (E5 x)] (x.sz≤134217728) (.d (x.dd true)):=by
 refine Xi func304 27 [.cell 2 137] [26] [] AN trivial ?_;intro hp h M G H E
 have hsz:=x.sz_eq;unfold szs at hsz
 have hzParams:∀y∈x.Am,y.sz≤134217728:=fun y hy=>by have:=Ae A0.sz hy;omega
 exact DVo
instance YL (l:List AC):Ct cx 212 [.d (.sl false CL (l.map (AC.dd false)))] (l.length≤134217728∧∀y∈l,y.sz≤134217728) (.d (.sl true CL (l.map (AC.dd true)))):=by
 refine Xi func212 23 [.tmp 2] [22] [] AN trivial ?_;intro hp h M G H E
 have hF:TOF (AC.dd true) (.st [.lf (.string ⟨#[]⟩),.sl true Ai [],.st [.lf (.int .i64 0),.lf (.string ⟨#[]⟩),.sl true Ai []],.lf (.bool false),.sl true .one [],.st [.lf (.int .i64 0),.lf (.string ⟨#[]⟩),.lf (.string ⟨#[]⟩),.lf (.int .i64 0),.st [.lf (.int .i64 0),.lf (.string ⟨#[]⟩),.sl true Ai []],.sl true Be [],.sl true BL []]]) CL l:=⟨AC.sh_dd true,rfl,by decide⟩
 have hpz:=fun k (h:k<l.length)=>hp.2 _ (gm h);replace H:=AI hpz H
 exact DVo
instance lW (x:AU):Ct cx 141 [.d (J3 x)] (x.sz≤134217728) (.d (x.dd true)):=by
 refine Xi func141 22 [.cell 2 77] [21] [] AN trivial ?_;intro hp h M G H E
 have hsz:=x.sz_eq;unfold szs at hsz
 have hzSignatures:∀y∈x.AW,y.sz≤134217728:=fun y hy=>by have:=Ae AC.sz hy;omega
 exact DVo
instance jZ (l:List AU):Ct cx 71 [.d (.sl false FL (l.map (AU.dd false)))] (l.length≤134217728∧∀y∈l,y.sz≤134217728) (.d (.sl true FL (l.map (AU.dd true)))):=by
 refine Xi func71 23 [.tmp 2] [22] [] AN trivial ?_;intro hp h M G H E
 have hF:TOF (AU.dd true) (.st [.lf (.string ⟨#[]⟩),.sl true .one [],.lf (.bool false),.lf (.bool false),.sl true CL []]) FL l:=⟨AU.sh_dd true,rfl,by decide⟩
 have hpz:=fun k (h:k<l.length)=>hp.2 _ (gm h);replace H:=AI hpz H
 exact DVo
instance Y0 (x:AA):Ct cx 305 [.d (DB x)] (x.sz≤134217728) (.d (x.dd true)):=by
 refine Xi func305 12 [.cell 2 144] [11] [] AN trivial ?_;intro hp h M G H E
 have hsz:=x.sz_eq;unfold szs at hsz
 have hzFields:∀y∈x.Av,y.sz≤134217728:=fun y hy=>by have:=Ae A0.sz hy;omega
 exact DVo
instance UQ (l:List AA):Ct cx 213 [.d (.sl false DR (l.map (AA.dd false)))] (l.length≤134217728∧∀y∈l,y.sz≤134217728) (.d (.sl true DR (l.map (AA.dd true)))):=by
 refine Xi func213 23 [.tmp 2] [22] [] AN trivial ?_;intro hp h M G H E
 have hF:TOF (AA.dd true) (.st [.lf (.string ⟨#[]⟩),.sl true Ai []]) DR l:=⟨AA.sh_dd true,rfl,by decide⟩
 have hpz:=fun k (h:k<l.length)=>hp.2 _ (gm h);replace H:=AI hpz H
 exact DVo
instance dY (x:AF):Ct cx 142 [.d (Ei x)] (x.sz≤134217728) (.d (x.dd true)):=by
 refine Xi func142 16 [.cell 2 81] [15] [] AN trivial ?_;intro hp h M G H E
 have hsz:=x.sz_eq;unfold szs at hsz
 have hzConstructors:∀y∈x.A4,y.sz≤134217728:=fun y hy=>by have:=Ae AA.sz hy;omega
 exact DVo
instance bn (l:List AF):Ct cx 72 [.d (.sl false FK (l.map (AF.dd false)))] (l.length≤134217728∧∀y∈l,y.sz≤134217728) (.d (.sl true FK (l.map (AF.dd true)))):=by
 refine Xi func72 23 [.tmp 2] [22] [] AN trivial ?_;intro hp h M G H E
 have hF:TOF (AF.dd true) (.st [.lf (.string ⟨#[]⟩),.sl true .one [],.sl true DR []]) FK l:=⟨AF.sh_dd true,rfl,by decide⟩
 have hpz:=fun k (h:k<l.length)=>hp.2 _ (gm h);replace H:=AI hpz H
 exact DVo
instance lY (x:A9):Ct cx 307 [.d (J5 x)] (x.sz≤134217728) (.d (x.dd true)):=by
 refine Xi func307 12 [.cell 2 207] [11] [] AN trivial ?_;intro hp h M G H E
 have hsz:=x.sz_eq;unfold szs at hsz
 exact DVo
instance jc (l:List A9):Ct cx 215 [.d (.sl false BC (l.map (A9.dd false)))] (l.length≤134217728∧∀y∈l,y.sz≤134217728) (.d (.sl true BC (l.map (A9.dd true)))):=by
 refine Xi func215 23 [.tmp 2] [22] [] AN trivial ?_;intro hp h M G H E
 have hF:TOF (A9.dd true) (.st [.lf (.string ⟨#[]⟩),.st [.lf (.int .i64 0),.lf (.string ⟨#[]⟩),.sl true Ai []]]) BC l:=⟨A9.sh_dd true,rfl,by decide⟩
 have hpz:=fun k (h:k<l.length)=>hp.2 _ (gm h);replace H:=AI hpz H
 exact DVo
instance jb (x:AY):Ct cx 308 [.d (GX x)] (x.sz≤134217728) (.d (x.dd true)):=by
 refine Xi func308 16 [.cell 2 148] [15] [] AN trivial ?_;intro hp h M G H E
 have hsz:=x.sz_eq;unfold szs at hsz
 exact DVo
instance iI (l:List AY):Ct cx 216 [.d (.sl false DH (l.map (AY.dd false)))] (l.length≤134217728∧∀y∈l,y.sz≤134217728) (.d (.sl true DH (l.map (AY.dd true)))):=by
 refine Xi func216 23 [.tmp 2] [22] [] AN trivial ?_;intro hp h M G H E
 have hF:TOF (AY.dd true) (.st [.lf (.string ⟨#[]⟩),.sl true .one [],.st [.lf (.int .i64 0),.lf (.string ⟨#[]⟩),.lf (.string ⟨#[]⟩),.lf (.int .i64 0),.st [.lf (.int .i64 0),.lf (.string ⟨#[]⟩),.sl true Ai []],.sl true Be [],.sl true BL []]]) DH l:=⟨AY.sh_dd true,rfl,by decide⟩
 have hpz:=fun k (h:k<l.length)=>hp.2 _ (gm h);replace H:=AI hpz H
 exact DVo
instance dW (x:AJ):Ct cx 143 [.d (Eg x)] (x.sz≤134217728) (.d (x.dd true)):=by
 refine Xi func143 34 [.cell 2 89] [33] [] AN trivial ?_;intro hp h M G H E
 have hsz:=x.sz_eq;unfold szs at hsz
 have hzWhere:∀y∈x.Ah,y.sz≤134217728:=fun y hy=>by have:=Ae A9.sz hy;omega
 have hzMethods:∀y∈x.Ar,y.sz≤134217728:=fun y hy=>by have:=Ae AY.sz hy;omega
 exact DVo
instance bj (l:List AJ):Ct cx 73 [.d (.sl false FJ (l.map (AJ.dd false)))] (l.length≤134217728∧∀y∈l,y.sz≤134217728) (.d (.sl true FJ (l.map (AJ.dd true)))):=by
 refine Xi func73 23 [.tmp 2] [22] [] AN trivial ?_;intro hp h M G H E
 have hF:TOF (AJ.dd true) (.st [.lf (.string ⟨#[]⟩),.sl true .one [],.st [.lf (.int .i64 0),.lf (.string ⟨#[]⟩),.sl true Ai []],.sl true BC [],.lf (.bool false),.lf (.bool false),.st [.lf (.int .i64 0),.lf (.string ⟨#[]⟩),.sl true Ai []],.sl true DH []]) FJ l:=⟨AJ.sh_dd true,rfl,by decide⟩
 have hpz:=fun k (h:k<l.length)=>hp.2 _ (gm h);replace H:=AI hpz H
 exact DVo
instance lX (x:AX):Ct cx 309 [.d (J4 x)] (x.sz≤134217728) (.d (x.dd true)):=by
 refine Xi func309 12 [.cell 2 199] [11] [] AN trivial ?_;intro hp h M G H E
 have hsz:=x.sz_eq;unfold szs at hsz
 exact DVo
instance ja (l:List AX):Ct cx 217 [.d (.sl false CZ (l.map (AX.dd false)))] (l.length≤134217728∧∀y∈l,y.sz≤134217728) (.d (.sl true CZ (l.map (AX.dd true)))):=by
 refine Xi func217 23 [.tmp 2] [22] [] AN trivial ?_;intro hp h M G H E
 have hF:TOF (AX.dd true) (.st [.lf (.string ⟨#[]⟩),.st [.lf (.int .i64 0),.lf (.string ⟨#[]⟩),.sl true Ai []]]) CZ l:=⟨AX.sh_dd true,rfl,by decide⟩
 have hpz:=fun k (h:k<l.length)=>hp.2 _ (gm h);replace H:=AI hpz H
 exact DVo
instance dX (x:AL):Ct cx 144 [.d (Eh x)] (x.sz≤134217728) (.d (x.dd true)):=by
 refine Xi func144 28 [.cell 2 97] [27] [] AN trivial ?_;intro hp h M G H E
 have hsz:=x.sz_eq;unfold szs at hsz
 have hzWhere:∀y∈x.Ah,y.sz≤134217728:=fun y hy=>by have:=Ae A9.sz hy;omega
 have hzParams:∀y∈x.Am,y.sz≤134217728:=fun y hy=>by have:=Ae AX.sz hy;omega
 exact DVo
instance bm (l:List AL):Ct cx 74 [.d (.sl false FI (l.map (AL.dd false)))] (l.length≤134217728∧∀y∈l,y.sz≤134217728) (.d (.sl true FI (l.map (AL.dd true)))):=by
 refine Xi func74 23 [.tmp 2] [22] [] AN trivial ?_;intro hp h M G H E
 have hF:TOF (AL.dd true) (.st [.lf (.string ⟨#[]⟩),.sl true .one [],.sl true BC [],.sl true CZ [],.st [.lf (.int .i64 0),.lf (.string ⟨#[]⟩),.sl true Ai []],.st [.lf (.int .i64 0),.lf (.string ⟨#[]⟩),.lf (.string ⟨#[]⟩),.lf (.int .i64 0),.st [.lf (.int .i64 0),.lf (.string ⟨#[]⟩),.sl true Ai []],.sl true Be [],.sl true BL []]]) FI l:=⟨AL.sh_dd true,rfl,by decide⟩
 have hpz:=fun k (h:k<l.length)=>hp.2 _ (gm h);replace H:=AI hpz H
 exact DVo
instance iH (x:A8):Ct cx 32 [.d (FT x)] (x.sz≤134217728) (.d (x.dd true)):=by
 refine Xi func32 28 [.cell 2 45] [27] [] AN trivial ?_;intro hp h M G H E
 have hsz:=x.sz_eq;unfold szs at hsz
 have hzTraits:∀y∈x.Aj,y.sz≤134217728:=fun y hy=>by have:=Ae AU.sz hy;omega
 have hzDataTypes:∀y∈x.AE,y.sz≤134217728:=fun y hy=>by have:=Ae AF.sz hy;omega
 have hzInstances:∀y∈x.AQ,y.sz≤134217728:=fun y hy=>by have:=Ae AJ.sz hy;omega
 have hzFunctions:∀y∈x.Ad,y.sz≤134217728:=fun y hy=>by have:=Ae AL.sz hy;omega
 exact DVo
instance dV (l:List A8):Ct cx 15 [.d (.sl false Dw (l.map (A8.dd false)))] (l.length≤134217728∧∀y∈l,y.sz≤134217728) (.d (.sl true Dw (l.map (A8.dd true)))):=by
 refine Xi func15 23 [.tmp 2] [22] [] AN trivial ?_;intro hp h M G H E
 have hF:TOF (A8.dd true) (.st [.lf (.string ⟨#[]⟩),.sl true .one [],.sl true FL [],.sl true FK [],.sl true FJ [],.sl true FI []]) Dw l:=⟨A8.sh_dd true,rfl,by decide⟩
 have hpz:=fun k (h:k<l.length)=>hp.2 _ (gm h);replace H:=AI hpz H
 exact DVo
instance iG (x:A1):Ct cx 6 [.d (Ee x)] (x.sz≤134217728) (.d (x.dd true)):=by
 refine Xi func6 9 [.cell 2 29] [8] [] AN trivial ?_;intro hp h M G H E
 have hsz:=x.sz_eq;unfold szs at hsz
 have hzPackages:∀y∈x.A2,y.sz≤134217728:=fun y hy=>by have:=Ae A8.sz hy;omega
 exact DVo
instance (priority:=2000) nq (k m p q:Int) (l:List A7) (r:List Nat):Ct cx 300 [.d (.st [.lf (.int .i64 (k)),.lf (.int .i64 (m)),.st [.lf (.int .i64 (p)),.lf (.int .i64 (q))],.sl false Bd ((l).map (A7.dd false))]),.d (.sl false .one ((r).map (dN)))] (A7.wd (⟨k,m,⟨p,q⟩,l⟩:A7)∧r.length≤134217728) (.d (((apS (⟨k,m,⟨p,q⟩,l⟩:A7) (r.map fun (x:Nat)=>(x:Int)))).dd true)):=⟨fk1 func300,fun hp h=>by have q:=(jv k m p q l (r.map fun (x:Nat)=>(x:Int))).cs ⟨hp.1,by simpa using hp.2⟩ h;have e:(r.map fun (x:Nat)=>(x:Int)).map dI=r.map dN:=(by rw[List.map_map];rfl);rw[e] at q;exact q⟩
instance (priority:=2000) sApN0 (k m p q:Int) (r:List Nat):Ct cx 300 [.d (.st [.lf (.int .i64 (k)),.lf (.int .i64 (m)),.st [.lf (.int .i64 (p)),.lf (.int .i64 (q))],.sl false Bd []]),.d (.sl false .one ((r).map (dN)))] (A7.wd ⟨k,m,⟨p,q⟩,[]⟩∧r.length≤134217728) (.d (((apS ⟨k,m,⟨p,q⟩,[]⟩ (r.map fun (x:Nat)=>(x:Int)))).dd true)):=⟨fk1 func300,fun hp h=>(nq k m p q [] r).cs hp h⟩
instance (priority:=2000) sApS0 (k m p q:Int) (r:List Int):Ct cx 300 [.d (.st [.lf (.int .i64 (k)),.lf (.int .i64 (m)),.st [.lf (.int .i64 (p)),.lf (.int .i64 (q))],.sl false Bd []]),.d (.sl false .one ((r).map (dI)))] (A7.wd ⟨k,m,⟨p,q⟩,[]⟩∧r.length≤134217728) (.d (((apS ⟨k,m,⟨p,q⟩,[]⟩ r)).dd true)):=⟨fk1 func300,fun hp h=>(jv k m p q [] r).cs hp h⟩
theorem eI (w:A1) (F:List AD):∀(N:Nat) (tr:BA') (k:Int) (n:BA') (l:List A0) (left:Int),Ct cx 210 [.d (Au w),.d (.sl false Bf ((F).map (AD.dd false))),.d (.st [.lf (.string tr),uK k n l]),dI' left] (left=(N:Int)∧N≤12∧vP w∧fOk F∧GT (60000000 - 3*N) (⟨k,n,l⟩:A0)) (.tp [.d (((sol w F N ⟨tr,(⟨k,n,l⟩:A0)⟩).1).dd true),dI' ((sol w F N ⟨tr,(⟨k,n,l⟩:A0)⟩).2)]):=by
 intro N
 induction N with
 |zero=>
 intro tr k n l left
 refine Xi func210 93 [.cell 8 211,.tmp 9] [72,80,90,91] [] AN trivial ?_;intro hp h M G H E
 obtain⟨rfl,hn,hv,hf,hgt⟩:=hp;have hvz:=hv.sz;have hvz2:w.sz≤134217728:=(by omega);have hfl:=hf.1;have hgw:=hgt.wd;have hg3:GT 67108864 (⟨k,n,l⟩:A0):=hgt.mono (by omega);have hg4:GT 67108768 (⟨k,n,l⟩:A0):=hgt.mono (by omega);have hpl:=Fb w tr n;have hpl2:((pth w tr 8 n).getD []).length≤134217728:=(by omega);have hew:∀a:Int,A7.wd ⟨a,0,⟨0,0⟩,[]⟩:=(fun a=>by simp[A7.wd,A7.wds]);replace H:=AI hvz2 (AI hfl (AI hgw (AI hv (AI hf (AI hn (AI hg3 (AI hg4 (AI hpl2 (AI hew H)))))))))
 rcases Classical.em (0≤fAi F ⟨tr,(⟨k,n,l⟩:A0)⟩) with hfa|hfa
 obtain⟨m,hma,hml⟩:∃m:Nat,fAi F ⟨tr,(⟨k,n,l⟩:A0)⟩=(m:Int)∧m<F.length:=⟨_,(Fm hfa).2.symm,(Fm hfa).1⟩;have hae:=MI hma hml;have hst:=hf.2 _ (gm hml);have hew2:A7.wd ⟨2,F[m].Eu,⟨0,0⟩,[]⟩:=(by simp[A7.wd,A7.wds]);replace H:=AI hma (AI hml (AI hst (AI hew2 H)))
 rotate_left
 have hfn:fAi F ⟨tr,(⟨k,n,l⟩:A0)⟩<0:=(by omega);replace H:=AI hfn H
 repeat' (first|exact true|(refine iWL ?_;refine Cs M ?_)|(refine iDL ?_;refine CE M ?_)|(refine LF.mk ?_;have q:=QB (w:=w) (N:=0) hfa;rw[hae] at q;simp[q];done)|(refine LF.mk ?_;have q:=bz (w:=w) hfn;simp[q];done)|(refine IN.mk ?_;intros)|(refine iTw ?_;refine T2 ?_ ?_<;>((try clear H);intro hb H)<;>try (first|exact hb.elim|(exfalso;omega)))|(refine LF.mk ?_;exact LX)|refine BO.mk ?_ ?_|(apply iPJ;exact NPJ)|apply PXs.of|refine GN ?_)
 |succ N ih=>
 intro tr k n l left
 have jj:∀(tr:BA') (k:Int) (n:BA') (l:List A0) (left:Int),Ct cx 303 [.d (Au w),.d (.sl false Bf ((F).map (AD.dd false))),.d (.st [.lf (.string tr),uK k n l]),.d (.lf (.int .i64 (left)))] (left=(N:Int)+1∧N≤12∧vP w∧fOk F∧GT (60000000 - 3*(N+1)) (⟨k,n,l⟩:A0)) (.tp [.d (((inE w (sol w F N) ⟨tr,(⟨k,n,l⟩:A0)⟩).1).dd true),.d (.lf (.int .i64 ((inE w (sol w F N) ⟨tr,(⟨k,n,l⟩:A0)⟩).2)))]):=fun tr k n l left=>Yt w F N ih ⟨tr,(⟨k,n,l⟩:A0)⟩ left
 refine Xi func210 93 [.cell 8 211,.tmp 9] [72,80,90,91] [] AN trivial ?_;intro hp h M G H E
 obtain⟨rfl,hn,hv,hf,hgt⟩:=hp;have hvz:=hv.sz;have hvz2:w.sz≤134217728:=(by omega);have hfl:=hf.1;have hgw:=hgt.wd;have hg3:GT 67108864 (⟨k,n,l⟩:A0):=hgt.mono (by omega);have hg4:GT 67108768 (⟨k,n,l⟩:A0):=hgt.mono (by omega);have hpl:=Fb w tr n;have hpl2:((pth w tr 8 n).getD []).length≤134217728:=(by omega);have hew:∀a:Int,A7.wd ⟨a,0,⟨0,0⟩,[]⟩:=(fun a=>by simp[A7.wd,A7.wds]);replace H:=AI hvz2 (AI hfl (AI hgw (AI hv (AI hf (AI hn (AI hg3 (AI hg4 (AI hpl2 (AI hew H)))))))))
 rcases Classical.em (0≤fAi F ⟨tr,(⟨k,n,l⟩:A0)⟩) with hfa|hfa
 obtain⟨m,hma,hml⟩:∃m:Nat,fAi F ⟨tr,(⟨k,n,l⟩:A0)⟩=(m:Int)∧m<F.length:=⟨_,(Fm hfa).2.symm,(Fm hfa).1⟩;have hae:=MI hma hml;have hst:=hf.2 _ (gm hml);have hew2:A7.wd ⟨2,F[m].Eu,⟨0,0⟩,[]⟩:=(by simp[A7.wd,A7.wds]);replace H:=AI hma (AI hml (AI hst (AI hew2 H)))
 rotate_left
 have hfn:fAi F ⟨tr,(⟨k,n,l⟩:A0)⟩<0:=(by omega);replace H:=AI hfn H
 repeat' (first|exact true|(refine iWL ?_;refine Cs M ?_)|(refine iDL ?_;refine CE M ?_)|(refine LF.mk ?_;have q:=QB (w:=w) (N:=N+1) hfa;rw[hae] at q;simp[q];done)|(refine LF.mk ?_;have q:=c6 (w:=w) (N:=N) hfn (by assumption) hb;simp[q];done)|(refine LF.mk ?_;have q:=c7 (w:=w) (N:=N) hfn (by assumption) hb;simp[q];done)|(refine LF.mk ?_;have q:=c5 (w:=w) (N:=N) hfn (by assumption) hb;simp[q];done)|(refine LF.mk ?_;have q:=Uh (w:=w) (N:=N) hfn (by assumption) (by assumption) (by assumption) hb;simp[q];done)|(refine LF.mk ?_;have q:=NF (w:=w) (N:=N) hfn (by assumption) (by assumption) (fun _=>by show(pth w tr 8 n).isSome=false;rw[hb];rfl);simp[q];done)|(refine LF.mk ?_;have q:=NF (w:=w) (N:=N) hfn (by assumption) (by assumption) (fun h=>absurd h hb);simp[q];done)|(refine IN.mk ?_;intros)|(refine iTw ?_;refine T2 ?_ ?_<;>((try clear H);intro hb H)<;>try (first|exact hb.elim|(exfalso;omega)))|(refine LF.mk ?_;exact LX)|refine BO.mk ?_ ?_|(apply iPJ;exact NPJ)|apply PXs.of|refine GN ?_)
