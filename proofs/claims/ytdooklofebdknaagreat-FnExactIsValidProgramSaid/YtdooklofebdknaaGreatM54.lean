/- Part 54. No condition. -/
import Derived.Test.YtdooklofebdknaaGreatM46
import Derived.Test.YtdooklofebdknaaGreatM47
import Derived.Test.YtdooklofebdknaaGreatM49
namespace Go.Proofs.YtdooklofebdknaaGreat
open Go.RowKit Tryz
set_option linter.unusedVariables false
set_option maxRecDepth 10000
set_option linter.unusedSimpArgs false
set_option maxHeartbeats 4000000
instance n4 (l:List AW):Ct cx 68 [.d (.sl false CX ((l).map (AW.dd false)))] (l.length≤134217728) (.d (.sl true Ag (((pTy l)).map (A0.dd false)))):=⟨fk1 func68,fun hp h=>by have q:=Uf l hp h;first|exact q|simpa using q⟩
instance mw (x:A8):Ct cx 71 [.d (.sl false Dt [(TY x)])] (x.sz≤134217728) (.d (.lf (.bool (uq [x])))):=⟨fk1 func71,fun hp h=>by have q:=gE [x] (by simp) (by simpa[szL] using hp) h;first|exact q|simpa using q⟩
theorem Qg (l:List ByteArray) (s:ByteArray):0≤JN l s↔B6 l s=true:=by rw[←NK];simp
theorem YU {l:List ByteArray} {s:ByteArray} (h:JN l s<0):B6 l s=false:=by
  cases q:B6 l s with
  |false=>rfl
  |true=>have:=(Qg l s).2 q;omega
theorem p24 {a b c d:Nat} (h:(a:Int)+b+c+d≤24):a+b+c+d≤24:=by omega
theorem YE {l:List AW} (h:∀k,NSz (mp AW.A6 l k)):NSz (pNm l):=by have:=h l.length;rwa [Ba (Nat.le_refl _)] at this
theorem Z0 (l:List AW) (v:List ByteArray):El (pTy l) v= !(l.any fun p=> !Bl p.AM v):=by unfold El pTy;rw[List.any_map];rfl
instance giFn (x:AL):Ct cx 112 [.d (Mg x)] (x.sz≤134217728) (.d (.lf (.bool (NY x)))):=by
 have jv:=@n4
 refine Xi func112 53 [.tmp 2] [] [] AN (AI @NY.eq_1<|AI @CU.eq_1<|AI @Z0<|@pNm.eq_1) ?_;intro hp h M G H E
 have qParam:=AW.sz_eq;have gParam:=@Bm _ AW.sz;unfold szs at qParam
 have hx:=x.sz_eq;unfold szs at hx
 have hsw:∀y∈x.Af,y.sz≤134217728:=fun y hy=>by have:=Ah A9.sz hy;omega
 replace H:=AI hsw H
 have hv:NSz x.AZ:=NSz.of (by omega) (by omega);replace H:=AI hv H
 have hnn:=NSz.mp AW.A6 (l:=x.Al) (fun y hy=>by have h1:=Ah AW.sz hy;have h2:=y.sz_eq;unfold szs at h2;omega) (by omega);replace H:=AI hnn H
 have hpn:=YE hnn;replace H:=AI hpn H
 have hpt:(pTy x.Al).length≤134217728:=by unfold pTy;simp;omega
 have hps:∀y∈pTy x.Al,y.sz≤134217728:=fun y hy=>by unfold pTy at hy;obtain⟨p,hp,rfl⟩:=List.mem_map.1 hy;have h1:=Ah AW.sz hp;have h2:=p.sz_eq;unfold szs at h2;omega
 replace H:=AI hpt (AI hps H)
 all_goals exact GA1
instance kA (x:AS):Ct cx 109 [.d (K5 x)] (x.sz≤134217728) (.d (.lf (.bool (DB x)))):=by
 refine Xi func109 65 [.tmp 2] [53,57] [] AN (AI @DB.eq_1<|AI @CU.eq_1<|AI @Ca<|AI @Bp<|@Ba) ?_;intro hp h M G H E
 have qSignature:=AC.sz_eq;have gSignature:=@Bm _ AC.sz;unfold szs at qSignature
 have hx:=x.sz_eq;unfold szs at hx
 have hv:NSz x.Ao:=NSz.of (by omega) (by omega);replace H:=AI hv H
 have hnn:=NSz.mp AC.A6 (l:=x.AU) (fun y hy=>by have h1:=Ah AC.sz hy;have h2:=y.sz_eq;unfold szs at h2;omega) (by omega);replace H:=AI hnn H
 repeat' (first|exact true|(refine LF.mk ?_;rw[Bp (by omega)] at hi0;have hnm:=YH hi0;rw[Ba (by omega)];simp[*];grind)|(refine IN.mk ?_;intros)|(refine iTw ?_;refine T2 ?_ ?_<;>((try clear H);intro hb H)<;>try exact hb.elim)|(refine LF.mk ?_;exact LX)|refine BO.mk ?_ ?_|(apply iPJ;exact NPJ)|apply PXs.of|refine GN ?_|(refine XL [48,49] [] (fun k0 _=>[(50,.d (.lf (.int .i64 (k0:Int)))),(3,.d (.sl true .one (((mp AC.A6 x.AU k0)).map (dS))))]) (fun _ _=>[]) (x.AU.length) (fun k0 _=>(x.AU.any fun g=> !FB g)=(x.AU.drop k0).any fun g=> !FB g) rU ?_;intro k0 hk0 s0 hi0;have hml:=Bh AC.A6 hk0)|fail)
instance nA (x:AF):Ct cx 110 [.d (Rl x)] (x.sz≤134217728) (.d (.lf (.bool (D2 x)))):=by
 refine Xi func110 62 [.tmp 2] [41,54] [] AN (AI @D2.eq_1<|AI @I8.eq_1<|AI @CU.eq_1<|AI @Ca<|AI @Bp<|@Ba) ?_;intro hp h M G H E
 have hx:=x.sz_eq;unfold szs at hx
 have hcs:∀k (h:k<x.A4.length),∀y∈(x.A4[k]).At,y.sz≤134217728:=fun k h y hy=>by have h1:=Ah AA.sz (gm h);have h2:=(x.A4[k]).sz_eq;unfold szs at h2;have h3:=Ah A0.sz hy;omega
 replace H:=AI hcs H
 have hv:NSz x.AZ:=NSz.of (by omega) (by omega);replace H:=AI hv H
 have hnn:=NSz.mp AA.A6 (l:=x.A4) (fun y hy=>by have h1:=Ah AA.sz hy;have h2:=y.sz_eq;unfold szs at h2;omega) (by omega);replace H:=AI hnn H
 have hcl:∀k (h:k<x.A4.length),(x.A4[k]).At.length≤134217728:=fun k h=>by have h1:=Ah AA.sz (gm h);have h2:=(x.A4[k]).sz_eq;unfold szs at h2;omega
 replace H:=AI hcl H
 repeat' (first|exact true|(refine IN.mk ?_;intros)|(refine iTw ?_;refine T2 ?_ ?_<;>((try clear H);intro hb H)<;>try exact hb.elim)|(refine LF.mk ?_;exact LX)|refine BO.mk ?_ ?_|(apply iPJ;exact NPJ)|apply PXs.of|refine GN ?_|(refine XL [1,36,37] [1] (fun k0 _=>[(38,.d (.lf (.int .i64 (k0:Int)))),(3,.d (.sl true .one (((mp AA.A6 x.A4 k0)).map (dS))))]) (fun _ _=>[]) (x.A4.length) (fun k0 _=>(x.A4.any fun c=>I8 c x.AZ)=(x.A4.drop k0).any fun c=>I8 c x.AZ) rU ?_;intro k0 hk0 s0 hi0;have hml:=Bh AA.A6 hk0)|fail)
instance n9 (x:AJ):Ct cx 111 [.d (E4 x)] (x.sz≤134217728) (.d (.lf (.bool (instOk x)))):=by
 have jv:=@my;have jo:=@mz
 refine Xi func111 123 [.tmp 2] [96,115] [] AN (AI @instOk_sub<|AI @inst1_k<|AI @inst2.eq_1<|AI @dO<|AI @CU.eq_1<|AI @Ca<|AI @Bp<|@Ba) ?_;intro hp h M G H E
 have qMethod:=AX.sz_eq;have gMethod:=@Bm _ AX.sz;unfold szs at qMethod
 have hx:=x.sz_eq;unfold szs at hx
 have hsw:∀y∈x.Af,y.sz≤134217728:=fun y hy=>by have:=Ah A9.sz hy;omega
 replace H:=AI hsw H
 have hv:NSz x.AZ:=NSz.of (by omega) (by omega);replace H:=AI hv H
 have hnn:=NSz.mp AX.A6 (l:=x.Ap) (fun y hy=>by have h1:=Ah AX.sz hy;have h2:=y.sz_eq;unfold szs at h2;omega) (by omega);replace H:=AI hnn H
 have htn:=c6 x.Ar (by omega);replace H:=AI htn H
 have hmv:∀k (h:k<x.Ap.length),NSz (x.Ap[k]).AZ:=fun k h=>by have h1:=Ah AX.sz (gm h);have h2:=(x.Ap[k]).sz_eq;unfold szs at h2;exact NSz.of (by omega) (by omega)
 replace H:=AI hmv H
 repeat' (first|exact true|(refine IN.mk ?_;intros)|(refine iTw ?_;refine T2 ?_ ?_<;>((try clear H);intro hb H)<;>try exact hb.elim)|(refine LF.mk ?_;exact LX)|refine BO.mk ?_ ?_|(apply iPJ;exact NPJ)|apply PXs.of|refine GN ?_|(refine XL [91,92] [] (fun k0 _=>[(93,.d (.lf (.int .i64 (k0:Int)))),(3,.d (.sl true .one (((mp AX.A6 x.Ap k0)).map (dS))))]) (fun _ _=>[]) (x.Ap.length) (fun k0 _=>x.Ap.any F4=(x.Ap.drop k0).any F4) rU ?_;intro k0 hk0 s0 hi0;have hml:=Bh AX.A6 hk0)|fail)
instance giPkg (x:A8):Ct cx 47 [.d (TY x)] (x.sz≤134217728) (.d (.lf (.bool (DR x)))):=by
 refine Xi func47 108 [.tmp 2] [52,61,74,87,100] [] AN (AI @DR.eq_1<|AI @pk1.eq_1<|AI @Ey.eq_1<|AI @bc<|AI @CU.eq_1<|AI @Fn<|AI @Qg<|@Bool.and_assoc) ?_;intro hp h M G H E
 have qTrait:=AS.sz_eq;have Ot:=@Bm _ AS.sz;unfold szs at qTrait
 have qDataType:=AF.sz_eq;have gDataType:=@Bm _ AF.sz;unfold szs at qDataType
 have qInstance:=AJ.sz_eq;have gInstance:=@Bm _ AJ.sz;unfold szs at qInstance
 have qFunction:=AL.sz_eq;have gFunction:=@Bm _ AL.sz;unfold szs at qFunction
 have hx:=x.sz_eq;unfold szs at hx
 have hv:NSz x.BZ:=NSz.of (by omega) (by omega);replace H:=AI hv H
 have hw1:=BF (n:=(x.Ai.length:Int)+x.AE.length) (by omega) (by omega);have hw2:=BF (n:=(x.Ai.length:Int)+x.AE.length+x.AO.length) (by omega) (by omega);have hw3:=BF (n:=(x.Ai.length:Int)+x.AE.length+x.AO.length+x.Ac.length) (by omega) (by omega);replace H:=AI hw1 (AI hw2 (AI hw3 H))
 repeat' (first|exact true|(refine LF.mk ?_;rw[Fn (by assumption),Fn (by assumption),Fn (by assumption),Fn (by assumption)];have h24:=p24 (by assumption);have hq:=@YU x.BZ x.A6 (by grind);simp[*,List.all_eq_not_any_not];done)|(refine IN.mk ?_;intros)|(refine iTw ?_;refine T2 ?_ ?_<;>((try clear H);intro hb H)<;>try exact hb.elim)|(refine LF.mk ?_;exact LX)|refine BO.mk ?_ ?_|(apply iPJ;exact NPJ)|apply PXs.of|refine GN ?_|(refine XL [1,56,57] [1] (fun k0 _=>[(58,.d (.lf (.int .i64 (k0:Int)))),(3,.d (.lf (.bool (uq [x] && G2 DB x.Ai k0))))]) (fun _ _=>[]) (x.Ai.length) (fun _ _=>True) rU ?_;intro k0 hk0 s0 hi0)|(refine XL [1,69,70] [1] (fun k1 _=>[(71,.d (.lf (.int .i64 (k1:Int)))),(3,.d (.lf (.bool (uq [x] && G2 DB x.Ai k0 && G2 D2 x.AE k1))))]) (fun _ _=>[]) (x.AE.length) (fun _ _=>True) rU ?_;intro k1 hk1 s1 hi1)|(refine XL [1,82,83] [1] (fun k2 _=>[(84,.d (.lf (.int .i64 (k2:Int)))),(3,.d (.lf (.bool (uq [x] && G2 DB x.Ai k0 && G2 D2 x.AE k1 && G2 instOk x.AO k2))))]) (fun _ _=>[]) (x.AO.length) (fun _ _=>True) rU ?_;intro k2 hk2 s2 hi2)|(refine XL [95,96] [] (fun k3 _=>[(97,.d (.lf (.int .i64 (k3:Int)))),(3,.d (.lf (.bool (uq [x] && G2 DB x.Ai k0 && G2 D2 x.AE k1 && G2 instOk x.AO k2 && G2 NY x.Ac k3))))]) (fun _ _=>[]) (x.Ac.length) (fun _ _=>True) rU ?_;intro k3 hk3 s3 hi3)|fail)
instance mj (l all:List ByteArray):Ct cx 48 [.d (.sl false .one ((l).map (dS))),.d (.sl false .one ((all).map (dS)))] (l.length≤1073741824∧all.length≤4294967296) (.d (.lf (.bool (sub l all)))):=⟨fk1 func48,fun hp h=>by have q:=EE l all hp.1 hp.2 h;first|exact q|simpa using q⟩
theorem ZE (w:A1) (i:Nat) (p:A8):dpI w i p=(DR p && sub p.BZ (mp A8.A6 w.A2 i)):=rfl
instance iUq_i (l:List A8):Ct cx 71 [.d (.sl false Dt ((l).map (A8.dd false)))] (l.length≤134217728∧szL A8.sz l≤134217728) (.d (.lf (.bool (uq l)))):=⟨fk1 func71,fun hp h=>by have q:=gE l hp.1 hp.2 h;first|exact q|simpa using q⟩
theorem di (x:A1) (i:Int) (hz:x.sz≤134217728) (h:HP):CS cx.P 50 [.d ((x).dd false),.d (.lf (.int .i64 (i)))] h (.d (.sl false .one ((vis x i).map (dN)))) h:=by
 have q:=CS.vw (dk x i hz h)
 simpa using q
instance mF (w:A1) (i:Int):Ct cx 50 [.d (As w),.d (.lf (.int .i64 (i)))] (w.sz≤134217728) (.d (.sl false .one ((vis w i).map (dN)))):=⟨fk1 func50,fun hp h=>by have q:=di w i hp h;first|exact q|simpa using q⟩
instance iNmU (w:A1):Ct cx 28 [.d (As w)] (w.sz≤134217728) (.d (.lf (.bool (uq w.A2)))):=by
 refine Xi func28 6 [.tmp 2] [] [] AN trivial ?_;intro hp h M G H E
 have hwz:=w.sz_eq;unfold szs at hwz
 all_goals exact GA0
instance iView (w:A1) (i:Int):Ct cx 22 [.d (As w),.d (.lf (.int .i64 (i)))] (w.sz≤134217728) (.d (.st [w.dd false,.sl false .one ((vis w i).map dN)])):=by
 refine Xi func22 10 [.cell 4 52] [] [] AN trivial ?_;intro hp h M G H E
 all_goals exact GA0
instance iDepV (w:A1):Ct cx 21 [.d (As w)] (w.sz≤134217728) (.d (.lf (.bool (I7 DR w)))):=by
 refine Xi func21 37 [.tmp 2] [13,24] [] AN (AI @ZE<|AI @Aw<|AI @Aq<|AI @Dm<|AI @BX<|@BW) ?_;intro hp h M G H E
 have hwz:=w.sz_eq;unfold szs at hwz
 repeat' (first|exact true|(refine IN.mk ?_;intros)|(refine iTw ?_;refine T2 ?_ ?_<;>((try clear H);intro hb H)<;>try (first|exact hb.elim|(exfalso;omega)))|(refine LF.mk ?_;exact LX)|refine BO.mk ?_ ?_|(apply iPJ;exact NPJ)|apply PXs.of|refine GN ?_|(refine XL [8,9] [] (fun k0 _=>[(10,.d (.lf (.int .i64 (k0:Int)))),(3,.d (.sl true .one ((mp A8.A6 w.A2 k0).map dS)))]) (fun _ _=>[]) (w.A2.length) (fun k0 _=>fs (bad (dpI w)) 0 w.A2=fs (bad (dpI w)) k0 (w.A2.drop k0)) rU ?_;intro k0 hk0 s0 hi0;have hml:=Bh A8.A6 hk0;have hmz:=YI A8.A6 w.A2;by_cases hkk:k0<w.A2.length;rotate_left;have hme:mp A8.A6 w.A2 k0=nmL A8.A6 w.A2:=Ba (by omega);(have hfe:I7 DR w=(decide (w.A2.length≤5) && dst (nmL A8.A6 w.A2)):=by rw[Nu,hi0,Aq _ _ (by omega)];rfl);(have h5:5<w.A2.length→I7 DR w=false:=fun h=>by rw[hfe,decide_eq_false (by omega)];rfl);(have h6:w.A2.length≤5→I7 DR w=dst (nmL A8.A6 w.A2):=fun h=>by rw[hfe,decide_eq_true h];rfl);clear hfe;clear hi0;replace H:=AI hme (AI hmz H);rotate_left;have hpz:=Ah A8.sz (gm hkk);have hpq:=(w.A2[k0]).sz_eq;unfold szs at hpq;have hdj:=Nu w)|(exfalso;omega)|fail)
attribute [simp] an ak ai ag IV JZ Lt feT feD feI feF kTr kDa kIn kFn
theorem C6 (w:A1):feE w=if I7 DR w then feK w w.A2.length++(if uq w.A2 then [] else [Cj]) else [Cj]:=by unfold feE;rw[ZJ]
theorem j7 (w:A1) (hp:w.sz≤134217728) (h:HP):CS cx.P 8 [.d ((w).dd false)] h (.d (.sl true E6 (((feE w)).map (AP.dd true)))) h:=by
 refine Xe func8 rfl 103 [.tmp 2] ?_
 let M:List Nat:=[29,40,55,70,85,98,102]
 let G:List Nat:=[]
 have H:=AN
 have hwz:=w.sz_eq;unfold szs at hwz
 repeat' (first|(refine W.fzR (id:=8) 4 4 [1,3,5,6,23,24,25] [1,3,5,6] ?_)|refine GO ?_|(refine Two.mk ?_ ?_<;>intro hb<;>(try simp at hb)<;>(try norm_cast at hb)<;>try replace H:=HN hb H)|(refine RG.mk ?_;(try clear hK hD);first|intro _ K hD hK|intro K hD hK)|(refine RF.mk ?_;intro hr)|(refine LF.mk ?_;(try clear hK hD);first|rfl|(simp[C6,Cj, *];done)|(simp_all [C6,Cj];done)|grind [C6,Cj]))
 refine W.loopR [1,3,23,24] [1] (fun k0 _=>[(25,.d (.lf (.int .i64 (k0:Int))))]) (fun k0 _=>[(3,.d (.sl true E6 (((feK w k0)).map (AP.dd true))))]) (w.A2.length) (fun _ _=>True) (fun S=>()) rfl (by simp[JZ]) (by first|trivial|rfl|(simp;done)|(simp[C6,Cj];done)|(simp_all [C6,Cj];done)) ?_
 intro k0 hk0 s0 hi0 T hT;simp at hT;subst hT
 have hfl:=Ov w hk0
 have hfe:w.A2.length≤k0→feK w k0=feK w w.A2.length:=fun h=>by rw[show k0=w.A2.length by omega]
 repeat' (first|(refine W.fzR (id:=8) 4 4 [1,3,5,6,23,24,25] [1,3,5,6] ?_)|refine GO ?_|(refine Two.mk ?_ ?_<;>intro hb<;>(try simp at hb)<;>(try norm_cast at hb)<;>try replace H:=HN hb H)|(refine RG.mk ?_;(try clear hK hD);first|intro _ K hD hK|intro K hD hK)|(refine RF.mk ?_;intro hr)|(refine LF.mk ?_;(try clear hK hD);first|rfl|(simp[C6,Cj, *];done)|(simp_all [C6,Cj];done)|grind [C6,Cj]))
 have hpz:=Ah A8.sz (gm (l:=w.A2) (i:=k0) (by assumption));have hpq:=(w.A2[k0]).sz_eq;unfold szs at hpq
 refine W.loopR [1,3,5,6,7,23,24,25,35,36] [1,4,5,6] (fun k1 _=>[(37,.d (.lf (.int .i64 (k1:Int))))]) (fun k1 _=>[(3,.d (.sl true E6 (((feK w k0++r0 w k0 w.A2[k0] k1)).map (AP.dd true))))]) (w.A2[k0].Ai.length) (fun _ _=>True) (fun S=>()) rfl (by simp[IV]) (by first|trivial|rfl|(simp;done)|(simp[C6,Cj];done)|(simp_all [C6,Cj];done)) ?_
 intro k1 hk1 s1 hi1 T hT;simp at hT;subst hT
 have hg0:=ao w k0 w.A2[k0] k1
 repeat' (first|(refine aA G func23 (Ll (FA w (vis w k0) w.A2[k0].Ai[k1]) k0 kTr w.A2[k0].Ai[k1].A6 (feK w k0++r0 w k0 w.A2[k0] k1) (by simp only[List.length_append];omega) 0 3 _ (by simp)) ?_)|(refine W.fzR (id:=8) 4 4 [1,3,5,6,23,24,25] [1,3,5,6] ?_)|refine GO ?_|(refine Two.mk ?_ ?_<;>intro hb<;>(try simp at hb)<;>(try norm_cast at hb)<;>try replace H:=HN hb H)|(refine RG.mk ?_;(try clear hK hD);first|intro _ K hD hK|intro K hD hK)|(refine RF.mk ?_;intro hr)|(refine LF.mk ?_;(try clear hK hD);first|rfl|(simp[C6,Cj, *];done)|(simp_all [C6,Cj];done)|grind [C6,Cj]))
 have he0:=UY (w:=w) (i:=k0) (p:=w.A2[k0]) (k:=k1) (by omega)
 refine W.loopR [1,3,5,6,7,23,24,25,50,51] [1,4,5,6] (fun k2 _=>[(52,.d (.lf (.int .i64 (k2:Int))))]) (fun k2 _=>[(3,.d (.sl true E6 (((feK w k0++r1 w k0 w.A2[k0] k2)).map (AP.dd true))))]) (w.A2[k0].AE.length) (fun _ _=>True) (fun S=>()) rfl (by simp[he0]) (by first|trivial|rfl|(simp;done)|(simp[C6,Cj];done)|(simp_all [C6,Cj];done)) ?_
 intro k2 hk2 s2 hi2 T hT;simp at hT;subst hT
 have hg1:=am w k0 w.A2[k0] k2
 repeat' (first|(refine aA G func23 (Ll (Fl w (vis w k0) w.A2[k0].AE[k2]) k0 kDa w.A2[k0].AE[k2].A6 (feK w k0++r1 w k0 w.A2[k0] k2) (by simp only[List.length_append];omega) 0 3 _ (by simp)) ?_)|(refine W.fzR (id:=8) 4 4 [1,3,5,6,23,24,25] [1,3,5,6] ?_)|refine GO ?_|(refine Two.mk ?_ ?_<;>intro hb<;>(try simp at hb)<;>(try norm_cast at hb)<;>try replace H:=HN hb H)|(refine RG.mk ?_;(try clear hK hD);first|intro _ K hD hK|intro K hD hK)|(refine RF.mk ?_;intro hr)|(refine LF.mk ?_;(try clear hK hD);first|rfl|(simp[C6,Cj, *];done)|(simp_all [C6,Cj];done)|grind [C6,Cj]))
 have he1:=UX (w:=w) (i:=k0) (p:=w.A2[k0]) (k:=k2) (by omega)
 refine W.loopR [1,3,5,6,7,23,24,25,65,66] [1,4,5,6] (fun k3 _=>[(67,.d (.lf (.int .i64 (k3:Int))))]) (fun k3 _=>[(3,.d (.sl true E6 (((feK w k0++r2 w k0 w.A2[k0] k3)).map (AP.dd true))))]) (w.A2[k0].AO.length) (fun _ _=>True) (fun S=>()) rfl (by simp[he1]) (by first|trivial|rfl|(simp;done)|(simp[C6,Cj];done)|(simp_all [C6,Cj];done)) ?_
 intro k3 hk3 s3 hi3 T hT;simp at hT;subst hT
 have hg2:=aj w k0 w.A2[k0] k3
 repeat' (first|(refine aA G func23 (Ll (Hq w (vis w k0) w.A2[k0].AO[k3]) k0 kIn w.A2[k0].AO[k3].AK (feK w k0++r2 w k0 w.A2[k0] k3) (by simp only[List.length_append];omega) 0 3 _ (by simp)) ?_)|(refine W.fzR (id:=8) 4 4 [1,3,5,6,23,24,25] [1,3,5,6] ?_)|refine GO ?_|(refine Two.mk ?_ ?_<;>intro hb<;>(try simp at hb)<;>(try norm_cast at hb)<;>try replace H:=HN hb H)|(refine RG.mk ?_;(try clear hK hD);first|intro _ K hD hK|intro K hD hK)|(refine RF.mk ?_;intro hr)|(refine LF.mk ?_;(try clear hK hD);first|rfl|(simp[C6,Cj, *];done)|(simp_all [C6,Cj];done)|grind [C6,Cj]))
 have he2:=UW (w:=w) (i:=k0) (p:=w.A2[k0]) (k:=k3) (by omega)
 refine W.loopR [1,3,6,7,23,24,25,80,81] [1,4,6] (fun k4 _=>[(82,.d (.lf (.int .i64 (k4:Int))))]) (fun k4 _=>[(3,.d (.sl true E6 (((feK w k0++r3 w k0 w.A2[k0] k4)).map (AP.dd true))))]) (w.A2[k0].Ac.length) (fun _ _=>True) (fun S=>()) rfl (by simp[he2]) (by first|trivial|rfl|(simp;done)|(simp[C6,Cj];done)|(simp_all [C6,Cj];done)) ?_
 intro k4 hk4 s4 hi4 T hT;simp at hT;subst hT
 have hg3:=ah w k0 w.A2[k0] k4
 have hff:∀k (h:k<w.A2[k0].Ac.length),w.sz≤134217728∧w.A2[k0].Ac[k].Al.length≤134217728:=fun k h=>by have h1:=Ah AL.sz (gm h);have h2:=(w.A2[k0].Ac[k]).sz_eq;unfold szs at h2;omega
 replace H:=AI hff H
 have hr3:w.A2[k0].Ac.length≤k4→r3 w k0 w.A2[k0] k4=pkE w k0:=fun h=>by rw[UV h,Od]
 repeat' (first|(refine aA G func23 (Ll (So w (vis w k0) w.A2[k0].Ac[k4]) k0 kFn w.A2[k0].Ac[k4].A6 (feK w k0++r3 w k0 w.A2[k0] k4) (by simp only[List.length_append];omega) 0 3 _ (by simp)) ?_)|(refine W.fzR (id:=8) 4 4 [1,3,5,6,23,24,25] [1,3,5,6] ?_)|refine GO ?_|(refine Two.mk ?_ ?_<;>intro hb<;>(try simp at hb)<;>(try norm_cast at hb)<;>try replace H:=HN hb H)|(refine RG.mk ?_;(try clear hK hD);first|intro _ K hD hK|intro K hD hK)|(refine RF.mk ?_;intro hr)|(refine LF.mk ?_;(try clear hK hD);first|rfl|(simp[C6,Cj, *];done)|(simp_all [C6,Cj];done)|grind [C6,Cj]))
