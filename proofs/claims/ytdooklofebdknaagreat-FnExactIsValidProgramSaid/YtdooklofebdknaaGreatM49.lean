/- Part 49. No condition. -/
import Derived.Test.YtdooklofebdknaaGreatM45
namespace Go.Proofs.YtdooklofebdknaaGreat
open Go.RowKit Tryz
set_option linter.unusedVariables false
set_option maxRecDepth 10000
set_option linter.unusedSimpArgs false
set_option maxHeartbeats 4000000
instance sSel (w:A1) (g:A9):Ct cx 400 [.d (As w),.d (Dr g)] (vP w∧GT 67108864 g.AM) (.tp [.d (.st [.lf (.int .i64 ((sel w g).1.BI)),.lf (.int .i64 ((sel w g).1.fAt))]),.d (.lf (.int .i64 ((sel w g).2)))]):=by
 refine Xi func400 88 [.cell 4 131,.tmp 5] [37,60] [] AN (AI @beS.eq_1<|@WW) ?_;intro hp h M G H E
 have hv:=hp.1;have hvz:=hv.sz;have hvz2:w.sz≤134217728:=(by omega);have hrl:=Dh w;have hgw:=hp.2.wd;replace H:=AI hvz2 (AI hgw H)
 have hgv:=hp.2;have hgo:=hp.2.tvO (Nat.le_refl _);have hcl:=O9 w g;replace H:=AI hgv (AI hgo H)
 repeat' (first|exact true|(refine IN.mk ?_;intros)|(refine iTw ?_;refine T2 ?_ ?_<;>((try clear H);intro hb H)<;>try (first|exact hb.elim|(exfalso;omega)))|(refine LF.mk ?_;exact LX)|refine BO.mk ?_ ?_|(apply iPJ;exact NPJ)|apply PXs.of|refine GN ?_|(refine XC [2,3,4,6] [2,3,4] 7 ((C0 w g).length) (fun k0=>sel w g=J0 w g ((C0 w g).drop k0)) ?_;intro k0 hk0 hi0;have hse:=fun h:(C0 w g).length≤k0=>hi0.trans (Mx w g h);by_cases hkk:k0<(C0 w g).length;rotate_left;have hse2:=hse (by omega);replace H:=AI hse2 H;rotate_left;have hr0:inR w (C0 w g)[k0]:=HE (gm hkk);have hd0:=(hv.hd _ hr0).1;have hs0:=C9 hr0;have hw0:(Am w (C0 w g)[k0]).Ar.sz≤134217727:=(by have hq:=(Am w (C0 w g)[k0]).sz_eq;unfold szs at hq;omega);have ht0:AQ (Am w (C0 w g)[k0]).Ar≤134217728:=Nat.le_trans hd0.1 (by decide);replace H:=AI hr0 (AI hd0 (AI hw0 (AI ht0 H)));obtain⟨i0,j0,hx0,hy0,he0⟩:=hr0;have hI0:=DZ hx0 hy0;replace H:=AI he0 (AI hI0 (AI hx0 (AI hy0 H)));have hsa:=hi0.trans (Q2 w g hkk);rw[he0,hI0] at hsa;replace H:=AI hsa H)|(refine XL [2,3,4,6,7,8] [2,3,4,8] (fun k1 _=>[(10,.d (.lf (.int .i64 (k1:Int)))),(9,.d (.lf (.bool ((beK w (C0 w g) (⟨(i0:Int),(j0:Int)⟩:A3) k1)))))]) (fun _ _=>[]) ((C0 w g).length) (fun _ _=>True) rU ?_;intro k1 hk1 s1 hi1;by_cases hkj:k1<(C0 w g).length;rotate_left;(have hbe:=Zi w (⟨(i0:Int),(j0:Int)⟩:A3) (show(C0 w g).length≤k1 by omega);replace H:=AI hbe H);rotate_left;have hr1:inR w (C0 w g)[k1]:=HE (gm hkj);have hd1:=(hv.hd _ hr1).1;have hs1:=C9 hr1;have hw1:(Am w (C0 w g)[k1]).Ar.sz≤134217727:=(by have hq:=(Am w (C0 w g)[k1]).sz_eq;unfold szs at hq;omega);have ht1:AQ (Am w (C0 w g)[k1]).Ar≤134217728:=Nat.le_trans hd1.1 (by decide);replace H:=AI hr1 (AI hd1 (AI hw1 (AI ht1 H)));obtain⟨i1,j1,hx1,hy1,he1⟩:=hr1;have hI1:=DZ hx1 hy1;replace H:=AI he1 (AI hI1 (AI hx1 (AI hy1 H)));have hbn:=fH w (⟨(i0:Int),(j0:Int)⟩:A3) hkj;unfold beS at hbn;rw[he1,hI0,hI1] at hbn;replace H:=AI hbn H)|fail)
instance (priority:=2000) sFA3 (F:List AD) (tr:ByteArray) (k:Int) (n:ByteArray) (l:List A0):Ct cx 348 [.d (.sl false Bf ((F).map (AD.dd false))),.d (.st [.lf (.string tr),uK k n l])] (F.length≤134217728) (.d (.lf (.int .i64 (fAi F ⟨tr,⟨k,n,l⟩⟩)))):=⟨(sFA F ⟨tr,⟨k,n,l⟩⟩).ok,fun hp h=>by have q:=(sFA F ⟨tr,⟨k,n,l⟩⟩).cs hp h;first|exact q|simpa using q⟩
theorem iS (w:A1) (F:List AD) (tr:ByteArray):∀(N:Nat) (k:Int) (n:ByteArray) (l:List A0) (op:List A0),Ct cx 350 [.d (As w),.d (.sl false Bf ((F).map (AD.dd false))),.d (.st [.lf (.string tr),uK k n l]),.d (.sl false Ag ((op).map (A0.dd false)))] (vP w∧fOk F∧op.length+N=32∧op.length≤31∧GT (67108864 - 3*N) (⟨k,n,l⟩:A0)) (.d (.lf (.int .i64 (au w F tr N (⟨k,n,l⟩:A0) op)))):=by
 intro N
 induction N with
 |zero=>intro k n l op;exact⟨fk1 func350,fun hp=>absurd hp.2.2.1 (by have:=hp.2.2.2.1;omega)⟩
 |succ N ih=>
 intro k n l op
 have jj:∀(k2:Int) (n2:ByteArray) (l2:List A0),Ct cx 350 [.d (As w),.d (.sl false Bf ((F).map (AD.dd false))),.d (.st [.lf (.string tr),uK k2 n2 l2]),.d (.sl false Ag (op.map (A0.dd false)++[(uK k n l)]))] (vP w∧fOk F∧(op++[(⟨k,n,l⟩:A0)]).length+N=32∧(op++[(⟨k,n,l⟩:A0)]).length≤31∧GT (67108864 - 3*N) (⟨k2,n2,l2⟩:A0)) (.d (.lf (.int .i64 (au w F tr N (⟨k2,n2,l2⟩:A0) (op++[(⟨k,n,l⟩:A0)]))))):=fun k2 n2 l2=>by have q:=ih k2 n2 l2 (op++[(⟨k,n,l⟩:A0)]);simpa using q
 refine Xi func350 153 [.tmp 8] [92,103,108,111] [] AN (@OC) ?_;intro hp h M G H E
 obtain⟨hv,hf,hon,hol,hgt⟩:=hp;have hvz:=hv.sz;have hvz2:w.sz≤134217728:=(by omega);have hfl:=hf.1;have hgw:=hgt.wd;have hlw:=Cz hgw;have hlb:=Bj hgw;have hdv:=hv.dv n;have hdz:=P4 w n;have hde:=(daR w n).1.sz_eq;unfold szs at hde;replace H:=AI hvz2 (AI hfl (AI hgw (AI hv (AI hf H))))
 repeat' (first|exact true|(refine LF.mk ?_;rw[fL hb])|(refine LF.mk ?_;rw[jX (hoa.trans (by rw[hb];rfl))])|(refine LF.mk ?_;exact hoa.trans (by rw[hb];rfl))|(refine LF.mk ?_;rw[jW (by assumption) hoe hb])|(refine LF.mk ?_;rw[jV (by assumption) hoe (by assumption) hb])|(refine LF.mk ?_;rw[Zw (by assumption) hoe (by assumption) (by assumption),hce])|(refine LF.mk ?_;exact hi2.trans (I5 hk2' (hcx.trans hde3)))|(refine LF.mk ?_;exact hi3.trans (I5 hk3' (hcy.trans hb)))|(refine LF.mk ?_;rw[Zw (by assumption) hoe (by assumption) (by assumption),hi2.trans (G6 hk2' (by rw[hcx,hi3.trans (G6 hk3' (by rw[hcy];exact hb)),hcy];exact hb)),hcx,hi3.trans (G6 hk3' (by rw[hcy];exact hb)),hcy])|(refine IN.mk ?_;intros)|(refine iTw ?_;refine T2 ?_ ?_<;>((try clear H);intro hb H)<;>try (first|exact hb.elim|(exfalso;omega)))|(refine LF.mk ?_;exact LX)|refine BO.mk ?_ ?_|(apply iPJ;exact NPJ)|apply PXs.of|refine GN ?_|(refine XC [1,3,4,6] [4,6] 9 (op.length) (fun k0=>Cn op (⟨k,n,l⟩:A0)=Cn (op.drop k0) (⟨k,n,l⟩:A0)) ?_;intro k0 hk0 hi0;by_cases hkk:k0<op.length;rotate_left;(have hoe:=hi0.trans (Sa (t:=(⟨k,n,l⟩:A0)) (show op.length≤k0 by omega));replace H:=AI hoe H);rotate_left;have hoa:=hi0.trans (VQ (t:=(⟨k,n,l⟩:A0)) hkk))|(refine XL [1,3,4,6,10] [4,6,10] (fun k1 _=>[(14,.d (.lf (.int .i64 (k1:Int)))),(13,.d (.sl true B9 (((bdK (daR w n).1.AZ l k1)).map (A5.dd false))))]) (fun _ _=>[]) ((daR w n).1.AZ.length) (fun _ _=>True) rU ?_;intro k1 hk1 s1 hi1;have hbl:=RM (daR w n).1.AZ l k1;have hvl:(daR w n).1.AZ.length=l.length:=(by omega);by_cases hkv:k1<(daR w n).1.AZ.length;rotate_left;have hbe:bdK (daR w n).1.AZ l k1=(bds (daR w n).1.AZ l):=Zp (.inl (by omega));replace H:=AI hbe H;rotate_left;have hbn:=Wb (l:=(daR w n).1.AZ) (m:=l) hkv (by omega);replace H:=AI hbn H)|(refine XC [1,4,6,10,13,15] [4,6,10] 16 ((daR w n).1.A4.length) (fun k2=>fc (auC w F tr N (⟨k,n,l⟩:A0) op) (daR w n).1.A4=fc (auC w F tr N (⟨k,n,l⟩:A0) op) ((daR w n).1.A4.drop k2)) ?_;intro k2 hk2 hi2;by_cases hk2':k2<(daR w n).1.A4.length;rotate_left;(have hce:=hi2.trans (Ax (f:=(auC w F tr N (⟨k,n,l⟩:A0) op)) (show(daR w n).1.A4.length≤k2 by omega)));rotate_left;have hcx:(auC w F tr N (⟨k,n,l⟩:A0) op) (daR w n).1.A4[k2]=fc (auF w F tr N (⟨k,n,l⟩:A0) op) (daR w n).1.A4[k2].At:=rfl)|(refine XC [1,4,6,10,13,15,16] [4,6,10] 17 ((daR w n).1.A4[k2].At.length) (fun k3=>fc (auF w F tr N (⟨k,n,l⟩:A0) op) (daR w n).1.A4[k2].At=fc (auF w F tr N (⟨k,n,l⟩:A0) op) ((daR w n).1.A4[k2].At.drop k3)) ?_;intro k3 hk3 hi3;by_cases hk3':k3<(daR w n).1.A4[k2].At.length;rotate_left;(have hde3:=hi3.trans (Ax (f:=(auF w F tr N (⟨k,n,l⟩:A0) op)) (show(daR w n).1.A4[k2].At.length≤k3 by omega)));rotate_left;(have hgg:=We hv hgt (gm hk2') (gm hk3');have hgg2:GT (67108864 - 3*N) (ap (bds (daR w n).1.AZ l) (daR w n).1.A4[k2].At[k3]):=hgg.mono (show 67108864 - 3*(N+1)+3≤67108864 - 3*N by omega);have hpq:vP w∧fOk F∧(op++[(⟨k,n,l⟩:A0)]).length+N=32∧(op++[(⟨k,n,l⟩:A0)]).length≤31∧GT (67108864 - 3*N) (ap (bds (daR w n).1.AZ l) (daR w n).1.A4[k2].At[k3]):=⟨hv,hf,by simp;omega,by simp;omega,hgg2⟩;have hcy:(auF w F tr N (⟨k,n,l⟩:A0) op) (daR w n).1.A4[k2].At[k3]=au w F tr N (ap (bds (daR w n).1.AZ l) (daR w n).1.A4[k2].At[k3]) (op++[(⟨k,n,l⟩:A0)]):=rfl;have hfw:=(hv.da n _ _ (gm hk2') (gm hk3')).wd;have hbw:∀b∈(bds (daR w n).1.AZ l),b.AM.wd:=WX hgw;replace H:=AI hpq (AI hfw (AI hbw H))))|fail)
instance sAu (w:A1) (F:List AD) (tr:ByteArray) (k:Int) (n:ByteArray) (l:List A0):Ct cx 350 [.d (As w),.d (.sl false Bf ((F).map (AD.dd false))),.d (.st [.lf (.string tr),uK k n l]),.d (.sl false Ag [])] (vP w∧fOk F∧GT 67108768 (⟨k,n,l⟩:A0)) (.d (.lf (.int .i64 (au w F tr 32 (⟨k,n,l⟩:A0) [])))):=⟨fk1 func350,fun hp h=>(iS w F tr 32 k n l []).cs ⟨hp.1,hp.2.1,rfl,Nat.zero_le _,hp.2.2⟩ h⟩
instance sPrIn (k:Int) (n:ByteArray) (l:List A0):Ct cx 207 [.d (uK k n l)] (A0.sz (⟨k,n,l⟩:A0)≤134217728) (.d (.sl true BA (((pjT (⟨k,n,l⟩:A0) [])).map (A9.dd true)))):=by
 refine Xi func207 6 [.tmp 2] [4] [4] AN trivial ?_;intro hp h M G H E
 all_goals exact GA0
instance sAsc (x:AJ):Ct cx 144 [.d (E4 x)] (x.sz≤134217728) (.d (.lf (.bool (EP x)))):=by
 refine Xi func144 38 [.tmp 2] [] [] AN (AI @EP.eq_1<|AI @Bb<|AI @BK<|@OB) ?_;intro hp h M G H E
 have hxz:=x.sz_eq;unfold szs at hxz;have haz:x.B3.sz≤134217728:=(by omega);have hal:=QE x.B3 [];have hat:=Cm x.B3;simp only[List.length_nil] at hal;replace H:=AI haz H
 repeat' (first|exact true|(refine IN.mk ?_;intros)|(refine iTw ?_;refine T2 ?_ ?_<;>((try clear H);intro hb H)<;>try exact hb.elim)|(refine LF.mk ?_;exact LX)|refine BO.mk ?_ ?_|(apply iPJ;exact NPJ)|apply PXs.of|refine GN ?_|(refine XC [1,3] [1] 4 ((pjT x.B3 []).length) (fun k0=>(pjT x.B3 []).all (Gw x.Af)=((pjT x.B3 []).drop k0).all (Gw x.Af)) ?_;intro k0 hk0 hi0)|(refine XL [1,3,4] [1] (fun k1 _=>[(6,.d (.lf (.int .i64 (k1:Int)))),(5,.d (.lf (.bool ((bhK x.Af (pjT x.B3 [])[k0] k1)))))]) (fun _ _=>[]) (x.Af.length) (fun _ _=>True) rU ?_;intro k1 hk1 s1 hi1;have hbe:=@Ie x.Af k1 (pjT x.B3 [])[k0];have hbn:=@WT x.Af k1 (pjT x.B3 [])[k0];replace H:=AI hbe (AI hbn H))|fail)
instance gInst (x:AJ):Ct cx 162 [.d (E4 x)] (x.sz≤134217728) (.d (.lf (.bool (instOk x)))):=by
 have jv:=@gPj_i;have jo:=@nG
 refine Xi func162 119 [.tmp 2] [93,112] [] AN (AI @instOk.eq_1<|AI @inst1.eq_1<|AI @inst2.eq_1<|AI @F4.eq_1<|AI @Ca<|AI @Bp<|@Ba) ?_;intro hp h M G H E
 have qMethod:=AX.sz_eq;have gMethod:=@Bm _ AX.sz;unfold szs at qMethod
 have hx:=x.sz_eq;unfold szs at hx
 have hsw:∀y∈x.Af,y.sz≤134217728:=fun y hy=>by have:=Ah A9.sz hy;omega
 replace H:=AI hsw H
 repeat' (first|exact true|(refine IN.mk ?_;intros)|(refine iTw ?_;refine T2 ?_ ?_<;>((try clear H);intro hb H)<;>try exact hb.elim)|(refine LF.mk ?_;exact LX)|refine BO.mk ?_ ?_|(apply iPJ;exact NPJ)|apply PXs.of|refine GN ?_|(refine XC [1] [1] 3 (x.AZ.length) (fun k0=>(x.AZ.any fun v=> !decide (0<occ v x.Ar))=(x.AZ.drop k0).any fun v=> !decide (0<occ v x.Ar)) ?_;intro k0 hk0 hi0)|(refine XL [1] [1] (fun k1 _=>[(5,.d (.lf (.int .i64 (k1:Int)))),(4,.d (.sl true .one (((mp AX.A6 x.Ap k1)).map (dS))))]) (fun _ _=>[]) (x.Ap.length) (fun k1 _=>x.Ap.any F4=(x.Ap.drop k1).any F4) rU ?_;intro k1 hk1 s1 hi1;have hml:=Bh AX.A6 hk1)|fail)
instance nC (x:A8):Ct cx 93 [.d (TY x)] (x.sz≤134217728) (.d (.lf (.bool (Ey x)))):=by
 refine Xi func93 63 [.tmp 2] [] [] AN (AI @Ey.eq_1<|AI @Ca<|@Bp) ?_;intro hp h M G H E
 have qTrait:=AS.sz_eq;have Ot:=@Bm _ AS.sz;unfold szs at qTrait
 have qDataType:=AF.sz_eq;have gDataType:=@Bm _ AF.sz;unfold szs at qDataType
 have qInstance:=AJ.sz_eq;have gInstance:=@Bm _ AJ.sz;unfold szs at qInstance
 have qFunction:=AL.sz_eq;have gFunction:=@Bm _ AL.sz;unfold szs at qFunction
 have hx:=x.sz_eq;unfold szs at hx
 repeat' (first|(refine IN.mk ?_;intros)|(refine iTw ?_;refine T2 ?_ ?_<;>((try clear H);intro hb H)<;>try exact hb.elim)|(refine LF.mk ?_;exact LX)|refine GN ?_|(refine XC [1] [1] 3 (x.Ai.length) (fun k0=>(x.Ai.any fun t=> !DB t)=(x.Ai.drop k0).any fun t=> !DB t) ?_;intro k0 hk0 hi0)|(refine XC [1] [1] 4 (x.AE.length) (fun k1=>(x.AE.any fun t=> !D2 t)=(x.AE.drop k1).any fun t=> !D2 t) ?_;intro k1 hk1 hi1)|(refine XC [1] [1] 5 (x.AO.length) (fun k2=>(x.AO.any fun t=> !instOk t)=(x.AO.drop k2).any fun t=> !instOk t) ?_;intro k2 hk2 hi2)|(refine XC [1] [1] 6 (x.Ac.length) (fun k3=>(x.Ac.any fun t=> !NY t)=(x.Ac.drop k3).any fun t=> !NY t) ?_;intro k3 hk3 hi3)|fail)
instance gPkg (x:A8):Ct cx 36 [.d (TY x)] (x.sz≤134217728) (.d (.lf (.bool (DR x)))):=by
 refine Xi func36 67 [.tmp 2] [] [] AN (AI @DR.eq_1<|AI @pk1.eq_1<|AI @pk2.eq_1<|AI @nT.eq_1<|AI @nD.eq_1<|@nF.eq_1) ?_;intro hp h M G H E
 have hx:=x.sz_eq;unfold szs at hx
 have hw1:=BF (n:=(x.Ai.length:Int)+x.AE.length) (by omega) (by omega);have hw2:=BF (n:=(x.Ai.length:Int)+x.AE.length+x.AO.length) (by omega) (by omega);have hw3:=BF (n:=(x.Ai.length:Int)+x.AE.length+x.AO.length+x.Ac.length) (by omega) (by omega);replace H:=AI hw1 (AI hw2 (AI hw3 H))
 all_goals exact GA1
instance jt (w:A1) (s:ByteArray):Ct cx 37 [.d (As w),.d (.lf (.string (s)))] (w.sz≤134217728) (.d (.lf (.int .i64 (pIx w s)))):=⟨fk1 func37,fun hp h=>by have q:=Q4 w s hp h;first|exact q|simpa using q⟩
instance sDepV (w:A1):Ct cx 17 [.d (As w)] (w.sz≤134217728) (.d (.lf (.bool (Nw DR w)))):=by
 refine Xi func17 51 [.tmp 2] [17] [] AN (AI @Nv<|AI @ei<|AI @dpD.eq_1<|AI @Aw<|AI @Aq<|AI @Dm<|AI @Bb<|AI @BK<|AI @BX<|@BW) ?_;intro hp h M G H E
 have qProgram:=A1.sz_eq;have gProgram:=@Bm _ A1.sz;unfold szs at qProgram
 have qPackage:=A8.sz_eq;have gPackage:=@Bm _ A8.sz;unfold szs at qPackage
 repeat' (first|exact true|(refine IN.mk ?_;intros)|(refine iTw ?_;refine T2 ?_ ?_<;>((try clear H);intro hb H)<;>try exact hb.elim)|(refine LF.mk ?_;exact LX)|refine BO.mk ?_ ?_|(apply iPJ;exact NPJ)|apply PXs.of|refine GN ?_|(refine XC [1] [1] 3 (w.A2.length) (fun k0=>fs (bad (dpF w)) 0 w.A2=fs (bad (dpF w)) k0 (w.A2.drop k0)) ?_;intro k0 hk0 hi0)|(refine XC [1,3,4] [1,4] 5 (w.A2[k0].BZ.length) (fun k1=>w.A2[k0].BZ.all (dpD w k0)=(w.A2[k0].BZ.drop k1).all (dpD w k0)) ?_;intro k1 hk1 hi1)|fail)
theorem gD (l:List A8):uq l=(dst (fa nT l) && dst (fa nD l) && dst (fa C7 l) && dst (fa nF l)):=rfl
instance sNmU (w:A1):Ct cx 19 [.d (As w)] (w.sz≤134217728) (.d (.lf (.bool (uq w.A2)))):=by
 refine Xi func19 56 [.tmp 2] [30,31,33,34,36,37,39,40] [] AN (AI @gD<|@Gy) ?_;intro hp h M G H E
 have qProgram:=A1.sz_eq;have gProgram:=@Bm _ A1.sz;unfold szs at qProgram
 have qPackage:=A8.sz_eq;have gPackage:=@Bm _ A8.sz;unfold szs at qPackage
 have hwz:=w.sz_eq;unfold szs at hwz
 repeat' (first|exact true|(refine IN.mk ?_;intros)|(refine iTw ?_;refine T2 ?_ ?_<;>((try clear H);intro hb H)<;>try (first|exact hb.elim|(exfalso;omega)))|(refine LF.mk ?_;exact LX)|refine BO.mk ?_ ?_|(apply iPJ;exact NPJ)|apply PXs.of|refine GN ?_|(refine XL [1] [1] (fun k0 _=>[(7,.d (.lf (.int .i64 (k0:Int)))),(3,.d (.sl true .one (((fl nT w.A2 k0)).map (dS)))),(4,.d (.sl true .one (((fl nD w.A2 k0)).map (dS)))),(5,.d (.sl true .one (((fl C7 w.A2 k0)).map (dS)))),(6,.d (.sl true .one (((fl nF w.A2 k0)).map (dS))))]) (fun _ _=>[]) (w.A2.length) (fun _ _=>True) rU ?_;intro k0 hk0 s0 hi0;have hl0:(fl nT w.A2 k0).length≤_:=DM QQ w.A2 k0;have hn0:w.A2.length≤k0→fl nT w.A2 k0=fa nT w.A2:=EX;have hl1:(fl nD w.A2 k0).length≤_:=DM QS w.A2 k0;have hn1:w.A2.length≤k0→fl nD w.A2 k0=fa nD w.A2:=EX;have hl2:(fl C7 w.A2 k0).length≤_:=DM Nx w.A2 k0;have hn2:w.A2.length≤k0→fl C7 w.A2 k0=fa C7 w.A2:=EX;have hl3:(fl nF w.A2 k0).length≤_:=DM QR w.A2 k0;have hn3:w.A2.length≤k0→fl nF w.A2 k0=fa nF w.A2:=EX;by_cases hkk:k0<w.A2.length;rotate_left;have he0:=hn0 (by omega);rw[he0] at hl0;replace H:=AI he0 H;have he1:=hn1 (by omega);rw[he1] at hl1;replace H:=AI he1 H;have he2:=hn2 (by omega);rw[he2] at hl2;replace H:=AI he2 H;have he3:=hn3 (by omega);rw[he3] at hl3;replace H:=AI he3 H;rotate_left;have hm0:(fl nT w.A2 (k0+1)).length≤_:=DM QQ w.A2 (k0+1);have hx0:=G5 (f:=nT) hkk;rw[hx0,List.length_append] at hm0;replace H:=AI hx0 H;have hm1:(fl nD w.A2 (k0+1)).length≤_:=DM QS w.A2 (k0+1);have hx1:=G5 (f:=nD) hkk;rw[hx1,List.length_append] at hm1;replace H:=AI hx1 H;have hm2:(fl C7 w.A2 (k0+1)).length≤_:=DM Nx w.A2 (k0+1);have hx2:=G5 (f:=C7) hkk;rw[hx2,List.length_append] at hm2;replace H:=AI hx2 H;have hm3:(fl nF w.A2 (k0+1)).length≤_:=DM QR w.A2 (k0+1);have hx3:=G5 (f:=nF) hkk;rw[hx3,List.length_append] at hm3;replace H:=AI hx3 H)|fail)
instance tc1 (w:A1) (v:List Nat) (g:AC):Ct cx 53 [.el (.st [As w,.sl false .one (v.map dN)]),.el (K6 g)] (w.sz≤134217728) (.d (.lf (.int .i64 (fc (ckT w v) g.Al)))):=by
 refine Xi func53 7 [.tmp 2] [] [] AN trivial ?_;intro hp h M G H E
 all_goals exact GA0
instance tc2 (w:A1) (v:List Nat) (g:AC):Ct cx 55 [.el (.st [As w,.sl false .one (v.map dN)]),.el (K6 g)] (w.sz≤134217728) (.d (.lf (.int .i64 (ckT w v g.B8)))):=by
 refine Xi func55 7 [.tmp 2] [] [] AN trivial ?_;intro hp h M G H E
 all_goals exact GA0
instance tc3 (w:A1) (v:List Nat) (g:AC):Ct cx 57 [.el (K6 g),.el (.st [As w,.sl false .one (v.map dN)])] (w.sz≤134217728) (.d (.lf (.int .i64 (if g.BR then ckE w v g.Aa else 0)))):=by
 refine Xi func57 10 [.tmp 2] [] [] AN trivial ?_;intro hp h M G H E
 all_goals exact GA0
instance iTrC (w:A1) (v:List Nat) (t:AS):Ct cx 24 [.d (.st [As w,.sl false .one (v.map dN)]),.d (K5 t)] (w.sz≤134217728) (.d (.lf (.int .i64 (FA w v t)))):=by
 refine Xi func24 46 [.tmp 4] [36] [] AN (AI @Jm<|AI @suF.eq_1<|AI @sgF.eq_1<|AI @BN<|AI @Ax<|@or0.eq_1) ?_;intro hp h M G H E
 repeat' (first|(refine W.fzR (id:=1) 2 2 [3] [3] ?_)|(refine W.fzR (id:=1) 3 3 [2] [] ?_)|(refine W.fzR (id:=13) 10 10 [2,31,32,33] [] ?_)|refine GF ?_|(refine IN.mk ?_;intros)|(refine iTw ?_;refine T2 ?_ ?_<;>((try clear H);intro hb H)<;>try exact hb.elim)|(refine LF.mk ?_;exact LX)|refine GN ?_|(refine XC [2,3,13,14] [2,3] 15 (t.Ao.length) (fun k0=>fc (suF w v) t.Ao=fc (suF w v) (t.Ao.drop k0)) ?_;intro k0 hk0 hi0)|(refine XC [2,31,32] [2] 33 (t.AU.length) (fun k1=>FA w v t=fc (sgF w v) (t.AU.drop k1)) ?_;intro k1 hk1 hi1)|fail)
instance iDaC (w:A1) (v:List Nat) (d:AF):Ct cx 25 [.d (.st [As w,.sl false .one (v.map dN)]),.d (Rl d)] (w.sz≤134217728) (.d (.lf (.int .i64 (Fl w v d)))):=by
 refine Xi func25 23 [.tmp 4] [14] [] AN (AI @Fl.eq_1<|AI @BN<|@Ax) ?_;intro hp h M G H E
 repeat' (first|(refine IN.mk ?_;intros)|(refine iTw ?_;refine T2 ?_ ?_<;>((try clear H);intro hb H)<;>try exact hb.elim)|(refine LF.mk ?_;exact LX)|refine GN ?_|(refine XC [2,9,10] [2] 11 (d.A4.length) (fun k0=>Fl w v d=fc (fun c:AA=>fc (ckT w v) c.At) (d.A4.drop k0)) ?_;intro k0 hk0 hi0)|fail)
instance ic1 (w:A1) (v:List Nat) (x:AJ):Ct cx 59 [.el (.st [As w,.sl false .one (v.map dN)]),.el (E4 x)] (w.sz≤134217728) (.d (.lf (.int .i64 (ckT w v x.Ar)))):=by
 refine Xi func59 7 [.tmp 2] [] [] AN trivial ?_;intro hp h M G H E
 all_goals exact GA0
instance ic2 (w:A1) (v:List Nat) (x:AJ):Ct cx 60 [.el (.st [As w,.sl false .one (v.map dN)]),.el (E4 x)] (w.sz≤134217728) (.d (.lf (.int .i64 (fc (ckB w v) x.Af)))):=by
 refine Xi func60 7 [.tmp 2] [] [] AN trivial ?_;intro hp h M G H E
 all_goals exact GA0
theorem ic3 (w:A1) (v:List Nat) (x:AJ) (t:AS) (hp:w.sz≤134217728) (h:HP):CS cx.P 62 [.el (x.dd false),.el (t.dd false),.el (.st [w.dd false,.sl false .one (v.map dN)])] h (.d (.lf (.int .i64 (if x.BS=t.B3 then (if x.BS then ckT w v x.B3 else 0) else 4)))) h:=by
 refine Xe func62 rfl 15 [.tmp 3] ?_
 let M:List Nat:=[]
 let G:List Nat:=[]
 have H:=AN
 all_goals exact GA4
theorem ic4  (x:AJ) (t:AS) (hp:t.sz≤134217728) (h:HP):CS cx.P 63 [.el (t.dd false),.el (x.dd false)] h (.d (.lf (.int .i64 (if Cv t x then 0 else 6)))) h:=by
 refine Xe func63 rfl 6 [.tmp 2] ?_
 let M:List Nat:=[]
 let G:List Nat:=[]
 have H:=AN
 all_goals exact GA4
instance ic5 (w:A1) (v:List Nat) (x:AJ):Ct cx 65 [.el (E4 x),.el (.st [As w,.sl false .one (v.map dN)])] (w.sz≤134217728) (.d (.lf (.int .i64 (fc (meF w v) x.Ap)))):=by
 refine Xi func65 21 [.tmp 2] [12] [] AN (AI @meF.eq_1<|AI @BN<|@Ax) ?_;intro hp h M G H E
 repeat' (first|(refine IN.mk ?_;intros)|(refine iTw ?_;refine T2 ?_ ?_<;>((try clear H);intro hb H)<;>try exact hb.elim)|(refine LF.mk ?_;exact LX)|refine GN ?_|(refine XC [1,7,8] [] 9 (x.Ap.length) (fun k0=>fc (meF w v) x.Ap=fc (meF w v) (x.Ap.drop k0)) ?_;intro k0 hk0 hi0)|fail)
instance ic3_i (w:A1) (v:List Nat) (x:AJ) (t:AS) (b:Bool):Ct cx 62 [.el (E4 x),.el (.st [.lf (.string (t.A6)),.sl false .one ((t.Ao).map (dS)),.lf (.bool b),.lf (.bool (t.B3)),.sl false CM ((t.AU).map (AC.dd false))]),.el (.st [As w,.sl false .one (v.map dN)])] (w.sz≤134217728) (.d (.lf (.int .i64 (if x.BS=t.B3 then (if x.BS then ckT w v x.B3 else 0) else 4)))):=⟨fk1 func62,fun hp h=>by have q:=ic3 w v x { t with CP:=b } hp h;first|exact q|simpa using q⟩
instance ic4_i (x:AJ) (t:AS) (b:Bool):Ct cx 63 [.el (.st [.lf (.string (t.A6)),.sl false .one ((t.Ao).map (dS)),.lf (.bool b),.lf (.bool (t.B3)),.sl false CM ((t.AU).map (AC.dd false))]),.el (E4 x)] (t.sz≤134217728) (.d (.lf (.int .i64 (if Cv t x then 0 else 6)))):=⟨fk1 func63,fun hp h=>by have q:=ic4 x { t with CP:=b } hp h;rw[show Cv { t with CP:=b } x=Cv t x from rfl] at q;simpa using q⟩
instance iInC (w:A1) (v:List Nat) (x:AJ):Ct cx 26 [.d (.st [As w,.sl false .one (v.map dN)]),.d (E4 x)] (w.sz≤134217728) (.d (.lf (.int .i64 (Hq w v x)))):=by
 refine Xi func26 25 [.tmp 4] [] [] AN (AI @Et<|@or0.eq_1) ?_;intro hp h M G H E
 have htz:=ET w x.AK
 repeat' (first|(refine W.fzR (id:=1) 2 2 [3] [3] ?_)|(refine W.fzR (id:=1) 3 3 [2] [] ?_)|(refine W.fzR (id:=6) 5 5 [2,3] [] ?_)|refine GF ?_|(refine IN.mk ?_;intros)|(refine iTw ?_;refine T2 ?_ ?_<;>((try clear H);intro hb H)<;>try exact hb.elim)|(refine LF.mk ?_;exact LX)|refine GN ?_)
theorem Vd {α β:Type} (f:β→Int) (g:α→β):∀l:List α,fc f (l.map g)=fc (fun x=>f (g x)) l
  |[]=>rfl
  |x::l=>by simp only[List.map_cons,fc,Vd f g l]
theorem jG (w:A1) (v:List Nat) (l:List AW):fc (ckT w v) (ptL l)=fc (paF w v) l:=Vd _ _ l
instance iPTy (l:List AW):Ct cx 68 [.d (.sl false CX ((l).map (AW.dd false)))] (l.length≤134217728) (.d (.sl true Ag (((ptL l)).map (A0.dd false)))):=by
 refine Xi func68 20 [.tmp 2] [12,13,15,19] [] AN trivial ?_;intro hp h M G H E
 repeat' (first|(refine IN.mk ?_;intros)|(refine iTw ?_;refine T2 ?_ ?_<;>((try clear H);intro hb H)<;>try exact hb.elim)|(refine LF.mk ?_;exact LX)|refine GN ?_|(refine XL [7,8] [] (fun k0 _=>[(9,.d (.lf (.int .i64 (k0:Int)))),(3,.d (.sl true Ag (((mp AW.AM l k0)).map (A0.dd false))))]) (fun _ _=>[]) (l.length) (fun _ _=>True) rU ?_;intro k0 hk0 s0 hi0;have hml:=Bh AW.AM hk0;have hme:l.length≤k0→mp AW.AM l k0=ptL l:=YA)|fail)
instance fc1 (w:A1) (v:List Nat) (f:AL):Ct cx 66 [.el (.st [As w,.sl false .one (v.map dN)]),.el (Mg f)] (w.sz≤134217728) (.d (.lf (.int .i64 (fc (ckB w v) f.Af)))):=by
 refine Xi func66 7 [.tmp 2] [] [] AN trivial ?_;intro hp h M G H E
 all_goals exact GA0
instance fc2 (w:A1) (v:List Nat) (f:AL):Ct cx 67 [.el (.st [As w,.sl false .one (v.map dN)]),.el (Mg f)] (w.sz≤134217728∧f.Al.length≤134217728) (.d (.lf (.int .i64 (fc (paF w v) f.Al)))):=by
 refine Xi func67 8 [.tmp 2] [] [] AN (@jG) ?_;intro hp h M G H E
 all_goals exact GA0
instance fc3 (w:A1) (v:List Nat) (f:AL):Ct cx 69 [.el (.st [As w,.sl false .one (v.map dN)]),.el (Mg f)] (w.sz≤134217728) (.d (.lf (.int .i64 (ckT w v f.B8)))):=by
 refine Xi func69 7 [.tmp 2] [] [] AN trivial ?_;intro hp h M G H E
 all_goals exact GA0
instance fc4 (w:A1) (v:List Nat) (f:AL):Ct cx 70 [.el (.st [As w,.sl false .one (v.map dN)]),.el (Mg f)] (w.sz≤134217728) (.d (.lf (.int .i64 (ckE w v f.Aa)))):=by
 refine Xi func70 7 [.tmp 2] [] [] AN trivial ?_;intro hp h M G H E
 all_goals exact GA0
instance iFnC (w:A1) (v:List Nat) (f:AL):Ct cx 27 [.d (.st [As w,.sl false .one (v.map dN)]),.d (Mg f)] (w.sz≤134217728∧f.Al.length≤134217728) (.d (.lf (.int .i64 (So w v f)))):=by
 refine Xi func27 11 [.tmp 4] [] [] AN (AI @M4<|@or0.eq_1) ?_;intro hp h M G H E
 repeat' (first|(refine W.fzR (id:=1) 2 2 [3] [3] ?_)|(refine W.fzR (id:=1) 3 3 [2] [] ?_)|refine GF ?_|(refine IN.mk ?_;intros)|(refine iTw ?_;refine T2 ?_ ?_<;>((try clear H);intro hb H)<;>try exact hb.elim)|(refine LF.mk ?_;exact LX)|refine GN ?_)
