/- Part 35. No condition. -/
import Derived.Test.YtgihkamifpmfdaaGreatDoorM33
import Derived.Test.YtgihkamifpmfdaaGreatDoorM34
namespace Go.Proofs.YtgihkamifpmfdaaGreatDoor
open Go.RowKit Tryz
set_option linter.unusedVariables false
set_option maxRecDepth 10000
set_option linter.unusedSimpArgs false
set_option maxHeartbeats 4000000
instance sMtO (k:Int) (n:BA') (l:List A0) (k2:Int) (n2:BA') (l2:List A0):Ct cx 413 [.d (.sl false Ai [(uK k n l)]),.d (.sl false Ai [(uK k2 n2 l2)])] (A0.wd (⟨k2,n2,l2⟩:A0)∧AR (⟨k,n,l⟩:A0)≤134217728) (.tp [.d (.sl true BB ((((mtc (⟨k,n,l⟩:A0) (⟨k2,n2,l2⟩:A0)).getD [])).map (A6.dd true))),dB' ((mtc (⟨k,n,l⟩:A0) (⟨k2,n2,l2⟩:A0)).isSome)]):=⟨fk1 func413,fun hp h=>by have q:=(eN [(⟨k,n,l⟩:A0)] [(⟨k2,n2,l2⟩:A0)]).cs ⟨by simpa using hp.1,by simpa[Ag] using hp.2⟩ h;rw[L0] at q;simpa using q⟩
instance sMtc (k:Int) (n:BA') (l:List A0) (k2:Int) (n2:BA') (l2:List A0):Ct cx 366 [.d (uK k n l),.d (uK k2 n2 l2)] (A0.wd (⟨k2,n2,l2⟩:A0)∧AR (⟨k,n,l⟩:A0)≤134217728) (.tp [.d (.sl true BB ((((mtc (⟨k,n,l⟩:A0) (⟨k2,n2,l2⟩:A0)).getD [])).map (A6.dd true))),dB' ((mtc (⟨k,n,l⟩:A0) (⟨k2,n2,l2⟩:A0)).isSome)]):=by
 refine Xi func366 13 [.tmp 4,.tmp 5] [11] [] AN trivial ?_;intro hp h M G H E
 have hp1:=hp.1;replace H:=AI hp1 H
 all_goals exact GA2
instance sMtB (k:Int) (n:BA') (l:List A0) (k2:Int) (n2:BA') (l2:List A0):Ct cx 296 [.d (uK k n l),.d (uK k2 n2 l2)] (A0.wd (⟨k2,n2,l2⟩:A0)∧AR (⟨k,n,l⟩:A0)≤134217728) (dB' (mtB (⟨k,n,l⟩:A0) (⟨k2,n2,l2⟩:A0))):=by
 refine Xi func296 14 [.tmp 4] [] [] AN (@Nh) ?_;intro hp h M G H E
 have hp1:=hp.1;replace H:=AI hp1 H
 all_goals exact GA0
instance sAls (k:Int) (n:BA') (l:List A0) (k2:Int) (n2:BA') (l2:List A0):Ct cx 203 [.d (uK k n l),.d (uK k2 n2 l2)] (A0.wd (⟨k,n,l⟩:A0)∧AR (⟨k2,n2,l2⟩:A0)≤134217728) (dB' (mtB (⟨k2,n2,l2⟩:A0) (⟨k,n,l⟩:A0))):=by
 refine Xi func203 8 [.tmp 4] [] [] AN trivial ?_;intro hp h M G H E
 have hp1:=hp.1;replace H:=AI hp1 H
 all_goals exact GA0
instance sMore (k:Int) (n:BA') (l:List A0) (k2:Int) (n2:BA') (l2:List A0):Ct cx 134 [.d (uK k n l),.d (uK k2 n2 l2)] (A0.sz (⟨k,n,l⟩:A0)≤134217727∧A0.sz (⟨k2,n2,l2⟩:A0)≤134217727) (dB' (Gw (⟨k,n,l⟩:A0) (⟨k2,n2,l2⟩:A0))):=by
 refine Xi func134 14 [.tmp 4] [] [] AN (@Gw.eq_1) ?_;intro hp h M G H E
 have hp1:=CJ (Nat.le_trans hp.1 (by decide));have hp2:=CJ (Nat.le_trans hp.2 (by decide));have hs1:AR (⟨k,n,l⟩:A0)≤134217728:=Nat.le_trans (Cn _) (by have:=hp.1;omega);have hs2:AR (⟨k2,n2,l2⟩:A0)≤134217728:=Nat.le_trans (Cn _) (by have:=hp.2;omega);replace H:=AI hp1 (AI hp2 H)
 all_goals exact GA1
instance nM (a b:List BA'):Ct cx 292 [.d (.sl false .one ((a).map (dS))),.d (.sl false .one ((b).map (dS)))] (a.length+b.length≤536870912) (.d (.sl true .one (((unN a b)).map (dS)))):=by
 refine Xi func292 50 [.tmp 4] [22,42,49] [] AN (AI @unN.eq_1<|@Mw) ?_;intro hp h M G H E
 repeat' (first|(refine IN.mk ?_;intros)|(refine iTw ?_;refine T2 ?_ ?_<;>((try clear H);intro hb H)<;>try exact hb.elim)|(refine LF.mk ?_;exact LX)|refine GN ?_|(refine XL [0,1] [] (fun k0 _=>[(6,dI' k0),(5,.d (.sl true .one (((unK [] a k0)).map (dS))))]) (fun _ _=>[]) (a.length) (fun _ _=>True) rU ?_;intro k0 hk0 s0 hi0;have hul:=La [] a k0;have hue:a.length≤k0→unK [] a k0=unO [] a:=fun h=>Lb h;have hun:∀h:k0<a.length,unK [] a (k0+1)=if B7 (unK [] a k0) a[k0]=true then unK [] a k0 else unK [] a k0++[a[k0]]:=fun h=>LY h)|(refine XL [1] [] (fun k1 _=>[(7,dI' k1),(5,.d (.sl true .one (((unK (unO [] a) b k1)).map (dS))))]) (fun _ _=>[]) (b.length) (fun _ _=>True) rU ?_;intro k1 hk1 s1 hi1;have hul:=La (unO [] a) b k1;have huo:=GV a [];have hue:b.length≤k1→unK (unO [] a) b k1=unO (unO [] a) b:=fun h=>Lb h;have hun:∀h:k1<b.length,unK (unO [] a) b (k1+1)=if B7 (unK (unO [] a) b k1) b[k1]=true then unK (unO [] a) b k1 else unK (unO [] a) b k1++[b[k1]]:=fun h=>LY h)|fail)
instance nV (s:BA'):Ct cx 293 [dS' s] (True) (.d (((⟨1,s,[]⟩:A0)).dd true)):=by
 refine Xi func293 5 [.cell 2 85] [] [] AN trivial ?_;intro hp h M G H E
 all_goals exact GA0
theorem gQ (l:List BA'):dst l=(List.range l.length).all (FG l):=rfl
instance gDst (l:List BA'):Ct cx 60 [.d (.sl false .one ((l).map (dS)))] (True) (dB' (dst l)):=by
 refine Xi func60 18 [.tmp 2] [] [] AN (AI @gQ<|AI @Bc<|AI @BM<|@HE) ?_;intro hp h M G H E
 repeat' (first|(refine IN.mk ?_;intros)|(refine iTw ?_;refine T2 ?_ ?_<;>((try clear H);intro hb H)<;>try exact hb.elim)|(refine LF.mk ?_;exact LX)|refine GN ?_|(refine XC [0] [] 3 (l.length) (fun k0=>dst l=((List.range l.length).drop k0).all (FG l)) ?_;intro k0 hk0 hi0)|fail)
instance kj (l:List BA') (most:Int):Ct cx 123 [.d (.sl false .one ((l).map (dS))),dI' most] (True) (dB' (CV l most)):=by
 refine Xi func123 17 [.tmp 4] [] [] AN (@CV.eq_1) ?_;intro hp h M G H E
 all_goals exact GA1
instance gTv_i (k:Int) (n:BA') (l:List A0):Ct cx 202 [.d (uK k n l)] (A0.sz ⟨k,n,l⟩≤134217728) (.d (.sl true .one (((tv ⟨k,n,l⟩)).map (dS)))):=⟨fk1 func202,fun hp h=>by have q:=c8 ⟨k,n,l⟩ hp h;first|exact q|simpa using q⟩
instance gVT_i (k:Int) (n:BA') (l:List A0):Ct cx 356 [.d (uK k n l)] (A0.sz ⟨k,n,l⟩≤134217728) (dB' (Bx ⟨k,n,l⟩)):=⟨fk1 func356,fun hp h=>by have q:=Kt ⟨k,n,l⟩ hp h;first|exact q|simpa using q⟩
instance gPj_i (k:Int) (n:BA') (l:List A0):Ct cx 279 [.d (uK k n l)] (A0.sz ⟨k,n,l⟩≤134217728) (dB' (Bq ⟨k,n,l⟩)):=⟨fk1 func279,fun hp h=>by have q:=c9 ⟨k,n,l⟩ hp h;first|exact q|simpa using q⟩
instance lx (k:Int) (n:BA') (l:List A0):Ct cx 282 [.d (uK k n l)] (True) (dB' (CI ⟨k,n,l⟩)):=⟨fk1 func282,fun hp h=>by have q:=L4 ⟨k,n,l⟩ h;first|exact q|simpa using q⟩
instance pJ (v:BA') (k:Int) (n:BA') (l:List A0):Ct cx 281 [dS' v,.d (uK k n l)] (A0.sz ⟨k,n,l⟩≤134217728) (dB' (decide (0<occ v ⟨k,n,l⟩))):=⟨fk1 func281,fun hp h=>by have q:=Ku v ⟨k,n,l⟩ hp h;first|exact q|simpa using q⟩
instance gFv_i (e:AG):Ct cx 358 [.d (IM e)] (e.sz≤134217728) (.d (.sl true .one (((fv e)).map (dS)))):=⟨fk1 func358,fun hp h=>by have q:=js e hp h;first|exact q|simpa using q⟩
instance gVX_i (e:AG):Ct cx 359 [.d (IM e)] (e.sz≤134217728) (dB' (exV e)):=⟨fk1 func359,fun hp h=>by have q:=Sb e hp h;first|exact q|simpa using q⟩
instance lz (e:AG):Ct cx 355 [.d (IM e)] (True) (dB' (Dl e)):=⟨fk1 func355,fun hp h=>by have q:=Sv e h;first|exact q|simpa using q⟩
instance RP (k:Int) (n:BA') (l:List A0) (vars:List BA'):Ct cx 278 [.d (uK k n l),.d (.sl false .one ((vars).map (dS)))] (A0.sz ⟨k,n,l⟩≤134217728) (dB' (Bl ⟨k,n,l⟩ vars)):=by
 have j1:=@gTv_i
 refine Xi func278 24 [.tmp 4] [] [] AN (AI @Bl.eq_1<|AI @sub.eq_1<|AI @Cc<|@Bp) ?_;intro hp h M G H E
 repeat' (first|(refine IN.mk ?_;intros)|(refine iTw ?_;refine T2 ?_ ?_<;>((try clear H);intro hb H)<;>try exact hb.elim)|(refine LF.mk ?_;exact LX)|refine GN ?_|(refine XC [1,2,5] [2] 6 ((tv ⟨k,n,l⟩).length) (fun k0=>sub (tv ⟨k,n,l⟩) vars= !(((tv ⟨k,n,l⟩).drop k0).any fun s=> !B7 vars s)) ?_;intro k0 hk0 hi0)|fail)
instance W5 (l:List A0) (vars:List BA'):Ct cx 277 [.d (.sl false Ai ((l).map (A0.dd false))),.d (.sl false .one ((vars).map (dS)))] (∀y∈l,y.sz≤134217728) (dB' (En l vars)):=by
 refine Xi func277 19 [.tmp 4] [] [] AN (AI @En.eq_1<|AI @Cc<|@Bp) ?_;intro hp h M G H E
 have hpp:=fun k (h:k<l.length)=>hp _ (gm h);replace H:=AI hpp H
 repeat' (first|(refine IN.mk ?_;intros)|(refine iTw ?_;refine T2 ?_ ?_<;>((try clear H);intro hb H)<;>try exact hb.elim)|(refine LF.mk ?_;exact LX)|refine GN ?_|(refine XC [0,1] [] 5 (l.length) (fun k0=>En l vars= !((l.drop k0).any fun y=> !Bl y vars)) ?_;intro k0 hk0 hi0)|fail)
instance mA (e:AG) (vars:List BA'):Ct cx 283 [.d (IM e),.d (.sl false .one ((vars).map (dS)))] (e.sz≤134217728) (dB' (body e vars)):=by
 refine Xi func283 24 [.tmp 4] [] [] AN (AI @body.eq_1<|AI @sub.eq_1<|AI @Cc<|@Bp) ?_;intro hp h M G H E
 repeat' (first|(refine IN.mk ?_;intros)|(refine iTw ?_;refine T2 ?_ ?_<;>((try clear H);intro hb H)<;>try exact hb.elim)|(refine LF.mk ?_;exact LX)|refine GN ?_|(refine XC [1,2,5] [2] 6 ((fv e).length) (fun k0=>sub (fv e) vars= !(((fv e).drop k0).any fun s=> !B7 vars s)) ?_;intro k0 hk0 hi0)|fail)
instance gVB (b:A9):Ct cx 357 [.d (Du b)] (b.AM.sz≤134217728) (dB' (BV b.AK && Bx b.AM)):=by
 refine Xi func357 11 [.tmp 2] [] [] AN trivial ?_;intro hp h M G H E
 all_goals exact GA1
instance km (l:List A9) (vars:List BA'):Ct cx 280 [.d (.sl false BC ((l).map (A9.dd false))),.d (.sl false .one ((vars).map (dS)))] (∀y∈l,y.sz≤134217728) (dB' (KO l vars)):=by
 have j1:=@gPj_i
 refine Xi func280 39 [.tmp 4] [] [] AN (AI @KO.eq_1<|AI @Eb.eq_1<|AI @Cc<|@Bp) ?_;intro hp h M G H E
 have hpp:∀k (h:k<l.length),(l[k]).AM.sz≤134217728:=fun k h=>by have:=hp _ (gm h);have:=(l[k]).sz_eq;unfold szs at this;omega
 replace H:=AI hpp H
 repeat' (first|exact true|(refine IN.mk ?_;intros)|(refine iTw ?_;refine T2 ?_ ?_<;>((try clear H);intro hb H)<;>try exact hb.elim)|(refine LF.mk ?_;exact LX)|refine BO.mk ?_ ?_|(apply iPJ;exact NPJ)|apply PXs.of|refine GN ?_|(refine XC [0,1] [] 5 (l.length) (fun k0=>(l.any fun b=>Eb b vars)=(l.drop k0).any fun b=>Eb b vars) ?_;intro k0 hk0 hi0)|fail)
instance np (k:Int) (n:BA') (l:List A0) (a:List BA'):Ct cx 201 [.d (uK k n l),.d (.sl true .one ((a).map (dS)))] (A0.sz (⟨k,n,l⟩:A0)≤134217727∧a.length≤134217728) (.d (((ap (apR a (tv (⟨k,n,l⟩:A0))) (⟨k,n,l⟩:A0))).dd true)):=by
 have j1:=@sTv_i
 refine Xi func201 56 [.cell 4 85] [39,43] [] AN (AI @apR.eq_1<|AI @LM<|AI @LL<|@Mh) ?_;intro hp h M G H E
 have hsz:A0.sz (⟨k,n,l⟩:A0)≤134217728:=Nat.le_trans hp.1 (by decide);have hw0:=CJ hsz;have hl0:=N5 (⟨k,n,l⟩:A0);have hwa:=@Pe a (unN a (tv ⟨k,n,l⟩)) (tv ⟨k,n,l⟩);have hzc:=Pj;have hab:a.length+(tv ⟨k,n,l⟩).length≤536870912:=(by have:=hp.1;have:=hp.2;omega);replace H:=AI hab (AI hsz (AI hw0 (AI hwa (AI hzc H))))
 repeat' (first|(refine IN.mk ?_;intros)|(refine iTw ?_;refine T2 ?_ ?_<;>((try clear H);intro hb H)<;>try (first|exact hb.elim|(exfalso;omega)))|(refine LF.mk ?_;exact LX)|refine GN ?_|(refine XL [1,2,4,5] [2,4] (fun k0 _=>[(8,dI' k0),(7,.d (.sl true BB (((apK a (unN a (tv ⟨k,n,l⟩)) (tv ⟨k,n,l⟩) k0).2).map (A6.dd true)))),(6,.d (.sl true .one (((apK a (unN a (tv ⟨k,n,l⟩)) (tv ⟨k,n,l⟩) k0).1).map (dS))))]) (fun _ _=>[]) ((tv ⟨k,n,l⟩).length) (fun _ _=>True) rU ?_;intro k0 hk0 s0 hi0;by_cases hkk:k0<(tv ⟨k,n,l⟩).length;rotate_left;have hke:=@S6 a (tv ⟨k,n,l⟩) k0 (by omega);replace H:=AI hke H;rotate_left;have hul:=Px a (tv ⟨k,n,l⟩);have hal:=@S5 a (unN a (tv ⟨k,n,l⟩)) (tv ⟨k,n,l⟩) k0;have hvs:=bc (x:=(⟨k,n,l⟩:A0)) hp.1 hkk;have hno:=@Xq a (unN a (tv ⟨k,n,l⟩)) (tv ⟨k,n,l⟩) k0 hkk;have hye:=@S4 a (unN a (tv ⟨k,n,l⟩)) (tv ⟨k,n,l⟩) k0 hkk;replace H:=AI hno (AI hye H))|(refine XL [1,2,4,5,6,7,8] [2,4] (fun k1 _=>[(9,dS' ((zit k1 (zsf (tv ⟨k,n,l⟩)[k0]))))]) (fun _ _=>[]) (zN (apK a (unN a (tv ⟨k,n,l⟩)) (tv ⟨k,n,l⟩) k0).1 (zsf (tv ⟨k,n,l⟩)[k0])) (fun _ _=>True) rU ?_;intro k1 hk1 s1 hi1;have hzs:=FP k1 (zsf (tv ⟨k,n,l⟩)[k0]);by_cases hkz:k1<zN (apK a (unN a (tv ⟨k,n,l⟩)) (tv ⟨k,n,l⟩) k0).1 (zsf (tv ⟨k,n,l⟩)[k0]);rotate_left;have hze:=@Pk (apK a (unN a (tv ⟨k,n,l⟩)) (tv ⟨k,n,l⟩) k0).1 (zsf (tv ⟨k,n,l⟩)[k0]) k1 (by omega);have hzn:=W7 (apK a (unN a (tv ⟨k,n,l⟩)) (tv ⟨k,n,l⟩) k0).1 (zsf (tv ⟨k,n,l⟩)[k0]);replace H:=AI hze (AI hzn H);rotate_left;have hzl:=Mi hkz;have hzx:=Te k1 (zsf (tv ⟨k,n,l⟩)[k0]);have hzb:(zit k1 (zsf (tv ⟨k,n,l⟩)[k0])).size+1≤9223372036854775807:=(by have h1:=bS (apK a (unN a (tv ⟨k,n,l⟩)) (tv ⟨k,n,l⟩) k0).1 (zsf (tv ⟨k,n,l⟩)[k0]);have h2:(zsf (tv ⟨k,n,l⟩)[k0]).size=(tv ⟨k,n,l⟩)[k0].size+1:=(FP 1 _);have h3:=hp.1;have h4:=hp.2;omega);replace H:=AI hzl (AI hzx (AI hzb H)))|fail)
theorem QS (U:List BA') (N:Nat) (ii:∀(k:Int) (n:BA') (l:List A0) (k2:Int) (n2:BA') (l2:List A0) (s:List A6),Ct cx 412 [.d (uK k n l),.d (uK k2 n2 l2),.d (.sl true BB ((s).map (A6.dd true)))] (UI U s∧UT U (⟨k,n,l⟩:A0)∧UT U (⟨k2,n2,l2⟩:A0)∧(un tbg N s (⟨k,n,l⟩:A0) (⟨k2,n2,l2⟩:A0)).isSome=true) (mtR (unG N s (⟨k,n,l⟩:A0) (⟨k2,n2,l2⟩:A0)))):∀(p a:List A0) (s:List A6),Ct cx 362 [.d (.sl false Ai ((p).map (A0.dd false))),.d (.sl false Ai ((a).map (A0.dd false))),.d (.sl true BB ((s).map (A6.dd true)))] (p.length=a.length∧UI U s∧(∀x∈p,UT U x)∧(∀x∈a,UT U x)∧(unL (un tbg N) s p a).isSome=true) (mtR (E4 N s p a)):=fun p a s=>by
 refine Xi func362 35 [.tmp 6,.tmp 7] [17,26,28,32,33,34] [26] AN (@Mx) ?_;intro hp h M G H E
 have hr1:=@Bw;have hr2:=CB;replace H:=AI hr1 (AI hr2 H)
 obtain⟨hlen,hus,hup,hua,hso⟩:=hp
 repeat' (first|(refine iT ?_;refine XkB 7 ?_)|(refine RTW.mk ?_;refine GN ?_)|(refine iWL ?_;refine Cs M ?_)|(refine iDL ?_;refine CE M ?_)|(refine IN.mk ?_;intros)|(refine iTw ?_;refine T2 ?_ ?_<;>((try clear H);intro hb H)<;>try (first|exact hb.elim|(exfalso;omega)))|(refine LF.mk ?_;exact LX)|refine GN ?_|(refine XL [0,1] [] (fun k0 _=>[(8,dI' k0),(2,.d (.sl true BB (((ulK (un tbg N) s p a k0)).map (A6.dd true))))]) (fun _ _=>[]) (p.length) (fun k0 _=>ulI (un tbg N) s p a k0) rU ?_ (i0:=My s p a);intro k0 hk0 s0 hi0;by_cases hkk:k0<p.length;rotate_left;have hme:=Mu hlen hi0 (by omega);replace H:=AI hme H;rotate_left;(have hka:k0<a.length:=by omega);have hui:=U8 hi0 hus hup hua;have hpk:=hup _ (gm hkk);have hak:=hua _ (gm hka);have hsk:=GW hlen hi0 hkk hso;have hul:=hui.len;have huw:=hui.wd;have hpw:=hpk.wd;have haw:=hak.wd;replace H:=AI hui (AI hpk (AI hak (AI hsk (AI hul (AI huw (AI hpw (AI haw H)))))));rcases hq:unG N (ulK (un tbg N) s p a k0) p[k0] a[k0] with _|s1<;>replace H:=AI hq H;have hno:=LW hlen hi0 hkk hso hq;replace H:=AI hno H;rotate_left;have hye:=J2 hlen hi0 hkk hso hq;replace H:=AI hye.2 H;have hi1:=hye.1;rotate_left)|fail)
theorem eC (U:List BA'):∀(N:Nat),∀(k:Int) (n:BA') (l:List A0) (k2:Int) (n2:BA') (l2:List A0) (s:List A6),Ct cx 412 [.d (uK k n l),.d (uK k2 n2 l2),.d (.sl true BB ((s).map (A6.dd true)))] (UI U s∧UT U (⟨k,n,l⟩:A0)∧UT U (⟨k2,n2,l2⟩:A0)∧(un tbg N s (⟨k,n,l⟩:A0) (⟨k2,n2,l2⟩:A0)).isSome=true) (mtR (unG N s (⟨k,n,l⟩:A0) (⟨k2,n2,l2⟩:A0))):=by
 intro N
 induction N with
 |zero=>intro k n l k2 n2 l2 s;exact⟨fk1 func412,fun hp=>by have:=hp.2.2.2;simp[un] at this⟩
 |succ N ih=>
 intro k n l k2 n2 l2 s
 have jj:=QS U N ih
 refine Xi func412 86 [.tmp 6,.tmp 7] [18,26,31,45,77,82,84] [31,45,82] AN (@unX.eq_1) ?_;intro hp h M G H E
 have hr1:=@Bw;have hr2:=CB;replace H:=AI hr1 (AI hr2 H)
 obtain⟨hus,hx,hy,hso⟩:=hp
 have hX:=hx.ap hus;have hY:=hy.ap hus;have hXa:=hX.args;have hYa:=hY.args;have hXw:=hX.wd;have hYw:=hY.wd;have hul:=hus.len;have huw:=hus.wd;have hxw:=hx.wd;have hyw:=hy.wd;have he:=U7 hso;obtain⟨hb1,hb2,hb3⟩:=Ms hso;replace H:=AI hXa (AI hYa (AI hXw (AI hYw (AI hul (AI huw (AI hxw (AI hyw (AI he (AI hb1 (AI hb2 (AI hb3 (AI hus H))))))))))))
 rcases hq:E4 N s (ap s (⟨k,n,l⟩:A0)).AB (ap s (⟨k2,n2,l2⟩:A0)).AB with _|s1<;>replace H:=AI hq H
 repeat' (first|exact true|(refine iT ?_;refine XkB 7 ?_)|(refine RTW.mk ?_;refine GN ?_)|(refine iWL ?_;refine Cs M ?_)|(refine iDL ?_;refine CE M ?_)|(refine IN.mk ?_;intros)|(refine iTw ?_;refine T2 ?_ ?_<;>((try clear H);intro hb H)<;>try exact hb.elim)|(refine LF.mk ?_;exact LX)|refine BO.mk ?_ ?_|(apply iPJ;exact NPJ)|apply PXs.of|refine GN ?_)
theorem eB (U:List BA') (N:Nat):∀(p a:List A0) (s:List A6),Ct cx 362 [.d (.sl false Ai ((p).map (A0.dd false))),.d (.sl false Ai ((a).map (A0.dd false))),.d (.sl true BB ((s).map (A6.dd true)))] (p.length=a.length∧UI U s∧(∀x∈p,UT U x)∧(∀x∈a,UT U x)∧(unL (un tbg N) s p a).isSome=true) (mtR (E4 N s p a)):=QS U N (eC U N)
theorem Sc (U:List BA') (N:Nat) (p a:List A0):Ct cx 291 [.d (.sl false Ai ((p).map (A0.dd false))),.d (.sl false Ai ((a).map (A0.dd false)))] (p.length=a.length∧UI U []∧(∀x∈p,UT U x)∧(∀x∈a,UT U x)∧(unL (un tbg N) [] p a).isSome=true) (.tp [.d (.sl true BB ((((E4 N [] p a).getD [])).map (A6.dd true))),dB' ((E4 N [] p a).isSome)]):=by
 have jj:∀(p a:List A0),Ct cx 362 [.d (.sl false Ai ((p).map (A0.dd false))),.d (.sl false Ai ((a).map (A0.dd false))),.d (.sl true BB [])] (p.length=a.length∧UI U []∧(∀x∈p,UT U x)∧(∀x∈a,UT U x)∧(unL (un tbg N) [] p a).isSome=true) (mtR (E4 N [] p a)):=fun p a=>by have q:=eB U N p a [];simpa using q
 refine Xi func291 26 [.tmp 4,.tmp 5] [14,17,19,24] [17,24] AN trivial ?_;intro hp h M G H E
 have hr1:=@Bw;have hr2:=CB;replace H:=AI hr1 (AI hr2 H)
 obtain⟨hlen,hus,hup,hua,hso⟩:=hp
 rcases hq:E4 N [] p a with _|s1<;>replace H:=AI hq H
 rotate_left
 have hui:=YD hq hus hup hua;have hul:=hui.len;have huw:=hui.wd;replace H:=AI hul (AI huw H)
 rotate_left
 all_goals exact GA6
instance sUniO (k : Int) (n : BA') (l : List A0) (k2 : Int) (n2 : BA') (l2 : List A0) : Ct cx 291 [.d (.sl false Ai [(uK k n l)]), .d (.sl false Ai [(uK k2 n2 l2)])] (uOk (⟨k, n, l⟩ : A0) (⟨k2, n2, l2⟩ : A0) ∧ A0.wd (⟨k, n, l⟩ : A0) ∧ A0.wd (⟨k2, n2, l2⟩ : A0)) (.tp [.d (.sl true BB ((((unR (⟨k, n, l⟩ : A0) (⟨k2, n2, l2⟩ : A0)).getD [])).map (A6.dd true))), dB' ((unR (⟨k, n, l⟩ : A0) (⟨k2, n2, l2⟩ : A0)).isSome)]) := ⟨fk1 func291, fun hp h => by
  obtain⟨N,U,h1,h2,h3,h4,h5⟩:=Pv hp.1 hp.2.1 hp.2.2
  have q:=(Sc U N [(⟨k,n,l⟩:A0)] [(⟨k2,n2,l2⟩:A0)]).cs ⟨rfl,h1,by simpa using h2,by simpa using h3,h4⟩ h
  rw[h5] at q
  simpa using q⟩
instance nN (k:Int) (n:BA') (l:List A0) (k2:Int) (n2:BA') (l2:List A0):Ct cx 200 [.d (uK k n l),.d (uK k2 n2 l2)] (uOk (⟨k,n,l⟩:A0) (⟨k2,n2,l2⟩:A0)∧A0.wd (⟨k,n,l⟩:A0)∧A0.wd (⟨k2,n2,l2⟩:A0)) (.tp [.d (.sl true BB ((((unR (⟨k,n,l⟩:A0) (⟨k2,n2,l2⟩:A0)).getD [])).map (A6.dd true))),dB' ((unR (⟨k,n,l⟩:A0) (⟨k2,n2,l2⟩:A0)).isSome)]):=by
 refine Xi func200 13 [.tmp 4,.tmp 5] [11] [] AN trivial ?_;intro hp h M G H E
 have hp1:=hp.1;have hp2:=hp.2.1;have hp3:=hp.2.2;replace H:=AI hp1 (AI hp2 (AI hp3 H))
 all_goals exact GA2
instance sUnb (k:Int) (n:BA') (l:List A0) (k2:Int) (n2:BA') (l2:List A0):Ct cx 133 [.d (uK k n l),.d (uK k2 n2 l2)] (hdS (⟨k,n,l⟩:A0)∧hdS (⟨k2,n2,l2⟩:A0)∧A0.sz (⟨k,n,l⟩:A0)≤134217727∧A0.sz (⟨k2,n2,l2⟩:A0)≤134217727) (dB' (U3 (⟨k,n,l⟩:A0) (⟨k2,n2,l2⟩:A0))):=by
 refine Xi func133 17 [.tmp 4] [14] [11] AN (@U3.eq_1) ?_;intro hp h M G H E
 have hu:=Py hp.1 hp.2.1;have hw1:=CJ (Nat.le_trans hp.2.2.1 (by decide));have hw2:=CJ (Nat.le_trans hp.2.2.2 (by decide));have hw3:=Xj (a:=(⟨k,n,l⟩:A0)) hw2;have hl1:=N5 (⟨k,n,l⟩:A0);have hl2:=N5 (⟨k2,n2,l2⟩:A0);have hz1:=hp.2.2.1;have hz2:=hp.2.2.2;have hae:ap (apR (tv (⟨k,n,l⟩:A0)) (tv (⟨k2,n2,l2⟩:A0))) (⟨k2,n2,l2⟩:A0)=apt (⟨k,n,l⟩:A0) (⟨k2,n2,l2⟩:A0):=rfl;have hto1:tvO (⟨k,n,l⟩:A0) []:=Ig (U:=tv (⟨k,n,l⟩:A0)) hw1 (by have:=hp.1.2;omega) (HW _);replace H:=AI hu (AI hw1 (AI hw2 (AI hw3 (AI hae (AI hto1 H)))))
 repeat' (first|(refine iDL ?_;refine CE M ?_)|(refine IN.mk ?_;intros)|(refine iTw ?_;refine T2 ?_ ?_<;>((try clear H);intro hb H)<;>try exact hb.elim)|(refine LF.mk ?_;exact LX)|refine GN ?_)

instance sFA (F:List AD) (g:A9):Ct cx 299 [.d (.sl false Bf ((F).map (AD.dd false))),.d (Du g)] (F.length≤134217728) (dI' (fAi F g)):=by
 refine Xi func299 20 [.tmp 4] [] [] AN (AI @gC<|AI @aK<|@fAi.eq_1) ?_;intro hp h M G H E
 repeat' (first|(refine IN.mk ?_;intros)|(refine iTw ?_;refine T2 ?_ ?_<;>((try clear H);intro hb H)<;>try exact hb.elim)|(refine LF.mk ?_;exact LX)|refine GN ?_|(refine XC [0,3] [3] 5 (F.length) (fun k0=>fAj F g 0=fAj (F.drop k0) g k0) ?_;intro k0 hk0 hi0)|fail)
theorem Yw (N:Nat) (ii:∀(k m p q:Int) (l:List A7),Ct cx 368 [.d (.st [.lf (.int .i64 (k)),.lf (.int .i64 (m)),.st [.lf (.int .i64 (p)),.lf (.int .i64 (q))],.sl false Bd ((l).map (A7.dd false))])] (evN (⟨k,m,⟨p,q⟩,l⟩:A7)<N∧A7.wd (⟨k,m,⟨p,q⟩,l⟩:A7)) (.d (((⟨k,m,⟨p,q⟩,l⟩:A7)).dd true))):∀(l:List A7),Ct cx 414 [.d (.sl false Bd ((l).map (A7.dd false)))] (KY l<N∧l.length≤134217728∧(∀y∈l,y.wd)) (.d (.sl true Bd ((l).map (A7.dd true)))):=fun l=>by
 refine Xi func414 21 [.tmp 2] [12,20] [] AN (@Cv) ?_;intro hp h M G H E
 have gx:∀k (hk:k<l.length),evN l[k]<N∧l[k].wd:=fun k hk=>⟨by have:=Rb hk;have:=hp.1;omega,hp.2.2 _ (gm hk)⟩;have ee:=WX;replace H:=AI gx (AI ee H)
 repeat' (first|(refine IN.mk ?_;intros)|(refine iTw ?_;refine T2 ?_ ?_<;>((try clear H);intro hb H)<;>try exact hb.elim)|(refine LF.mk ?_;exact LX)|refine GN ?_|(refine XL [0] [] (fun k0 _=>[(4,dI' k0),(3,.d (.sl true Bd (((mp (fun y:A7=>y) l k0)).map (A7.dd true))))]) (fun _ _=>[]) (l.length) (fun _ _=>True) rU ?_;intro k0 hk0 s0 hi0;have hml:=Bh (fun y:A7=>y) hk0;(have hme:l.length≤k0→mp (fun y:A7=>y) l k0=l:=fun h=>by rw[Bb h];simp);have hmn:∀h:k0<l.length,mp (fun y:A7=>y) l (k0+1)=mp (fun y:A7=>y) l k0++[l[k0]]:=fun h=>Es h)|fail)
theorem eP:∀(N:Nat),∀(k m p q:Int) (l:List A7),Ct cx 368 [.d (.st [.lf (.int .i64 (k)),.lf (.int .i64 (m)),.st [.lf (.int .i64 (p)),.lf (.int .i64 (q))],.sl false Bd ((l).map (A7.dd false))])] (evN (⟨k,m,⟨p,q⟩,l⟩:A7)<N∧A7.wd (⟨k,m,⟨p,q⟩,l⟩:A7)) (.d (((⟨k,m,⟨p,q⟩,l⟩:A7)).dd true)):=by
 intro N
 induction N with
 |zero=>intro k m p q l;exact⟨fk1 func368,fun hp=>absurd hp.1 (Nat.not_lt_zero _)⟩
 |succ N ih=>
 intro k m p q l
 have jj:=Yw N ih
 refine Xi func368 8 [.cell 2 211] [7] [] AN trivial ?_;intro hp h M G H E
 have hla:KY l<N∧l.length≤134217728∧(∀y∈l,y.wd):=⟨by have:=OD (⟨k,m,⟨p,q⟩,l⟩:A7);have:=hp.1;simp only at*;omega,(WW (⟨k,m,⟨p,q⟩,l⟩:A7)).1 hp.2⟩;replace H:=AI hla H
 all_goals exact GA0
instance sEvC (k m p q:Int) (l:List A7):Ct cx 368 [.d (.st [.lf (.int .i64 (k)),.lf (.int .i64 (m)),.st [.lf (.int .i64 (p)),.lf (.int .i64 (q))],.sl false Bd ((l).map (A7.dd false))])] (A7.wd (⟨k,m,⟨p,q⟩,l⟩:A7)) (.d (((⟨k,m,⟨p,q⟩,l⟩:A7)).dd true)):=⟨fk1 func368,fun hp h=>(eP _ k m p q l).cs ⟨Nat.lt_succ_self _,hp⟩ h⟩
instance jv (k m p q:Int) (l:List A7) (r:List Int):Ct cx 300 [.d (.st [.lf (.int .i64 (k)),.lf (.int .i64 (m)),.st [.lf (.int .i64 (p)),.lf (.int .i64 (q))],.sl false Bd ((l).map (A7.dd false))]),.d (.sl false .one ((r).map (dI)))] (A7.wd (⟨k,m,⟨p,q⟩,l⟩:A7)∧r.length≤134217728) (.d (((apS (⟨k,m,⟨p,q⟩,l⟩:A7) r)).dd true)):=by
 refine Xi func300 23 [.cell 4 211] [19,22] [] AN (@LK) ?_;intro hp h M G H E
 have hew:=hp.1;replace H:=AI hew H
 repeat' (first|(refine IN.mk ?_;intros)|(refine iTw ?_;refine T2 ?_ ?_<;>((try clear H);intro hb H)<;>try exact hb.elim)|(refine LF.mk ?_;exact LX)|refine GN ?_|(refine XL [1,4,5] [4] (fun k0 _=>[(6,dI' k0)]) (fun k0 _=>[(5,.d (((GI (⟨k,m,⟨p,q⟩,l⟩:A7) r k0)).dd true))]) (r.length) (fun _ _=>True) rU ?_;intro k0 hk0 s0 hi0;have hsn:∀h:k0<r.length,GI (⟨k,m,⟨p,q⟩,l⟩:A7) r (k0+1)=⟨3,r[k0],⟨0,0⟩,[GI (⟨k,m,⟨p,q⟩,l⟩:A7) r k0]⟩:=fun h=>Rz h;have hse:r.length≤k0→GI (⟨k,m,⟨p,q⟩,l⟩:A7) r k0=apS (⟨k,m,⟨p,q⟩,l⟩:A7) r:=fun h=>Oe h)|fail)
