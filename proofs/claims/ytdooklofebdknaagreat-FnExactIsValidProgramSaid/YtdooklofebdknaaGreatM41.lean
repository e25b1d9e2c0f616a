/- Part 41. No condition. -/
import Derived.Test.YtdooklofebdknaaGreatM39
namespace Go.Proofs.YtdooklofebdknaaGreat
open Go.RowKit Tryz
set_option linter.unusedVariables false
set_option maxRecDepth 10000
set_option linter.unusedSimpArgs false
set_option maxHeartbeats 4000000
instance lr (k:Int) (n:ByteArray) (l:List A0) (a:List ByteArray):Ct cx 276 [.d (uK k n l),.d (.sl true .one ((a).map (dS)))] (A0.sz (⟨k,n,l⟩:A0)≤134217727∧a.length≤134217728) (.d (((ap (apR a (tv (⟨k,n,l⟩:A0))) (⟨k,n,l⟩:A0))).dd true)):=by
 have jv:=@sTv_i
 refine Xi func276 56 [.cell 4 65] [39,43] [] AN (AI @apR.eq_1<|AI @Kz<|AI @Ky<|@MK) ?_;intro hp h M G H E
 have hsz:A0.sz (⟨k,n,l⟩:A0)≤134217728:=Nat.le_trans hp.1 (by decide);have hw0:=CK hsz;have hl0:=Mh (⟨k,n,l⟩:A0);have hwa:=@PE a (unN a (tv ⟨k,n,l⟩)) (tv ⟨k,n,l⟩);have hzc:=PK;have hab:a.length+(tv ⟨k,n,l⟩).length≤536870912:=(by have:=hp.1;have:=hp.2;omega);replace H:=AI hab (AI hsz (AI hw0 (AI hwa (AI hzc H))))
 repeat' (first|(refine IN.mk ?_;intros)|(refine iTw ?_;refine T2 ?_ ?_<;>((try clear H);intro hb H)<;>try (first|exact hb.elim|(exfalso;omega)))|(refine LF.mk ?_;exact LX)|refine GN ?_|(refine XL [1,2,4,5] [2,4] (fun k0 _=>[(8,.d (.lf (.int .i64 (k0:Int)))),(7,.d (.sl true B9 (((apK a (unN a (tv ⟨k,n,l⟩)) (tv ⟨k,n,l⟩) k0).2).map (A5.dd true)))),(6,.d (.sl true .one (((apK a (unN a (tv ⟨k,n,l⟩)) (tv ⟨k,n,l⟩) k0).1).map (dS))))]) (fun _ _=>[]) ((tv ⟨k,n,l⟩).length) (fun _ _=>True) rU ?_;intro k0 hk0 s0 hi0;by_cases hkk:k0<(tv ⟨k,n,l⟩).length;rotate_left;have hke:=@RX a (tv ⟨k,n,l⟩) k0 (by omega);replace H:=AI hke H;rotate_left;have hul:=PY a (tv ⟨k,n,l⟩);have hal:=@RW a (unN a (tv ⟨k,n,l⟩)) (tv ⟨k,n,l⟩) k0;have hvs:=aN (x:=(⟨k,n,l⟩:A0)) hp.1 hkk;have hno:=@Wl a (unN a (tv ⟨k,n,l⟩)) (tv ⟨k,n,l⟩) k0 hkk;have hye:=@RV a (unN a (tv ⟨k,n,l⟩)) (tv ⟨k,n,l⟩) k0 hkk;replace H:=AI hno (AI hye H))|(refine XL [1,2,4,5,6,7,8] [2,4] (fun k1 _=>[(9,.d (.lf (.string ((zit k1 (zsf (tv ⟨k,n,l⟩)[k0]))))))]) (fun _ _=>[]) (zN (apK a (unN a (tv ⟨k,n,l⟩)) (tv ⟨k,n,l⟩) k0).1 (zsf (tv ⟨k,n,l⟩)[k0])) (fun _ _=>True) rU ?_;intro k1 hk1 s1 hi1;have hzs:=FM k1 (zsf (tv ⟨k,n,l⟩)[k0]);by_cases hkz:k1<zN (apK a (unN a (tv ⟨k,n,l⟩)) (tv ⟨k,n,l⟩) k0).1 (zsf (tv ⟨k,n,l⟩)[k0]);rotate_left;have hze:=@PL (apK a (unN a (tv ⟨k,n,l⟩)) (tv ⟨k,n,l⟩) k0).1 (zsf (tv ⟨k,n,l⟩)[k0]) k1 (by omega);have hzn:=VW (apK a (unN a (tv ⟨k,n,l⟩)) (tv ⟨k,n,l⟩) k0).1 (zsf (tv ⟨k,n,l⟩)[k0]);replace H:=AI hze (AI hzn H);rotate_left;have hzl:=ML hkz;have hzx:=T5 k1 (zsf (tv ⟨k,n,l⟩)[k0]);have hzb:(zit k1 (zsf (tv ⟨k,n,l⟩)[k0])).size+1≤9223372036854775807:=(by have h1:=aE (apK a (unN a (tv ⟨k,n,l⟩)) (tv ⟨k,n,l⟩) k0).1 (zsf (tv ⟨k,n,l⟩)[k0]);have h2:(zsf (tv ⟨k,n,l⟩)[k0]).size=(tv ⟨k,n,l⟩)[k0].size+1:=(FM 1 _);have h3:=hp.1;have h4:=hp.2;omega);replace H:=AI hzl (AI hzx (AI hzb H)))|fail)
theorem Q3 (U:List ByteArray) (N:Nat) (ii:∀(k:Int) (n:ByteArray) (l:List A0) (k2:Int) (n2:ByteArray) (l2:List A0) (s:List A5),Ct cx 427 [.d (uK k n l),.d (uK k2 n2 l2),.d (.sl true B9 ((s).map (A5.dd true)))] (UI U s∧UT U (⟨k,n,l⟩:A0)∧UT U (⟨k2,n2,l2⟩:A0)∧(un tbg N s (⟨k,n,l⟩:A0) (⟨k2,n2,l2⟩:A0)).isSome=true) (mtR (unG N s (⟨k,n,l⟩:A0) (⟨k2,n2,l2⟩:A0)))):∀(p a:List A0) (s:List A5),Ct cx 392 [.d (.sl false Ag ((p).map (A0.dd false))),.d (.sl false Ag ((a).map (A0.dd false))),.d (.sl true B9 ((s).map (A5.dd true)))] (p.length=a.length∧UI U s∧(∀x∈p,UT U x)∧(∀x∈a,UT U x)∧(unL (un tbg N) s p a).isSome=true) (mtR (E2 N s p a)):=fun p a s=>by
 refine Xi func392 35 [.tmp 6,.tmp 7] [17,26,28,32,33,34] [26] AN (@MZ) ?_;intro hp h M G H E
 have hr1:=@Bw;have hr2:=CB;replace H:=AI hr1 (AI hr2 H)
 obtain⟨hlen,hus,hup,hua,hso⟩:=hp
 repeat' (first|(refine iT ?_;refine XkB 7 ?_)|(refine RTW.mk ?_;refine GN ?_)|(refine iWL ?_;refine Cr M ?_)|(refine iDL ?_;refine CE M ?_)|(refine IN.mk ?_;intros)|(refine iTw ?_;refine T2 ?_ ?_<;>((try clear H);intro hb H)<;>try (first|exact hb.elim|(exfalso;omega)))|(refine LF.mk ?_;exact LX)|refine GN ?_|(refine XL [0,1] [] (fun k0 _=>[(8,.d (.lf (.int .i64 (k0:Int)))),(2,.d (.sl true B9 (((ulK (un tbg N) s p a k0)).map (A5.dd true))))]) (fun _ _=>[]) (p.length) (fun k0 _=>ulI (un tbg N) s p a k0) rU ?_ (i0:=Ma s p a);intro k0 hk0 s0 hi0;by_cases hkk:k0<p.length;rotate_left;have hme:=MX hlen hi0 (by omega);replace H:=AI hme H;rotate_left;(have hka:k0<a.length:=by omega);have hui:=TX hi0 hus hup hua;have hpk:=hup _ (gm hkk);have hak:=hua _ (gm hka);have hsk:=GP hlen hi0 hkk hso;have hul:=hui.len;have huw:=hui.wd;have hpw:=hpk.wd;have haw:=hak.wd;replace H:=AI hui (AI hpk (AI hak (AI hsk (AI hul (AI huw (AI hpw (AI haw H)))))));rcases hq:unG N (ulK (un tbg N) s p a k0) p[k0] a[k0] with _|s1<;>replace H:=AI hq H;have hno:=LB hlen hi0 hkk hso hq;replace H:=AI hno H;rotate_left;have hye:=Im hlen hi0 hkk hso hq;replace H:=AI hye.2 H;have hi1:=hye.1;rotate_left)|fail)
theorem cc (U:List ByteArray):∀(N:Nat),∀(k:Int) (n:ByteArray) (l:List A0) (k2:Int) (n2:ByteArray) (l2:List A0) (s:List A5),Ct cx 427 [.d (uK k n l),.d (uK k2 n2 l2),.d (.sl true B9 ((s).map (A5.dd true)))] (UI U s∧UT U (⟨k,n,l⟩:A0)∧UT U (⟨k2,n2,l2⟩:A0)∧(un tbg N s (⟨k,n,l⟩:A0) (⟨k2,n2,l2⟩:A0)).isSome=true) (mtR (unG N s (⟨k,n,l⟩:A0) (⟨k2,n2,l2⟩:A0))):=by
 intro N
 induction N with
 |zero=>intro k n l k2 n2 l2 s;exact⟨fk1 func427,fun hp=>by have:=hp.2.2.2;simp[un] at this⟩
 |succ N ih=>
 intro k n l k2 n2 l2 s
 have jj:=Q3 U N ih
 refine Xi func427 86 [.tmp 6,.tmp 7] [18,26,31,45,77,82,84] [31,45,82] AN (@unX.eq_1) ?_;intro hp h M G H E
 have hr1:=@Bw;have hr2:=CB;replace H:=AI hr1 (AI hr2 H)
 obtain⟨hus,hx,hy,hso⟩:=hp
 have hX:=hx.ap hus;have hY:=hy.ap hus;have hXa:=hX.args;have hYa:=hY.args;have hXw:=hX.wd;have hYw:=hY.wd;have hul:=hus.len;have huw:=hus.wd;have hxw:=hx.wd;have hyw:=hy.wd;have he:=TW hso;obtain⟨hb1,hb2,hb3⟩:=MV hso;replace H:=AI hXa (AI hYa (AI hXw (AI hYw (AI hul (AI huw (AI hxw (AI hyw (AI he (AI hb1 (AI hb2 (AI hb3 (AI hus H))))))))))))
 rcases hq:E2 N s (ap s (⟨k,n,l⟩:A0)).AB (ap s (⟨k2,n2,l2⟩:A0)).AB with _|s1<;>replace H:=AI hq H
 repeat' (first|exact true|(refine iT ?_;refine XkB 7 ?_)|(refine RTW.mk ?_;refine GN ?_)|(refine iWL ?_;refine Cr M ?_)|(refine iDL ?_;refine CE M ?_)|(refine IN.mk ?_;intros)|(refine iTw ?_;refine T2 ?_ ?_<;>((try clear H);intro hb H)<;>try exact hb.elim)|(refine LF.mk ?_;exact LX)|refine BO.mk ?_ ?_|(apply iPJ;exact NPJ)|apply PXs.of|refine GN ?_)
theorem cb (U:List ByteArray) (N:Nat):∀(p a:List A0) (s:List A5),Ct cx 392 [.d (.sl false Ag ((p).map (A0.dd false))),.d (.sl false Ag ((a).map (A0.dd false))),.d (.sl true B9 ((s).map (A5.dd true)))] (p.length=a.length∧UI U s∧(∀x∈p,UT U x)∧(∀x∈a,UT U x)∧(unL (un tbg N) s p a).isSome=true) (mtR (E2 N s p a)):=Q3 U N (cc U N)
theorem S5 (U:List ByteArray) (N:Nat) (p a:List A0):Ct cx 340 [.d (.sl false Ag ((p).map (A0.dd false))),.d (.sl false Ag ((a).map (A0.dd false)))] (p.length=a.length∧UI U []∧(∀x∈p,UT U x)∧(∀x∈a,UT U x)∧(unL (un tbg N) [] p a).isSome=true) (.tp [.d (.sl true B9 ((((E2 N [] p a).getD [])).map (A5.dd true))),.d (.lf (.bool ((E2 N [] p a).isSome)))]):=by
 have jj:∀(p a:List A0),Ct cx 392 [.d (.sl false Ag ((p).map (A0.dd false))),.d (.sl false Ag ((a).map (A0.dd false))),.d (.sl true B9 [])] (p.length=a.length∧UI U []∧(∀x∈p,UT U x)∧(∀x∈a,UT U x)∧(unL (un tbg N) [] p a).isSome=true) (mtR (E2 N [] p a)):=fun p a=>by have q:=cb U N p a [];simpa using q
 refine Xi func340 26 [.tmp 4,.tmp 5] [14,17,19,24] [17,24] AN trivial ?_;intro hp h M G H E
 have hr1:=@Bw;have hr2:=CB;replace H:=AI hr1 (AI hr2 H)
 obtain⟨hlen,hus,hup,hua,hso⟩:=hp
 rcases hq:E2 N [] p a with _|s1<;>replace H:=AI hq H
 rotate_left
 have hui:=X6 hq hus hup hua;have hul:=hui.len;have huw:=hui.wd;replace H:=AI hul (AI huw H)
 rotate_left
 all_goals exact GA6
instance sUniO (k : Int) (n : ByteArray) (l : List A0) (k2 : Int) (n2 : ByteArray) (l2 : List A0) : Ct cx 340 [.d (.sl false Ag [(uK k n l)]), .d (.sl false Ag [(uK k2 n2 l2)])] (uOk (⟨k, n, l⟩ : A0) (⟨k2, n2, l2⟩ : A0) ∧ A0.wd (⟨k, n, l⟩ : A0) ∧ A0.wd (⟨k2, n2, l2⟩ : A0)) (.tp [.d (.sl true B9 ((((unR (⟨k, n, l⟩ : A0) (⟨k2, n2, l2⟩ : A0)).getD [])).map (A5.dd true))), .d (.lf (.bool ((unR (⟨k, n, l⟩ : A0) (⟨k2, n2, l2⟩ : A0)).isSome)))]) := ⟨fk1 func340, fun hp h => by
  obtain⟨N,U,h1,h2,h3,h4,h5⟩:=PW hp.1 hp.2.1 hp.2.2
  have q:=(S5 U N [(⟨k,n,l⟩:A0)] [(⟨k2,n2,l2⟩:A0)]).cs ⟨rfl,h1,by simpa using h2,by simpa using h3,h4⟩ h
  rw[h5] at q
  simpa using q⟩
instance lR (k:Int) (n:ByteArray) (l:List A0) (k2:Int) (n2:ByteArray) (l2:List A0):Ct cx 275 [.d (uK k n l),.d (uK k2 n2 l2)] (uOk (⟨k,n,l⟩:A0) (⟨k2,n2,l2⟩:A0)∧A0.wd (⟨k,n,l⟩:A0)∧A0.wd (⟨k2,n2,l2⟩:A0)) (.tp [.d (.sl true B9 ((((unR (⟨k,n,l⟩:A0) (⟨k2,n2,l2⟩:A0)).getD [])).map (A5.dd true))),.d (.lf (.bool ((unR (⟨k,n,l⟩:A0) (⟨k2,n2,l2⟩:A0)).isSome)))]):=by
 refine Xi func275 13 [.tmp 4,.tmp 5] [11] [] AN trivial ?_;intro hp h M G H E
 have hp1:=hp.1;have hp2:=hp.2.1;have hp3:=hp.2.2;replace H:=AI hp1 (AI hp2 (AI hp3 H))
 all_goals exact GA2
instance sUnb (k:Int) (n:ByteArray) (l:List A0) (k2:Int) (n2:ByteArray) (l2:List A0):Ct cx 203 [.d (uK k n l),.d (uK k2 n2 l2)] (hdS (⟨k,n,l⟩:A0)∧hdS (⟨k2,n2,l2⟩:A0)∧A0.sz (⟨k,n,l⟩:A0)≤134217727∧A0.sz (⟨k2,n2,l2⟩:A0)≤134217727) (.d (.lf (.bool (TS (⟨k,n,l⟩:A0) (⟨k2,n2,l2⟩:A0))))):=by
 refine Xi func203 17 [.tmp 4] [14] [11] AN (@TS.eq_1) ?_;intro hp h M G H E
 have hu:=PZ hp.1 hp.2.1;have hw1:=CK (Nat.le_trans hp.2.2.1 (by decide));have hw2:=CK (Nat.le_trans hp.2.2.2 (by decide));have hw3:=Wh (a:=(⟨k,n,l⟩:A0)) hw2;have hl1:=Mh (⟨k,n,l⟩:A0);have hl2:=Mh (⟨k2,n2,l2⟩:A0);have hz1:=hp.2.2.1;have hz2:=hp.2.2.2;have hae:ap (apR (tv (⟨k,n,l⟩:A0)) (tv (⟨k2,n2,l2⟩:A0))) (⟨k2,n2,l2⟩:A0)=apt (⟨k,n,l⟩:A0) (⟨k2,n2,l2⟩:A0):=rfl;have hto1:tvO (⟨k,n,l⟩:A0) []:=IM (U:=tv (⟨k,n,l⟩:A0)) hw1 (by have:=hp.1.2;omega) (HQ _);replace H:=AI hu (AI hw1 (AI hw2 (AI hw3 (AI hae (AI hto1 H)))))
 repeat' (first|(refine iDL ?_;refine CE M ?_)|(refine IN.mk ?_;intros)|(refine iTw ?_;refine T2 ?_ ?_<;>((try clear H);intro hb H)<;>try exact hb.elim)|(refine LF.mk ?_;exact LX)|refine GN ?_)

instance sFA (F:List AD) (g:A9):Ct cx 348 [.d (.sl false Bf ((F).map (AD.dd false))),.d (Dr g)] (F.length≤134217728) (.d (.lf (.int .i64 (fAi F g)))):=by
 refine Xi func348 20 [.tmp 4] [] [] AN (AI @eP<|AI @Z5<|@fAi.eq_1) ?_;intro hp h M G H E
 repeat' (first|(refine IN.mk ?_;intros)|(refine iTw ?_;refine T2 ?_ ?_<;>((try clear H);intro hb H)<;>try exact hb.elim)|(refine LF.mk ?_;exact LX)|refine GN ?_|(refine XC [0,3] [3] 5 (F.length) (fun k0=>fAj F g 0=fAj (F.drop k0) g k0) ?_;intro k0 hk0 hi0)|fail)
theorem Y1 (N:Nat) (ii:∀(k m p q:Int) (l:List A7),Ct cx 398 [.d (.st [.lf (.int .i64 (k)),.lf (.int .i64 (m)),.st [.lf (.int .i64 (p)),.lf (.int .i64 (q))],.sl false Bd ((l).map (A7.dd false))])] (evN (⟨k,m,⟨p,q⟩,l⟩:A7)<N∧A7.wd (⟨k,m,⟨p,q⟩,l⟩:A7)) (.d (((⟨k,m,⟨p,q⟩,l⟩:A7)).dd true))):∀(l:List A7),Ct cx 429 [.d (.sl false Bd ((l).map (A7.dd false)))] (KE l<N∧l.length≤134217728∧(∀y∈l,y.wd)) (.d (.sl true Bd ((l).map (A7.dd true)))):=fun l=>by
 refine Xi func429 21 [.tmp 2] [12,20] [] AN (@Cu) ?_;intro hp h M G H E
 have gx:∀k (hk:k<l.length),evN l[k]<N∧l[k].wd:=fun k hk=>⟨by have:=R2 hk;have:=hp.1;omega,hp.2.2 _ (gm hk)⟩;have ee:=Vn;replace H:=AI gx (AI ee H)
 repeat' (first|(refine IN.mk ?_;intros)|(refine iTw ?_;refine T2 ?_ ?_<;>((try clear H);intro hb H)<;>try exact hb.elim)|(refine LF.mk ?_;exact LX)|refine GN ?_|(refine XL [0] [] (fun k0 _=>[(4,.d (.lf (.int .i64 (k0:Int)))),(3,.d (.sl true Bd (((mp (fun y:A7=>y) l k0)).map (A7.dd true))))]) (fun _ _=>[]) (l.length) (fun _ _=>True) rU ?_;intro k0 hk0 s0 hi0;have hml:=Bh (fun y:A7=>y) hk0;(have hme:l.length≤k0→mp (fun y:A7=>y) l k0=l:=fun h=>by rw[Ba h];simp);have hmn:∀h:k0<l.length,mp (fun y:A7=>y) l (k0+1)=mp (fun y:A7=>y) l k0++[l[k0]]:=fun h=>Ep h)|fail)
theorem cr:∀(N:Nat),∀(k m p q:Int) (l:List A7),Ct cx 398 [.d (.st [.lf (.int .i64 (k)),.lf (.int .i64 (m)),.st [.lf (.int .i64 (p)),.lf (.int .i64 (q))],.sl false Bd ((l).map (A7.dd false))])] (evN (⟨k,m,⟨p,q⟩,l⟩:A7)<N∧A7.wd (⟨k,m,⟨p,q⟩,l⟩:A7)) (.d (((⟨k,m,⟨p,q⟩,l⟩:A7)).dd true)):=by
 intro N
 induction N with
 |zero=>intro k m p q l;exact⟨fk1 func398,fun hp=>absurd hp.1 (Nat.not_lt_zero _)⟩
 |succ N ih=>
 intro k m p q l
 have jj:=Y1 N ih
 refine Xi func398 8 [.cell 2 267] [7] [] AN trivial ?_;intro hp h M G H E
 have hla:KE l<N∧l.length≤134217728∧(∀y∈l,y.wd):=⟨by have:=Nm (⟨k,m,⟨p,q⟩,l⟩:A7);have:=hp.1;simp only at*;omega,(Vm (⟨k,m,⟨p,q⟩,l⟩:A7)).1 hp.2⟩;replace H:=AI hla H
 all_goals exact GA0
instance sEvC (k m p q:Int) (l:List A7):Ct cx 398 [.d (.st [.lf (.int .i64 (k)),.lf (.int .i64 (m)),.st [.lf (.int .i64 (p)),.lf (.int .i64 (q))],.sl false Bd ((l).map (A7.dd false))])] (A7.wd (⟨k,m,⟨p,q⟩,l⟩:A7)) (.d (((⟨k,m,⟨p,q⟩,l⟩:A7)).dd true)):=⟨fk1 func398,fun hp h=>(cr _ k m p q l).cs ⟨Nat.lt_succ_self _,hp⟩ h⟩
instance iV (k m p q:Int) (l:List A7) (r:List Int):Ct cx 349 [.d (.st [.lf (.int .i64 (k)),.lf (.int .i64 (m)),.st [.lf (.int .i64 (p)),.lf (.int .i64 (q))],.sl false Bd ((l).map (A7.dd false))]),.d (.sl false .one ((r).map (dI)))] (A7.wd (⟨k,m,⟨p,q⟩,l⟩:A7)∧r.length≤134217728) (.d (((apS (⟨k,m,⟨p,q⟩,l⟩:A7) r)).dd true)):=by
 refine Xi func349 23 [.cell 4 267] [19,22] [] AN (@Kx) ?_;intro hp h M G H E
 have hew:=hp.1;replace H:=AI hew H
 repeat' (first|(refine IN.mk ?_;intros)|(refine iTw ?_;refine T2 ?_ ?_<;>((try clear H);intro hb H)<;>try exact hb.elim)|(refine LF.mk ?_;exact LX)|refine GN ?_|(refine XL [1,4,5] [4] (fun k0 _=>[(6,.d (.lf (.int .i64 (k0:Int))))]) (fun k0 _=>[(5,.d (((GC (⟨k,m,⟨p,q⟩,l⟩:A7) r k0)).dd true))]) (r.length) (fun _ _=>True) rU ?_;intro k0 hk0 s0 hi0;have hsn:∀h:k0<r.length,GC (⟨k,m,⟨p,q⟩,l⟩:A7) r (k0+1)=⟨3,r[k0],⟨0,0⟩,[GC (⟨k,m,⟨p,q⟩,l⟩:A7) r k0]⟩:=fun h=>RU h;have hse:r.length≤k0→GC (⟨k,m,⟨p,q⟩,l⟩:A7) r k0=apS (⟨k,m,⟨p,q⟩,l⟩:A7) r:=fun h=>OE h)|fail)
instance (priority:=2000) sPth2 (w:A1) (s to:ByteArray):Ct cx 351 [.d (As w),.d (.lf (.string (s))),.d (.lf (.string (to)))] (True) (.tp [.d (.sl true .one ((((pth w to 8 s).getD [])).map (dN))),.d (.lf (.bool ((pth w to 8 s).isSome)))]):=by
 refine Xi func351 14 [.tmp 6,.tmp 7] [12] [] AN trivial ?_;intro hp h M G H E
 all_goals exact GA2
instance sAsm (w:A1) (l:List A9):Ct cx 285 [.d (As w),.d (.sl false BA ((l).map (A9.dd false)))] (w.sz≤134217728∧l.length≤4∧(∀b∈l,b.AM.wd)) (.d (.sl true Bf (((asm w l)).map (AD.dd true)))):=by
 refine Xi func285 80 [.tmp 4] [18,48,60,62,75,79] [] AN (AI @Jt<|@Cu) ?_;intro hp h M G H E
 have hzw:=hp.1;have hll:=hp.2.1;have hwt:=fun k (h:k<l.length)=>hp.2.2 _ (gm h);have ho1:=bQ;have ho2:=bP;have ho3:=bO;replace H:=AI hzw (AI hwt (AI ho1 (AI ho2 (AI ho3 H))))
 repeat' (first|(refine iWL ?_;refine Cr M ?_)|(refine iDL ?_;refine CE M ?_)|(refine IN.mk ?_;intros)|(refine iTw ?_;refine T2 ?_ ?_<;>((try clear H);intro hb H)<;>try exact hb.elim)|(refine LF.mk ?_;exact LX)|refine GN ?_|(refine XL [1,2] [2] (fun k0 _=>[(6,.d (.lf (.int .i64 (k0:Int)))),(5,.d (.sl true Bf (((asK w l k0)).map (AD.dd true))))]) (fun _ _=>[]) (l.length) (fun _ _=>True) rU ?_;intro k0 hk0 s0 hi0;have hal:=Ig w l k0 hk0;have ham:k0*(1+w.sz)≤4*(1+w.sz):=Nat.mul_le_mul_right _ (by omega);have hae:l.length≤k0→asK w l k0=asm w l:=fun h=>MB h;have han:∀h:k0<l.length,asK w l (k0+1)=(asK w l k0++[⟨l[k0],(k0:Int),[]⟩])++(Cb w l[k0].AK).map (asO w l[k0] k0):=fun h=>P9 h)|(refine XL [1,2,6,7] [2] (fun k1 _=>[(8,.d (.lf (.int .i64 (k1:Int)))),(5,.d (.sl true Bf ((((asK w l k0++[(⟨l[k0],(k0:Int),[]⟩:AD)])++mp (asO w l[k0] k0) (Cb w l[k0].AK) k1)).map (AD.dd true))))]) (fun _ _=>[]) ((Cb w l[k0].AK).length) (fun _ _=>True) rU ?_;intro k1 hk1 s1 hi1;have hsl:=Ev w l[k0].AK;have hml:=Bh (asO w l[k0] k0) hk1;have hme:(Cb w l[k0].AK).length≤k1→mp (asO w l[k0] k0) (Cb w l[k0].AK) k1=(Cb w l[k0].AK).map (asO w l[k0] k0):=fun h=>Ba h;have hmn:∀h:k1<(Cb w l[k0].AK).length,mp (asO w l[k0] k0) (Cb w l[k0].AK) (k1+1)=mp (asO w l[k0] k0) (Cb w l[k0].AK) k1++[⟨⟨(Cb w l[k0].AK)[k1],l[k0].AM⟩,(k0:Int),((pth w (Cb w l[k0].AK)[k1] 8 l[k0].AK).getD []).map fun (n:Nat)=>(n:Int)⟩]:=fun h=>Ep h)|fail)
