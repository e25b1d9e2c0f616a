/- Part 37. No condition. -/
import Derived.Test.YtdooklofebdknaaGreatM33
import Derived.Test.YtdooklofebdknaaGreatM36
namespace Go.Proofs.YtdooklofebdknaaGreat
open Go.RowKit Tryz
set_option linter.unusedVariables false
set_option maxRecDepth 10000
set_option linter.unusedSimpArgs false
set_option maxHeartbeats 4000000
theorem Xw:∀(N:Nat) (k:Int) (n:ByteArray) (l:List A0),Ct cx 281 [.d (uK k n l)] (AQ (⟨k,n,l⟩:A0)<N∧A0.wd (⟨k,n,l⟩:A0)) (.d (.lf (.int .i64 (szW (⟨k,n,l⟩:A0))))):=by
 intro N
 induction N with
 |zero=>intro k n l;exact⟨fk1 func281,fun hp=>absurd hp.1 (Nat.not_lt_zero _)⟩
 |succ N ih=>
 intro k n l
 refine Xi func281 21 [.tmp 2] [] [] AN (@Mn) ?_;intro hp h M G H E
 have gs:∀j (hj:j<l.length),AQ l[j]<N:=fun j hj=>by have:=Bo hj;have:=BE (⟨k,n,l⟩:A0);have:=hp.1;simp only at*;omega
 have gx:∀j (hj:j<l.length),AQ l[j]<N∧l[j].wd:=fun j hj=>⟨gs j hj,Bj hp.2 _ (gm hj)⟩;have hlw:=Cz hp.2;simp only at hlw;replace H:=AI gx (AI hlw H)
 repeat' (first|(refine IN.mk ?_;intros)|(refine iTw ?_;refine T2 ?_ ?_<;>((try clear H);intro hb H)<;>try exact hb.elim)|(refine LF.mk ?_;exact LX)|refine GN ?_|(refine XL [1] [1] (fun k0 _=>[(4,.d (.lf (.int .i64 (k0:Int)))),(3,.d (.lf (.int .i64 (swK l k0))))]) (fun _ _=>[]) (l.length) (fun _ _=>True) rU ?_;intro k0 hk0 s0 hi0;have hse:l.length≤k0→swK l k0=szW (⟨k,n,l⟩:A0):=fun h=>Pj h k n;have hsn:∀h:k0<l.length,IntKind.i64.wrap (swK l k0+szW l[k0])=swK l (k0+1):=fun h=>U2 h)|fail)
instance (priority:=2000) sTszW (k:Int) (n:ByteArray) (l:List A0):Ct cx 281 [.d (uK k n l)] (A0.wd (⟨k,n,l⟩:A0)) (.d (.lf (.int .i64 (szW (⟨k,n,l⟩:A0))))):=⟨fk1 func281,fun hp h=>(Xw _ k n l).cs ⟨Nat.lt_succ_self _,hp⟩ h⟩
theorem Y3:∀(N:Nat) (v:ByteArray) (k:Int) (n:ByteArray) (l:List A0),Ct cx 280 [.d (uK k n l),.d (.lf (.string (v)))] (AQ (⟨k,n,l⟩:A0)<N∧A0.wd (⟨k,n,l⟩:A0)) (.d (.lf (.int .i64 (ocW v (⟨k,n,l⟩:A0))))):=by
 intro N
 induction N with
 |zero=>intro v k n l;exact⟨fk1 func280,fun hp=>absurd hp.1 (Nat.not_lt_zero _)⟩
 |succ N ih=>
 intro v k n l
 refine Xi func280 33 [.tmp 4] [] [] AN (@Un) ?_;intro hp h M G H E
 have gs:∀j (hj:j<l.length),AQ l[j]<N:=fun j hj=>by have:=Bo hj;have:=BE (⟨k,n,l⟩:A0);have:=hp.1;simp only at*;omega
 have gx:∀j (hj:j<l.length),AQ l[j]<N∧l[j].wd:=fun j hj=>⟨gs j hj,Bj hp.2 _ (gm hj)⟩;have hlw:=Cz hp.2;simp only at hlw;replace H:=AI gx (AI hlw H)
 have hoy:k=1∧n=v→(if k=1∧n=v then 1 else 0)=1:=fun h=>if_pos h;have hon:(k=1→¬n=v)→(if k=1∧n=v then 1 else 0)=0:=fun h=>if_neg (fun q=>h q.1 q.2)
 repeat' (first|exact true|(refine IN.mk ?_;intros)|(refine iTw ?_;refine T2 ?_ ?_<;>((try clear H);intro hb H)<;>try exact hb.elim)|(refine LF.mk ?_;exact LX)|refine BO.mk ?_ ?_|(apply iPJ;exact NPJ)|apply PXs.of|refine GN ?_|(have hca:=hoy hb;refine XL [1,2] [2] (fun k0 _=>[(6,.d (.lf (.int .i64 (k0:Int)))),(5,.d (.lf (.int .i64 (ocC v 1 l k0))))]) (fun _ _=>[]) (l.length) (fun _ _=>True) rU ?_;intro k0 hk0 s0 hi0;have hse:l.length≤k0→ocC v 1 l k0=ocW v (⟨k,n,l⟩:A0):=fun h=>QN h hca;have hsn:∀h:k0<l.length,IntKind.i64.wrap (ocC v 1 l k0+ocW v l[k0])=ocC v 1 l (k0+1):=fun h=>Uo h)|(have hca:=hon hb;refine XL [1,2] [2] (fun k0 _=>[(6,.d (.lf (.int .i64 (k0:Int)))),(5,.d (.lf (.int .i64 (ocC v 0 l k0))))]) (fun _ _=>[]) (l.length) (fun _ _=>True) rU ?_;intro k0 hk0 s0 hi0;have hse:l.length≤k0→ocC v 0 l k0=ocW v (⟨k,n,l⟩:A0):=fun h=>QN h hca;have hsn:∀h:k0<l.length,IntKind.i64.wrap (ocC v 0 l k0+ocW v l[k0])=ocC v 0 l (k0+1):=fun h=>Uo h)|fail)
instance (priority:=2000) sCntW (v:ByteArray) (k:Int) (n:ByteArray) (l:List A0):Ct cx 280 [.d (uK k n l),.d (.lf (.string (v)))] (A0.wd (⟨k,n,l⟩:A0)) (.d (.lf (.int .i64 (ocW v (⟨k,n,l⟩:A0))))):=⟨fk1 func280,fun hp h=>(Y3 _ v k n l).cs ⟨Nat.lt_succ_self _,hp⟩ h⟩
instance (priority:=2000) sOccW (v:ByteArray) (k:Int) (n:ByteArray) (l:List A0):Ct cx 233 [.d (.lf (.string (v))),.d (uK k n l)] (A0.wd (⟨k,n,l⟩:A0)∧AQ (⟨k,n,l⟩:A0)<4611686018427387904) (.d (.lf (.bool (decide (0<occ v (⟨k,n,l⟩:A0)))))):=by
 refine Xi func233 9 [.tmp 4] [] [] AN trivial ?_;intro hp h M G H E
 have hoe:=Um (v:=v) hp.2;have hwd:=hp.1;replace H:=AI hoe (AI hwd H)
 all_goals exact GA0
theorem cd:∀(N:Nat) (o:List ByteArray) (k:Int) (n:ByteArray) (l:List A0),Ct cx 344 [.d (uK k n l),.d (.sl true .one ((o).map (dS)))] (AQ (⟨k,n,l⟩:A0)<N∧tvO (⟨k,n,l⟩:A0) o) (.d (.sl true .one (((tvs (⟨k,n,l⟩:A0) o)).map (dS)))):=by
 intro N
 induction N with
 |zero=>intro o k n l;exact⟨fk1 func344,fun hp=>absurd hp.1 (Nat.not_lt_zero _)⟩
 |succ N ih=>
 intro o k n l
 refine Xi func344 36 [.tmp 4] [16,33,35] [33] AN (@Mi) ?_;intro hp h M G H E
 have gs:∀j (hj:j<l.length),AQ l[j]<N:=fun j hj=>by have:=Bo hj;have:=BE (⟨k,n,l⟩:A0);have:=hp.1;simp only at*;omega
 have hto:=hp.2;have htl:=XB hto;have hte:=GX hto;have hlw:=Cz hto.1;simp only at hlw;replace H:=AI htl (AI hlw H)
 repeat' (first|exact true|(refine IN.mk ?_;intros)|(refine iTw ?_;refine T2 ?_ ?_<;>((try clear H);intro hb H)<;>try exact hb.elim)|(refine LF.mk ?_;exact LX)|refine BO.mk ?_ ?_|(apply iPJ;exact NPJ)|apply PXs.of|refine GN ?_|(have hca:tvS o k n=(o++[n]):=(by unfold tvS;grind);refine XL [2] [2] (fun k0 _=>[(5,.d (.lf (.int .i64 (k0:Int)))),(1,.d (.sl true .one (((tvJ l (o++[n]) k0)).map (dS))))]) (fun _ _=>[]) (l.length) (fun _ _=>True) rU ?_;intro k0 hk0 s0 hi0;(have gx:∀hj:k0<l.length,AQ l[k0]<N∧tvO l[k0] (tvJ l (o++[n]) k0):=fun hj=>⟨gs k0 hj,by have:=Tf hto hj;unfold tvk at this;rw[hca] at this;exact this⟩);(have hse:l.length≤k0→tvJ l (o++[n]) k0=tvs (⟨k,n,l⟩:A0) o:=fun h=>by have q:=@Pc k n l o k0 h;unfold tvk at q;rw[hca] at q;exact q);have hsn:∀h:k0<l.length,tvs l[k0] (tvJ l (o++[n]) k0)=tvJ l (o++[n]) (k0+1):=fun h=>OL h)|(have hca:tvS o k n=o:=(by unfold tvS;grind);refine XL [2] [2] (fun k0 _=>[(5,.d (.lf (.int .i64 (k0:Int)))),(1,.d (.sl true .one (((tvJ l o k0)).map (dS))))]) (fun _ _=>[]) (l.length) (fun _ _=>True) rU ?_;intro k0 hk0 s0 hi0;(have gx:∀hj:k0<l.length,AQ l[k0]<N∧tvO l[k0] (tvJ l o k0):=fun hj=>⟨gs k0 hj,by have:=Tf hto hj;unfold tvk at this;rw[hca] at this;exact this⟩);(have hse:l.length≤k0→tvJ l o k0=tvs (⟨k,n,l⟩:A0) o:=fun h=>by have q:=@Pc k n l o k0 h;unfold tvk at q;rw[hca] at q;exact q);have hsn:∀h:k0<l.length,tvs l[k0] (tvJ l o k0)=tvJ l o (k0+1):=fun h=>OL h)|fail)
instance (priority:=2000) iK (o:List ByteArray) (k:Int) (n:ByteArray) (l:List A0):Ct cx 344 [.d (uK k n l),.d (.sl true .one ((o).map (dS)))] (tvO (⟨k,n,l⟩:A0) o) (.d (.sl true .one (((tvs (⟨k,n,l⟩:A0) o)).map (dS)))):=⟨fk1 func344,fun hp h=>(cd _ o k n l).cs ⟨Nat.lt_succ_self _,hp⟩ h⟩
instance (priority:=2000) sTv0 (k:Int) (n:ByteArray) (l:List A0):Ct cx 344 [.d (uK k n l),.d (.sl true .one [])] (tvO (⟨k,n,l⟩:A0) []) (.d (.sl true .one (((tvs (⟨k,n,l⟩:A0) [])).map (dS)))):=⟨(iK [] k n l).ok,fun hp h=>by have q:=(iK [] k n l).cs hp h;first|exact q|simpa using q⟩
instance (priority:=2000) sTypV (k:Int) (n:ByteArray) (l:List A0):Ct cx 277 [.d (uK k n l)] (tvO (⟨k,n,l⟩:A0) []) (.d (.sl true .one (((tv (⟨k,n,l⟩:A0))).map (dS)))):=by
 refine Xi func277 6 [.tmp 2] [4] [4] AN (@tv.eq_1) ?_;intro hp h M G H E
 all_goals exact GA0
theorem cm:∀(N:Nat) (k:Int) (n:ByteArray) (l:List A0),Ct cx 231 [.d (uK k n l)] (AQ (⟨k,n,l⟩:A0)<N∧A0.wd (⟨k,n,l⟩:A0)) (.d (.lf (.bool (Bq (⟨k,n,l⟩:A0))))):=by
 intro N
 induction N with
 |zero=>intro k n l;exact⟨fk1 func231,fun hp=>absurd hp.1 (Nat.not_lt_zero _)⟩
 |succ N ih=>
 intro k n l
 refine Xi func231 20 [.tmp 2] [] [] AN (AI @iW<|AI @iX<|@dA) ?_;intro hp h M G H E
 have gs:∀j (hj:j<l.length),AQ l[j]<N:=fun j hj=>by have:=Bo hj;have:=BE (⟨k,n,l⟩:A0);have:=hp.1;simp only at*;omega
 have gx:∀j (hj:j<l.length),AQ l[j]<N∧l[j].wd:=fun j hj=>⟨gs j hj,Bj hp.2 _ (gm hj)⟩;have hlw:=Cz hp.2;simp only at hlw;replace H:=AI gx (AI hlw H)
 repeat' (first|(refine IN.mk ?_;intros)|(refine iTw ?_;refine T2 ?_ ?_<;>((try clear H);intro hb H)<;>try exact hb.elim)|(refine LF.mk ?_;exact LX)|refine GN ?_|(refine XC [1] [1] 3 (l.length) (fun k0=>D1 l=D1 (l.drop k0)) ?_;intro k0 hk0 hi0)|fail)
instance (priority:=2000) sPjW (k:Int) (n:ByteArray) (l:List A0):Ct cx 231 [.d (uK k n l)] (A0.wd (⟨k,n,l⟩:A0)) (.d (.lf (.bool (Bq (⟨k,n,l⟩:A0))))):=⟨fk1 func231,fun hp h=>(cm _ k n l).cs ⟨Nat.lt_succ_self _,hp⟩ h⟩
instance (priority:=2000) sGndW (k:Int) (n:ByteArray) (l:List A0):Ct cx 431 [.d (uK k n l)] (tvO (⟨k,n,l⟩:A0) []) (.d (.lf (.bool (gnd (⟨k,n,l⟩:A0))))):=by
 refine Xi func431 12 [.tmp 2] [] [] AN (@gnd.eq_1) ?_;intro hp h M G H E
 have hwd:=hp.1;have htl:=GX hp;have htv:tv (⟨k,n,l⟩:A0)=tvs (⟨k,n,l⟩:A0) []:=rfl;rw[←htv] at htl;replace H:=AI hwd (AI htl H)
 all_goals exact GA1
instance sL6 (s:List A5):Ct cx 393 [.d (.sl true B9 ((s).map (A5.dd true)))] ((∀b∈s,b.AM.wd)∧s.length≤134217728) (.d (.sl true B9 ((s).map (A5.dd true)))):=by
 refine Xi func393 28 [.tmp 2] [12,27] [] AN (@Cu) ?_;intro hp h M G H E
 have hwb:=fun k (h:k<s.length)=>hp.1 _ (gm h);replace H:=AI hwb H
 repeat' (first|(refine IN.mk ?_;intros)|(refine iTw ?_;refine T2 ?_ ?_<;>((try clear H);intro hb H)<;>try exact hb.elim)|(refine LF.mk ?_;exact LX)|refine GN ?_|(refine XL [0] [] (fun k0 _=>[(4,.d (.lf (.int .i64 (k0:Int)))),(3,.d (.sl true B9 (((mp (fun b:A5=>b) s k0)).map (A5.dd true))))]) (fun _ _=>[]) (s.length) (fun _ _=>True) rU ?_;intro k0 hk0 s0 hi0;have hml:=Bh (fun b:A5=>b) hk0;(have hme:s.length≤k0→mp (fun b:A5=>b) s k0=s:=fun h=>by rw[Ba h];simp);have hmn:∀h:k0<s.length,mp (fun b:A5=>b) s (k0+1)=mp (fun b:A5=>b) s k0++[s[k0]]:=fun h=>Ep h)|fail)
instance sAp1 (v:ByteArray) (k:Int) (n:ByteArray) (l:List A0) (k2:Int) (n2:ByteArray) (l2:List A0):Ct cx 343 [.d (.sl false B9 [.st [.lf (.string v),uK k n l]]),.d (uK k2 n2 l2)] (A0.wd (⟨k2,n2,l2⟩:A0)∧A0.wd (⟨k,n,l⟩:A0)) (.d (((ap [⟨v,(⟨k,n,l⟩:A0)⟩] (⟨k2,n2,l2⟩:A0))).dd true)):=⟨fk1 func343,fun hp h=>by have q:=(d7 [⟨v,(⟨k,n,l⟩:A0)⟩] k2 n2 l2).cs ⟨hp.1,M6 hp.2⟩ h;first|exact q|simpa using q⟩
instance lq (s:List A5) (v:ByteArray) (k:Int) (n:ByteArray) (l:List A0):Ct cx 439 [.d (.sl true B9 ((s).map (A5.dd true))),.d (.lf (.string (v))),.d (uK k n l)] ((∀b∈s,b.AM.wd)∧s.length≤134217728∧A0.wd ⟨k,n,l⟩) (.d (.sl true B9 (((bnd s v ⟨k,n,l⟩)).map (A5.dd true)))):=by
 refine Xi func439 44 [.tmp 6] [12,21,37] [] AN (@Cu) ?_;intro hp h M G H E
 have hwb:=fun k (h:k<s.length)=>hp.1 _ (gm h);have hw1:=M6 (v:=v) hp.2.2;have hw2:=hp.2.2;have hbm:=M7 s v ⟨k,n,l⟩;have hbe:∀b,bnB v ⟨k,n,l⟩ b=⟨b.Fj,ap [⟨v,⟨k,n,l⟩⟩] b.AM⟩:=fun _=>rfl;replace H:=AI hwb (AI hw1 (AI hw2 (AI hbm (AI hbe H))))
 repeat' (first|(refine IN.mk ?_;intros)|(refine iTw ?_;refine T2 ?_ ?_<;>((try clear H);intro hb H)<;>try exact hb.elim)|(refine LF.mk ?_;exact LX)|refine GN ?_|(refine XL [0,1,5,8] [5] (fun k0 _=>[(9,.d (.lf (.int .i64 (k0:Int)))),(7,.d (.sl true B9 (((mp (bnB v ⟨k,n,l⟩) s k0)).map (A5.dd true))))]) (fun _ _=>[]) (s.length) (fun _ _=>True) rU ?_;intro k0 hk0 s0 hi0;have hml:=Bh (bnB v ⟨k,n,l⟩) hk0;have hme:s.length≤k0→mp (bnB v ⟨k,n,l⟩) s k0=s.map (bnB v ⟨k,n,l⟩):=fun h=>Ba h;have hmn:∀h:k0<s.length,mp (bnB v ⟨k,n,l⟩) s (k0+1)=mp (bnB v ⟨k,n,l⟩) s k0++[⟨s[k0].Fj,ap [⟨v,⟨k,n,l⟩⟩] s[k0].AM⟩]:=fun h=>Ep h)|fail)
theorem UJ (N:Nat) (ii:∀(k:Int) (n:ByteArray) (l:List A0) (k2:Int) (n2:ByteArray) (l2:List A0) (s:List A5),Ct cx 442 [.d (uK k n l),.d (uK k2 n2 l2),.d (.sl true B9 ((s).map (A5.dd true)))] (AQ (⟨k,n,l⟩:A0)<N∧A0.wd (⟨k2,n2,l2⟩:A0)∧bOk s (AQ (⟨k,n,l⟩:A0))) (mtR (mtT (⟨k,n,l⟩:A0) (⟨k2,n2,l2⟩:A0) s))):∀(p a:List A0) (s:List A5),Ct cx 440 [.d (.sl false Ag ((p).map (A0.dd false))),.d (.sl false Ag ((a).map (A0.dd false))),.d (.sl true B9 ((s).map (A5.dd true)))] (Ae p<N∧p.length=a.length∧(∀y∈a,y.wd)∧bOk s (Ae p)) (mtR (DI p a s)):=fun p a s=>by
 refine Xi func440 35 [.tmp 6,.tmp 7] [17,26,28,32,33,34] [26] AN (@ND) ?_;intro hp h M G H E
 have gx:∀k (hk:k<p.length),AQ p[k]<N:=fun k hk=>by have:=Bo hk;have:=hp.1;omega
 have hr1:=@Bw;have hr2:=CB;replace H:=AI hr1 (AI hr2 H)
 have hlen:=hp.2.1
 repeat' (first|(refine iT ?_;refine XkB 7 ?_)|(refine RTW.mk ?_;refine GN ?_)|(refine iWL ?_;refine Cr M ?_)|(refine iDL ?_;refine CE M ?_)|(refine IN.mk ?_;intros)|(refine iTw ?_;refine T2 ?_ ?_<;>((try clear H);intro hb H)<;>try (first|exact hb.elim|(exfalso;omega)))|(refine LF.mk ?_;exact LX)|refine GN ?_|(refine XL [0,1] [] (fun k0 _=>[(8,.d (.lf (.int .i64 (k0:Int)))),(2,.d (.sl true B9 (((mtK p a s k0)).map (A5.dd true))))]) (fun _ _=>[]) (p.length) (fun k0 _=>mtI p a s k0) rU ?_ (i0:=NE p a s);intro k0 hk0 s0 hi0;by_cases hkk:k0<p.length;rotate_left;have hme:=QU hlen hi0 (by omega);replace H:=AI hme H;rotate_left;(have hka:k0<a.length:=by omega);have hok:=Uv hi0 hkk hp.2.2.1 hp.2.2.2;have hwk:=hp.2.2.1 _ (gm hka);have hsk:=gx k0 hkk;replace H:=AI hok (AI hwk (AI hsk H));rcases hq:mtT p[k0] a[k0] (mtK p a s k0) with _|s1<;>replace H:=AI hq H;have hno:=Uw hlen hi0 hkk hq;replace H:=AI hno H;rotate_left;have hye:=QT hlen hi0 hkk hq;replace H:=AI hye.2 H;have hi1:=hye.1;rotate_left)|fail)
theorem iO:∀(N:Nat),∀(k:Int) (n:ByteArray) (l:List A0) (k2:Int) (n2:ByteArray) (l2:List A0) (s:List A5),Ct cx 442 [.d (uK k n l),.d (uK k2 n2 l2),.d (.sl true B9 ((s).map (A5.dd true)))] (AQ (⟨k,n,l⟩:A0)<N∧A0.wd (⟨k2,n2,l2⟩:A0)∧bOk s (AQ (⟨k,n,l⟩:A0))) (mtR (mtT (⟨k,n,l⟩:A0) (⟨k2,n2,l2⟩:A0) s)):=by
 intro N
 induction N with
 |zero=>intro k n l k2 n2 l2 s;exact⟨fk1 func442,fun hp=>absurd hp.1 (Nat.not_lt_zero _)⟩
 |succ N ih=>
 intro k n l k2 n2 l2 s
 have jj:=UJ N ih
 refine Xi func442 63 [.tmp 6,.tmp 7] [13,18,21,25,54,59,61] [59] AN trivial ?_;intro hp h M G H E
 have he:=Uu ⟨k,n,l⟩ ⟨k2,n2,l2⟩ s;simp only at he
 have hsl:Ae l<N:=by have:=BE ⟨k,n,l⟩;have:=hp.1;simp only at*;omega
 have hwm:=Bj hp.2.1;have hbs:=hp.2.2.1;have hbl:=hp.2.2.2;have hb2:bOk s (Ae l):=⟨hbs,by have:=BE ⟨k,n,l⟩;simp only at*;omega⟩;replace H:=AI hsl (AI hwm (AI hb2 (AI hbs H)))
 have hr1:=@Bw;have hr2:=CB;replace H:=AI hr1 (AI hr2 H)
 rcases hq:DI l l2 s with _|s1<;>replace H:=AI hq H
 repeat' (first|exact true|(refine iT ?_;refine XkB 7 ?_)|(refine RTW.mk ?_;refine GN ?_)|(refine iWL ?_;refine Cr M ?_)|(refine iDL ?_;refine CE M ?_)|(refine IN.mk ?_;intros)|(refine iTw ?_;refine T2 ?_ ?_<;>((try clear H);intro hb H)<;>try exact hb.elim)|(refine LF.mk ?_;exact LX)|refine BO.mk ?_ ?_|(apply iPJ;exact NPJ)|apply PXs.of|refine GN ?_)
instance iN (p a:List A0) (s:List A5):Ct cx 440 [.d (.sl false Ag ((p).map (A0.dd false))),.d (.sl false Ag ((a).map (A0.dd false))),.d (.sl true B9 ((s).map (A5.dd true)))] (p.length=a.length∧(∀y∈a,y.wd)∧bOk s (Ae p)) (mtR (DI p a s)):=⟨fk1 func440,fun hp h=>(UJ _ (iO _) p a s).cs ⟨Nat.lt_succ_self _,hp⟩ h⟩
instance sMt0 (p a:List A0):Ct cx 440 [.d (.sl false Ag ((p).map (A0.dd false))),.d (.sl false Ag ((a).map (A0.dd false))),.d (.sl true B9 [])] (p.length=a.length∧(∀y∈a,y.wd)∧bOk [] (Ae p)) (mtR (DI p a [])):=⟨(iN p a []).ok,fun hp h=>by have q:=(iN p a []).cs hp h;first|exact q|simpa using q⟩
instance cp (p a:List A0):Ct cx 428 [.d (.sl false Ag ((p).map (A0.dd false))),.d (.sl false Ag ((a).map (A0.dd false)))] ((∀y∈a,y.wd)∧Ae p≤134217728) (.tp [.d (.sl true B9 ((((FD p a []).getD [])).map (A5.dd true))),.d (.lf (.bool ((FD p a []).isSome)))]):=by
 refine Xi func428 25 [.tmp 4,.tmp 5] [14,17,19,24] [17] AN (@FD.eq_1) ?_;intro hp h M G H E
 have hr1:=@Bw;have hr2:=CB;replace H:=AI hr1 (AI hr2 H)
 have hb0:=RO hp.2;have hwa:=hp.1;replace H:=AI hb0 (AI hwa H)
 rcases hq:DI p a [] with _|s1<;>replace H:=AI hq H
 all_goals exact GA6
def fAj:List AD→A9→Nat→Int
 |[],_,_=> -1
 |a::l,g,i=>if eqG a.DS g=true then (i:Int) else fAj l g (i+1)
theorem eP {l:List AD} {g:A9} {k:Nat} (h:k<l.length):fAj (l.drop k) g k=if eqG l[k].DS g=true then (k:Int) else fAj (l.drop (k+1)) g (k+1):=by
 rw[List.drop_eq_getElem_cons h];rfl
theorem Z5 {l:List AD} {g:A9} {k:Nat} (h:l.length≤k):fAj (l.drop k) g k= -1:=by
 rw[List.drop_eq_nil_of_le h];rfl
def fAi (F:List AD) (g:A9):Int:=fAj F g 0
mutual
def evN:A7→Nat
 |⟨_,_,_,l⟩=>1+KE l
def KE:List A7→Nat
 |[]=>0
 |x::l=>evN x+KE l
end
mutual
def A7.wd:A7→Prop
 |⟨_,_,_,l⟩=>l.length≤134217728∧A7.wds l
def A7.wds:List A7→Prop
 |[]=>True
 |x::l=>x.wd∧A7.wds l
end
theorem Qz:∀{l:List A7},A7.wds l→∀y∈l,y.wd
 |x::l,h,y,hy=>by
  simp only[A7.wds] at h
  rcases List.mem_cons.1 hy with rfl|hy
  ·exact h.1
  ·exact Qz h.2 y hy
theorem Vj:∀{l:List A7},(∀y∈l,y.wd)→A7.wds l
 |[],_=>trivial
 |x::l,h=>by simp only[A7.wds];exact⟨h x (by simp),Vj fun y hy=>h y (by simp[hy])⟩
theorem Vm (x:A7):x.wd↔x.AB.length≤134217728∧∀y∈x.AB,y.wd:=by
 cases x;simp only[A7.wd]
 exact⟨fun h=>⟨h.1,Qz h.2⟩,fun h=>⟨h.1,Vj h.2⟩⟩
theorem R2 {l:List A7} {k:Nat} (h:k<l.length):evN l[k]≤KE l:=by
 induction l generalizing k with
 |nil=>simp at h
 |cons x l ih=>
  cases k with
  |zero=>simp[KE]
  |succ k=>have:=ih (k:=k) (by simpa using h);simp only[KE,List.getElem_cons_succ];omega
theorem Nm (x:A7):KE x.AB<evN x:=by cases x;simp only[evN];omega
theorem Vn:∀x:A7,(⟨x.AH,x.fN,⟨x.fAt.BI,x.fAt.fAt⟩,x.AB⟩:A7)=x:=fun x=>by cases x;rfl
def GC (e:A7) (l:List Int) (k:Nat):A7:=apS e (l.take k)
theorem Kx (e:A7) (l:List Int):GC e l 0=e:=by simp[GC,apS]
theorem RU {e:A7} {l:List Int} {k:Nat} (h:k<l.length):GC e l (k+1)=⟨3,l[k],⟨0,0⟩,[GC e l k]⟩:=by
 unfold GC apS;rw[Y' h,List.foldl_append];rfl
theorem OE {e:A7} {l:List Int} {k:Nat} (h:l.length≤k):GC e l k=apS e l:=by unfold GC;rw[List.take_of_length_le h]
def asO (w:A1) (b:A9) (i:Nat) (u:ByteArray):AD:=⟨⟨u,b.AM⟩,(i:Int),((pth w u 8 b.AK).getD []).map fun (n:Nat)=>(n:Int)⟩
theorem bQ (w:A1) (b:A9) (i:Nat) (u:ByteArray):(asO w b i u).DS=⟨u,b.AM⟩:=rfl
theorem bP (w:A1) (b:A9) (i:Nat) (u:ByteArray):(asO w b i u).Es=(i:Int):=rfl
theorem bO (w:A1) (b:A9) (i:Nat) (u:ByteArray):(asO w b i u).DX.map dI=((pth w u 8 b.AK).getD []).map dN:=by unfold asO;rw[List.map_map];rfl
noncomputable def asK (w:A1) (l:List A9) (k:Nat):List AD:=asF w 0 (l.take k)
theorem Jt (w:A1) (l:List A9):asK w l 0=[]:=by simp[asK,asF]
theorem RP (w:A1):∀(a b:List A9) (i:Nat),asF w i (a++b)=asF w i a++asF w (i+a.length) b
 |[],b,i=>by simp[asF]
 |x::a,b,i=>by
  have h:=RP w a b (i+1)
  simp only[List.cons_append,asF,h,List.append_assoc,List.length_cons]
  rw[show i+1+a.length=i+(a.length+1) by omega]
theorem P9 {w:A1} {l:List A9} {k:Nat} (h:k<l.length):asK w l (k+1)=(asK w l k++[⟨l[k],(k:Int),[]⟩])++(Cb w l[k].AK).map (asO w l[k] k):=by
 unfold asK
 rw[Y' h,RP]
 have:(l.take k).length=k:=by simp;omega
 simp only[asF,this,Nat.zero_add,List.append_nil,List.append_assoc,List.singleton_append];rfl
theorem MB {w:A1} {l:List A9} {k:Nat} (h:l.length≤k):asK w l k=asm w l:=by unfold asK asm;rw[List.take_of_length_le h]
theorem Ig (w:A1) (l:List A9):∀k,k≤l.length→(asK w l k).length≤k*(1+w.sz)
 |0,_=>by simp[Jt]
 |k+1,h=>by
  have h1:=Ig w l k (by omega)
  have h2:=Ev w (l[k]'(by omega)).AK
  rw[P9 (by omega)]
  simp only[List.length_append,List.length_singleton,List.length_map]
  rw[Nat.add_mul,Nat.one_mul];omega
theorem d9 (x:A3):(x.dd true).ow:=by simp[DD.ow,DD.ows]
@[simp] theorem Y8:∀l:List A3,DD.ows (l.map (A3.dd true))
 |[]=>trivial
 |x::l=>by simp only[List.map_cons,DD.ows];exact⟨d9 x,Y8 l⟩
@[simp] theorem jx (a b:List DD):DD.ows (a++b)=(DD.ows a∧DD.ows b):=by
 refine propext ⟨fun h=> ?_,fun h=> ?_⟩
 ·rw[DD.ows_iff] at h
  exact⟨(DD.ows_iff a).2 fun d hd=>h d (List.mem_append_left _ hd),(DD.ows_iff b).2 fun d hd=>h d (List.mem_append_right _ hd)⟩
 ·rw[DD.ows_iff]
  intro d hd
  rcases List.mem_append.1 hd with hd|hd
  ·exact(DD.ows_iff a).1 h.1 d hd
  ·exact(DD.ows_iff b).1 h.2 d hd
section
variable {q:A3→Bool} {l:List A3}
def dlC (q:A3→Bool) (l:List A3) (j:Nat):Nat:=((l.take j).filter q).length
def dlR (q:A3→Bool) (l:List A3) (j:Nat):List A3:=(l.take j).filter q++l.drop (dlC q l j)
theorem P3 (q:A3→Bool) (l:List A3) (j:Nat):dlC q l j≤j:=by
 have h:=List.length_filter_le q (l.take j)
 unfold dlC;simp only[List.length_take] at h;omega
theorem Lz (q:A3→Bool) (l:List A3) (j:Nat):dlC q l j≤l.length:=by
 have h:=List.length_filter_le q (l.take j)
 unfold dlC;simp only[List.length_take] at h;omega
theorem HA (q:A3→Bool) (l:List A3) (j:Nat):(dlR q l j).length=l.length:=by
 have h:=Lz q l j
 unfold dlR;rw[List.length_append,List.length_drop]
 show dlC q l j+_=_
 omega
theorem ek {j:Nat} (h:j<l.length) (h2:j<(dlR q l j).length):(dlR q l j)[j]=l[j]:=by
 have h1:=P3 q l j
 have e:(dlR q l j)[j]? =l[j]? :=by
  unfold dlR
  rw[List.getElem?_append_right (by show dlC q l j≤j;exact h1),List.getElem?_drop]
  show l[dlC q l j+(j - dlC q l j)]? =_
  rw[show dlC q l j+(j - dlC q l j)=j by omega]
 rw[List.getElem?_eq_getElem h2,List.getElem?_eq_getElem h] at e
 exact Option.some.inj e
theorem H9 {j:Nat} (h:j<l.length):(l.take (j+1)).filter q=(l.take j).filter q++if q l[j]=true then [l[j]] else []:=by
 rw[Y' h,List.filter_append]
 by_cases e:q l[j]=true<;>simp[e]
theorem P2 {j:Nat} (h:j<l.length) (e:q l[j]=false):dlC q l (j+1)=dlC q l j:=by unfold dlC;rw[H9 h];simp[e]
theorem ej {j:Nat} (h:j<l.length) (e:q l[j]=false):dlR q l (j+1)=dlR q l j:=by unfold dlR;rw[P2 h e,H9 h];simp[e]
theorem R6 {j:Nat} (h:j<l.length) (e:q l[j]=true):dlC q l (j+1)=dlC q l j+1:=by unfold dlC;rw[H9 h];simp[e]
theorem ZF {j:Nat} (h:j<l.length) (e:q l[j]=true):dlR q l (j+1)=(dlR q l j).set (dlC q l j) l[j]:=by
 have h1:=P3 q l j
 unfold dlR
 rw[R6 h e,H9 h,if_pos e,List.set_append_right _ _ (by show dlC q l j≤dlC q l j;omega)]
 show _=_++(l.drop (dlC q l j)).set (dlC q l j - dlC q l j) l[j]
 rw[Nat.sub_self,List.drop_eq_getElem_cons (show dlC q l j<l.length by omega),List.set_cons_zero,List.append_assoc]
 rfl
theorem ZH {j:Nat} (h:j<l.length) (h2:j<((dlR q l j).map (A3.dd true)).length):D8 (((dlR q l j).map (A3.dd true))[j]) []=l[j].dd true:=by
 rw[List.getElem_map,ek h];simp[D8]
theorem ZG {j:Nat} (h:j<l.length) (e:q l[j]=true) (h2:dlC q l j<((dlR q l j).map (A3.dd true)).length):((dlR q l j).map (A3.dd true)).set (dlC q l j) (Dd (((dlR q l j).map (A3.dd true))[dlC q l j]) [] (.st [.lf (.int .i64 l[j].BI),.lf (.int .i64 l[j].fAt)]))=(dlR q l (j+1)).map (A3.dd true):=by
 rw[ZF h e,List.map_set]
 cases ((dlR q l j).map (A3.dd true))[dlC q l j]<;>simp[Dd]
theorem ZI:(dlR q l l.length).take (dlC q l l.length)=l.filter q:=by
 unfold dlR dlC
 rw[List.take_length,List.take_left']
 rfl
theorem Vx {j m:Nat} {z:DD} (h:j=l.length):(((dlR q l j).map (A3.dd true)).take (dlC q l j)++List.replicate m z).take (dlC q l j)=(l.filter q).map (A3.dd true):=by
 subst h
 have h1:=Lz q l l.length
 rw[←List.map_take,ZI,List.take_left']
 unfold dlC
 simp
theorem Vw (q:A3→Bool) (l:List A3):(CR l (fun y=> !q y)= -1∧l.filter q=l)∨∃i,i<l.length∧CR l (fun y=> !q y)=(i:Int)∧dlC q l (i+1)=i∧dlR q l (i+1)=l:=by
 unfold CR
 cases hq:l.findIdx? fun y=> !q y with
 |none=>
  left
  rw[List.findIdx?_eq_none_iff] at hq
  refine⟨rfl,List.filter_eq_self.2 fun y hy=> ?_⟩
  simpa using hq y hy
 |some i=>
  right
  rw[List.findIdx?_eq_some_iff_getElem] at hq
  obtain⟨h1,h2,h3⟩:=hq
  have h4:(l.take i).filter q=l.take i:=List.filter_eq_self.2 fun y hy=>by
   obtain⟨j,hj,rfl⟩:=List.getElem_of_mem hy
   rw[List.getElem_take]
   simp only[List.length_take] at hj
   simpa using h3 j (by omega)
  have h5:q l[i]=false:=by simpa using h2
  have h6:dlC q l (i+1)=i:=by rw[P2 h1 h5];unfold dlC;rw[h4];simp;omega
  refine⟨i,h1,rfl,h6,?_⟩
  unfold dlR
  rw[h6,H9 h1,h4]
  simp[h5]
end
theorem bB {α:Type} {P:A0→Prop} {ok:α→Prop} {step:A0→α→α} (hP:∀x,P x→x.AB.length≤134217728∧∀y∈x.AB,P y) (hok:∀y c,P y→ok c→ok (step y c)):∀(n:Nat) (x:A0),AQ x<n→P x→∀c,ok c→ok (ev step x c)
 |0,x,h,_=>by omega
 |n+1,⟨a,s,l⟩,h,hx=>fun c hc=>by
  simp only[ev]
  have h1:=BE ⟨a,s,l⟩
  have hl:∀(l:List A0),Ae l<n→(∀y∈l,P y)→∀c,ok c→ok (evs step l c):=by
   intro l
   induction l with
   |nil=>intro _ _ c hc;simpa[evs] using hc
   |cons y l ih=>
    intro hs hy c hc
    simp only[Ae] at hs
    simp only[evs]
    exact ih (by omega) (fun z hz=>hy z (by simp[hz])) _ (bB hP hok n y (by omega) (hy y (by simp)) c hc)
  exact hl l (by simp only at h1;omega) (hP _ hx).2 _ (hok _ _ hx hc)
theorem eQ {α:Type} {P:A0→Prop} {ok:α→Prop} {step:A0→α→α} (hP:∀x,P x→x.AB.length≤134217728∧∀y∈x.AB,P y) (hok:∀y c,P y→ok c→ok (step y c)) {x:A0} (hx:P x) {c:α} (hc:ok c) (k:Nat):ok (evK step x c k):=by
 have hl:∀(l:List A0),(∀y∈l,P y)→∀c,ok c→ok (evs step l c):=by
  intro l
  induction l with
  |nil=>intro _ c hc;simpa[evs] using hc
  |cons y l ih=>
   intro hy c hc
   simp only[evs]
   exact ih (fun z hz=>hy z (by simp[hz])) _ (bB hP hok _ y (Nat.lt_succ_self _) (hy y (by simp)) c hc)
 exact hl _ (fun y hy=>(hP x hx).2 y (List.mem_of_mem_take hy)) _ (hok _ _ hx hc)
@[simp] theorem kR (xs:List DD) (a:AV):AV.ups (xs.map AV.el++[a])=xs.map AV.el++[a.up]:=by
 induction xs with
 |nil=>simp[AV.ups]
 |cons x xs ih=>simp only[List.map_cons,List.cons_append,AV.ups,ih,AV.up]
@[simp] theorem kP (xs:List DD) (a:AV):AV.vws (xs.map AV.el++[a])=xs.map AV.el++[a.vw]:=by
 induction xs with
 |nil=>simp[AV.vws]
 |cons x xs ih=>simp only[List.map_cons,List.cons_append,AV.vws,ih,AV.vw]
@[simp] theorem nR (L:List (Nat×AV)) (xs:List DD) (a:AV):AV.cls L (xs.map AV.el++[a])=a.cl L:=by
 induction xs with
 |nil=>simp[AV.cls]
 |cons x xs ih=>simp only[List.map_cons,List.cons_append,AV.cls,ih,AV.cl,true_and]
instance iAp1 (v:ByteArray) (k:Int) (n:ByteArray) (l:List A0) (k2:Int) (n2:ByteArray) (l2:List A0):Ct cx 354 [.d (.sl false B9 [.st [.lf (.string v),uK k n l]]),.d (uK k2 n2 l2)] (A0.wd (⟨k2,n2,l2⟩:A0)∧A0.wd (⟨k,n,l⟩:A0)) (.d (((ap [⟨v,(⟨k,n,l⟩:A0)⟩] (⟨k2,n2,l2⟩:A0))).dd true)):=⟨fk1 func354,fun hp h=>by have q:=(eB [⟨v,(⟨k,n,l⟩:A0)⟩] k2 n2 l2).cs ⟨hp.1,M6 hp.2⟩ h;first|exact q|simpa using q⟩
def IG (a b:List ByteArray):List ByteArray:=a++b
theorem WQ (a b:List ByteArray):(IG a b).length=a.length+b.length:=List.length_append
theorem X7 {a b:List ByteArray} {k:Nat} (h:(IG a b).length≤k):unK [] (IG a b) k=unN a b:=by rw[LE h];exact List.foldl_append
theorem gF {o l:List ByteArray} {k:Nat} (h:k<l.length) (e:B6 (unK o l k) l[k]=true):unK o l (k+1)=unK o l k:=by rw[LC h,if_pos e]
theorem gG {o l:List ByteArray} {k:Nat} (h:k<l.length) (e:B6 (unK o l k) l[k]=false):unK o l (k+1)=unK o l k++[l[k]]:=by rw[LC h,if_neg (by rw[e];decide)]
instance mV (a b:List ByteArray):Ct cx 387 [.d (.sl false .one [.sl false .one (a.map dS),.sl false .one (b.map dS)])] (a.length+b.length≤536870912) (.d (.sl true .one ((IG a b).map dS))):=⟨fk1 func387,fun hp h=>by have q:=I9 [a,b] (by simp) (by simp[Fu];omega) h;simpa[J1,IG] using q⟩
instance mH (a b:List ByteArray):Ct cx 404 [.d (.sl false .one ((a).map (dS))),.d (.sl false .one ((b).map (dS)))] (a.length+b.length≤536870912) (.d (.sl true .one (((unN a b)).map (dS)))):=by
 refine Xi func404 32 [.tmp 4] [11,12,26,31] [] AN (@MY) ?_;intro hp h M G H E
 have hcl:=WQ a b
 repeat' (first|(refine iR (i:=3) ?_;refine XqO 6 ?_;intro v0)|(refine iWL ?_;first|refine XqN ?_|refine Xqm M ?_|refine XqH 6 ?_ (hr:=by first|assumption|rfl)|refine XqP 6 ?_ (hE:=by first|exact Eq.symm (by assumption)|rfl))|(refine IN.mk ?_;intros)|(refine iTw ?_;refine T2 ?_ ?_<;>((try clear H);intro hb H)<;>try (first|exact hb.elim|(exfalso;omega)))|(refine LF.mk ?_;exact LX)|refine GN ?_|(refine XL [14,15] [] (fun k0 _=>[(16,.d (.lf (.int .i64 (k0:Int)))),(5,.d (.sl true .one (((unK [] (IG a b) k0)).map (dS)))),(6,.mn v0 (unK [] (IG a b) k0))]) (fun _ _=>[]) ((IG a b).length) (fun _ _=>True) rU ?_;intro k0 hk0 s0 hi0;have hul:=LD [] (IG a b) k0;simp only[List.length_nil,Nat.zero_add] at hul;by_cases hkk:k0<(IG a b).length;rotate_left;have hue:=X7 (a:=a) (b:=b) (k:=k0) (by omega);replace H:=AI hue H;rotate_left;rcases hq:B6 (unK [] (IG a b) k0) (IG a b)[k0] with _|_;have hun:=gG hkk hq;replace H:=AI hun H;rotate_left;have hun:=gF hkk hq;replace H:=AI hun H;rotate_left)|fail)
