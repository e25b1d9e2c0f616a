/- Part 39. No condition. -/
import Derived.Test.YtdooklofebdknaaGreatM37
import Derived.Test.YtdooklofebdknaaGreatM38
namespace Go.Proofs.YtdooklofebdknaaGreat
open Go.RowKit Tryz
set_option linter.unusedVariables false
set_option maxRecDepth 10000
set_option linter.unusedSimpArgs false
set_option maxHeartbeats 4000000
instance sMtO (k:Int) (n:ByteArray) (l:List A0) (k2:Int) (n2:ByteArray) (l2:List A0):Ct cx 428 [.d (.sl false Ag [(uK k n l)]),.d (.sl false Ag [(uK k2 n2 l2)])] (A0.wd (⟨k2,n2,l2⟩:A0)∧AQ (⟨k,n,l⟩:A0)≤134217728) (.tp [.d (.sl true B9 ((((mtc (⟨k,n,l⟩:A0) (⟨k2,n2,l2⟩:A0)).getD [])).map (A5.dd true))),.d (.lf (.bool ((mtc (⟨k,n,l⟩:A0) (⟨k2,n2,l2⟩:A0)).isSome)))]):=⟨fk1 func428,fun hp h=>by have q:=(cp [(⟨k,n,l⟩:A0)] [(⟨k2,n2,l2⟩:A0)]).cs ⟨by simpa using hp.1,by simpa[Ae] using hp.2⟩ h;rw[Ke] at q;simpa using q⟩
instance sMtc (k:Int) (n:ByteArray) (l:List A0) (k2:Int) (n2:ByteArray) (l2:List A0):Ct cx 396 [.d (uK k n l),.d (uK k2 n2 l2)] (A0.wd (⟨k2,n2,l2⟩:A0)∧AQ (⟨k,n,l⟩:A0)≤134217728) (.tp [.d (.sl true B9 ((((mtc (⟨k,n,l⟩:A0) (⟨k2,n2,l2⟩:A0)).getD [])).map (A5.dd true))),.d (.lf (.bool ((mtc (⟨k,n,l⟩:A0) (⟨k2,n2,l2⟩:A0)).isSome)))]):=by
 refine Xi func396 13 [.tmp 4,.tmp 5] [11] [] AN trivial ?_;intro hp h M G H E
 have hp1:=hp.1;replace H:=AI hp1 H
 all_goals exact GA2
instance sMtB (k:Int) (n:ByteArray) (l:List A0) (k2:Int) (n2:ByteArray) (l2:List A0):Ct cx 345 [.d (uK k n l),.d (uK k2 n2 l2)] (A0.wd (⟨k2,n2,l2⟩:A0)∧AQ (⟨k,n,l⟩:A0)≤134217728) (.d (.lf (.bool (mtB (⟨k,n,l⟩:A0) (⟨k2,n2,l2⟩:A0))))):=by
 refine Xi func345 14 [.tmp 4] [] [] AN (@NG) ?_;intro hp h M G H E
 have hp1:=hp.1;replace H:=AI hp1 H
 all_goals exact GA0
instance sAls (k:Int) (n:ByteArray) (l:List A0) (k2:Int) (n2:ByteArray) (l2:List A0):Ct cx 278 [.d (uK k n l),.d (uK k2 n2 l2)] (A0.wd (⟨k,n,l⟩:A0)∧AQ (⟨k2,n2,l2⟩:A0)≤134217728) (.d (.lf (.bool (mtB (⟨k2,n2,l2⟩:A0) (⟨k,n,l⟩:A0))))):=by
 refine Xi func278 8 [.tmp 4] [] [] AN trivial ?_;intro hp h M G H E
 have hp1:=hp.1;replace H:=AI hp1 H
 all_goals exact GA0
instance sMore (k:Int) (n:ByteArray) (l:List A0) (k2:Int) (n2:ByteArray) (l2:List A0):Ct cx 204 [.d (uK k n l),.d (uK k2 n2 l2)] (A0.sz (⟨k,n,l⟩:A0)≤134217727∧A0.sz (⟨k2,n2,l2⟩:A0)≤134217727) (.d (.lf (.bool (Gp (⟨k,n,l⟩:A0) (⟨k2,n2,l2⟩:A0))))):=by
 refine Xi func204 14 [.tmp 4] [] [] AN (@Gp.eq_1) ?_;intro hp h M G H E
 have hp1:=CK (Nat.le_trans hp.1 (by decide));have hp2:=CK (Nat.le_trans hp.2 (by decide));have hs1:AQ (⟨k,n,l⟩:A0)≤134217728:=Nat.le_trans (Cm _) (by have:=hp.1;omega);have hs2:AQ (⟨k2,n2,l2⟩:A0)≤134217728:=Nat.le_trans (Cm _) (by have:=hp.2;omega);replace H:=AI hp1 (AI hp2 H)
 all_goals exact GA1
instance lQ (a b:List ByteArray):Ct cx 341 [.d (.sl false .one ((a).map (dS))),.d (.sl false .one ((b).map (dS)))] (a.length+b.length≤536870912) (.d (.sl true .one (((unN a b)).map (dS)))):=by
 refine Xi func341 50 [.tmp 4] [22,42,49] [] AN (AI @unN.eq_1<|@MY) ?_;intro hp h M G H E
 repeat' (first|(refine IN.mk ?_;intros)|(refine iTw ?_;refine T2 ?_ ?_<;>((try clear H);intro hb H)<;>try exact hb.elim)|(refine LF.mk ?_;exact LX)|refine GN ?_|(refine XL [0,1] [] (fun k0 _=>[(6,.d (.lf (.int .i64 (k0:Int)))),(5,.d (.sl true .one (((unK [] a k0)).map (dS))))]) (fun _ _=>[]) (a.length) (fun _ _=>True) rU ?_;intro k0 hk0 s0 hi0;have hul:=LD [] a k0;have hue:a.length≤k0→unK [] a k0=unO [] a:=fun h=>LE h;have hun:∀h:k0<a.length,unK [] a (k0+1)=if B6 (unK [] a k0) a[k0]=true then unK [] a k0 else unK [] a k0++[a[k0]]:=fun h=>LC h)|(refine XL [1] [] (fun k1 _=>[(7,.d (.lf (.int .i64 (k1:Int)))),(5,.d (.sl true .one (((unK (unO [] a) b k1)).map (dS))))]) (fun _ _=>[]) (b.length) (fun _ _=>True) rU ?_;intro k1 hk1 s1 hi1;have hul:=LD (unO [] a) b k1;have huo:=GM a [];have hue:b.length≤k1→unK (unO [] a) b k1=unO (unO [] a) b:=fun h=>LE h;have hun:∀h:k1<b.length,unK (unO [] a) b (k1+1)=if B6 (unK (unO [] a) b k1) b[k1]=true then unK (unO [] a) b k1 else unK (unO [] a) b k1++[b[k1]]:=fun h=>LC h)|fail)
instance lY (s:ByteArray):Ct cx 342 [.d (.lf (.string (s)))] (True) (.d (((⟨1,s,[]⟩:A0)).dd true)):=by
 refine Xi func342 5 [.cell 2 65] [] [] AN trivial ?_;intro hp h M G H E
 all_goals exact GA0
instance lm (b:A9) (k:Int) (s:ByteArray) (l:List A0):Ct cx 206 [.d (Dr b),.d (uK k s l)] (b.sz≤134217728∧A0.sz ⟨k,s,l⟩≤134217728) (.d (.lf (.bool (bSm b ⟨k,s,l⟩)))):=⟨fk1 func206,fun hp h=>by have q:=lp b ⟨k,s,l⟩ hp h;first|exact q|simpa using q⟩
instance me (b:A9) (k:Int) (s:ByteArray) (l:List A0):Ct cx 216 [.d (Dr b),.d (uK k s l)] (b.sz≤134217728∧A0.sz ⟨k,s,l⟩≤134217728) (.d (.lf (.bool (bSm b ⟨k,s,l⟩)))):=⟨fk1 func216,fun hp h=>by have q:=mf b ⟨k,s,l⟩ hp h;first|exact q|simpa using q⟩
def te1 (x:AJ) (b:A9):Bool:=bSm b x.Ar
theorem KM (x:AJ):FU x=x.Af.all (te1 x):=rfl
theorem MF {α:Type} (p:α→Bool):∀l:List α,(!(l.any fun y=> !p y))=l.all p
  |[]=>rfl
  |x::l=>by simp only[List.any_cons,List.all_cons,Bool.not_or,Bool.not_not,MF p l]
instance sTer (x:AJ):Ct cx 143 [.d (E4 x)] (x.sz≤134217728) (.d (.lf (.bool (FU x)))):=by
 refine Xi func143 20 [.tmp 2] [] [] AN (AI @KM<|AI @te1.eq_1<|AI @Bb<|@BK) ?_;intro hp h M G H E
 have hxz:=x.sz_eq;unfold szs at hxz
 have hbs:∀k (hk:k<x.Af.length),(x.Af[k]).sz≤134217728∧x.Ar.sz≤134217728:=fun k hk=>⟨by have:=Ah A9.sz (gm hk);omega,by omega⟩
 replace H:=AI hbs H
 repeat' (first|(refine IN.mk ?_;intros)|(refine iTw ?_;refine T2 ?_ ?_<;>((try clear H);intro hb H)<;>try exact hb.elim)|(refine LF.mk ?_;exact LX)|refine GN ?_|(refine XC [1] [1] 3 (x.Af.length) (fun k0=>x.Af.all (te1 x)=(x.Af.drop k0).all (te1 x)) ?_;intro k0 hk0 hi0)|fail)
theorem VJ (N:Nat) (ii:∀(k:Int) (n:ByteArray) (l:List A0) (k2:Int) (n2:ByteArray) (l2:List A0) (s:List A5),Ct cx 437 [.d (.sl true B9 ((s).map (A5.dd true))),.d (uK k n l),.d (uK k2 n2 l2)] (AQ (⟨k,n,l⟩:A0)<N∧A0.wd (⟨k2,n2,l2⟩:A0)∧bOk s (AQ (⟨k,n,l⟩:A0))) (mtR (mtT (⟨k,n,l⟩:A0) (⟨k2,n2,l2⟩:A0) s))):∀(p a:List A0) (s:List A5),Ct cx 418 [.d (.sl true B9 ((s).map (A5.dd true))),.d (.sl false Ag ((p).map (A0.dd false))),.d (.sl false Ag ((a).map (A0.dd false)))] (Ae p<N∧(∀y∈a,y.wd)∧bOk s (Ae p)) (mtR (FD p a s)):=fun p a s=>by
 refine Xi func418 39 [.tmp 6,.tmp 7] [21,22,32,36,38] [22] AN (@ND) ?_;intro hp h M G H E
 have gx:∀k (hk:k<p.length),AQ p[k]<N:=fun k hk=>by have:=Bo hk;have:=hp.1;omega
 have hr1:=@Bw;have hr2:=CB;replace H:=AI hr1 (AI hr2 H)
 have hmm:¬p.length=a.length→FD p a s=none:=fun e=>if_neg e;have hmy:p.length=a.length→FD p a s=DI p a s:=fun e=>if_pos e;replace H:=AI hmm H
 repeat' (first|(refine iT ?_;refine XkB 7 ?_)|(refine RTW.mk ?_;refine GN ?_)|(refine iWL ?_;refine Cr M ?_)|(refine iDL ?_;refine CE M ?_)|(refine IN.mk ?_;intros)|(refine iTw ?_;refine T2 ?_ ?_<;>((try clear H);intro hb H)<;>try (first|exact hb.elim|(exfalso;omega)))|(refine LF.mk ?_;exact LX)|refine GN ?_|(have hlen:p.length=a.length:=(by first|assumption|omega);have hma:=hmy hlen;replace H:=AI hma H;refine XL [1,2,17] [] (fun k0 _=>[(18,.d (.lf (.int .i64 (k0:Int)))),(0,.d (.sl true B9 (((mtK p a s k0)).map (A5.dd true))))]) (fun _ _=>[]) (p.length) (fun k0 _=>mtI p a s k0) rU ?_ (i0:=NE p a s);intro k0 hk0 s0 hi0;by_cases hkk:k0<p.length;rotate_left;have hme:=QU hlen hi0 (by omega);replace H:=AI hme H;rotate_left;(have hka:k0<a.length:=by omega);have hok:=Uv hi0 hkk hp.2.1 hp.2.2;have hwk:=hp.2.1 _ (gm hka);have hsk:=gx k0 hkk;replace H:=AI hok (AI hwk (AI hsk H));rcases hq:mtT p[k0] a[k0] (mtK p a s k0) with _|s1<;>replace H:=AI hq H;have hno:=Uw hlen hi0 hkk hq;replace H:=AI hno H;rotate_left;have hye:=QT hlen hi0 hkk hq;replace H:=AI hye.2 H;have hi1:=hye.1;rotate_left)|fail)
theorem j4:∀(N:Nat),∀(k:Int) (n:ByteArray) (l:List A0) (k2:Int) (n2:ByteArray) (l2:List A0) (s:List A5),Ct cx 437 [.d (.sl true B9 ((s).map (A5.dd true))),.d (uK k n l),.d (uK k2 n2 l2)] (AQ (⟨k,n,l⟩:A0)<N∧A0.wd (⟨k2,n2,l2⟩:A0)∧bOk s (AQ (⟨k,n,l⟩:A0))) (mtR (mtT (⟨k,n,l⟩:A0) (⟨k2,n2,l2⟩:A0) s)):=by
 intro N
 induction N with
 |zero=>intro k n l k2 n2 l2 s;exact⟨fk1 func437,fun hp=>absurd hp.1 (Nat.not_lt_zero _)⟩
 |succ N ih=>
 intro k n l k2 n2 l2 s
 have jj:=VJ N ih
 refine Xi func437 53 [.tmp 6,.tmp 7] [13,18,21,25,45,51] [45] AN trivial ?_;intro hp h M G H E
 have he:=YN ⟨k,n,l⟩ ⟨k2,n2,l2⟩ s;simp only at he
 have hsl:Ae l<N:=by have:=BE ⟨k,n,l⟩;have:=hp.1;simp only at*;omega
 have hwm:=Bj hp.2.1;have hbs:=hp.2.2.1;have hbl:=hp.2.2.2;have hb2:bOk s (Ae l):=⟨hbs,by have:=BE ⟨k,n,l⟩;simp only at*;omega⟩;replace H:=AI hsl (AI hwm (AI hb2 (AI hbs H)))
 have hr1:=@Bw;have hr2:=CB;replace H:=AI hr1 (AI hr2 H)
 rcases hq:FD l l2 s with _|s1<;>replace H:=AI hq H
 repeat' (first|exact true|(refine iT ?_;refine XkB 7 ?_)|(refine RTW.mk ?_;refine GN ?_)|(refine iWL ?_;refine Cr M ?_)|(refine iDL ?_;refine CE M ?_)|(refine IN.mk ?_;intros)|(refine iTw ?_;refine T2 ?_ ?_<;>((try clear H);intro hb H)<;>try exact hb.elim)|(refine LF.mk ?_;exact LX)|refine BO.mk ?_ ?_|(apply iPJ;exact NPJ)|apply PXs.of|refine GN ?_)
instance mN (p a:List A0) (s:List A5):Ct cx 418 [.d (.sl true B9 ((s).map (A5.dd true))),.d (.sl false Ag ((p).map (A0.dd false))),.d (.sl false Ag ((a).map (A0.dd false)))] ((∀y∈a,y.wd)∧bOk s (Ae p)) (mtR (FD p a s)):=⟨fk1 func418,fun hp h=>(VJ _ (j4 _) p a s).cs ⟨Nat.lt_succ_self _,hp⟩ h⟩
instance iMtO (k:Int) (n:ByteArray) (l:List A0) (k2:Int) (n2:ByteArray) (l2:List A0):Ct cx 418 [.d (.sl true B9 []),.d (.sl false Ag [(uK k n l)]),.d (.sl false Ag [(uK k2 n2 l2)])] (A0.wd (⟨k2,n2,l2⟩:A0)∧AQ (⟨k,n,l⟩:A0)≤134217728) (mtR (mtc (⟨k,n,l⟩:A0) (⟨k2,n2,l2⟩:A0))):=⟨fk1 func418,fun hp h=>by have q:=(mN [(⟨k,n,l⟩:A0)] [(⟨k2,n2,l2⟩:A0)] []).cs ⟨by simpa using hp.1,by simpa[Ae] using RO hp.2⟩ h;rw[Ke] at q;simpa using q⟩
instance iMtc (k:Int) (n:ByteArray) (l:List A0) (k2:Int) (n2:ByteArray) (l2:List A0):Ct cx 366 [.d (uK k n l),.d (uK k2 n2 l2)] (A0.wd (⟨k2,n2,l2⟩:A0)∧AQ (⟨k,n,l⟩:A0)≤134217728) (mtR (mtc (⟨k,n,l⟩:A0) (⟨k2,n2,l2⟩:A0))):=by
 refine Xi func366 13 [.tmp 4,.tmp 5] [11] [] AN trivial ?_;intro hp h M G H E
 have hp1:=hp.1;replace H:=AI hp1 H
 have hr1:=@Bw;have hr2:=CB;replace H:=AI hr1 (AI hr2 H)
 rcases hq:mtc (⟨k,n,l⟩:A0) (⟨k2,n2,l2⟩:A0) with _|s1<;>replace H:=AI hq H
 all_goals exact GA2
instance iMtB (k:Int) (n:ByteArray) (l:List A0) (k2:Int) (n2:ByteArray) (l2:List A0):Ct cx 356 [.d (uK k n l),.d (uK k2 n2 l2)] (A0.wd (⟨k2,n2,l2⟩:A0)∧AQ (⟨k,n,l⟩:A0)≤134217728) (.d (.lf (.bool (mtB (⟨k,n,l⟩:A0) (⟨k2,n2,l2⟩:A0))))):=by
 refine Xi func356 14 [.tmp 4] [11] [] AN (@NG) ?_;intro hp h M G H E
 have hp1:=hp.1;replace H:=AI hp1 H
 have hr1:=@Bw;have hr2:=CB;replace H:=AI hr1 (AI hr2 H)
 rcases hq:mtc (⟨k,n,l⟩:A0) (⟨k2,n2,l2⟩:A0) with _|s1<;>replace H:=AI hq H
 all_goals exact GA2
theorem VH (l:List A9) (g:Nat) (cs:List AV) (p:A9→Bool) (pp:A9→Prop) (hv:VwC cs) (hi:∀y:A9,Ct cx g (.d (Dr y)::cs) (pp y) (.d (.lf (.bool (p y))))) (hq:∀y∈l,pp y) (h:HP):CS cx.P 288 [.d (.sl false BA ((l).map (A9.dd false))),.fn g cs] h (.d (.lf (.int .i64 (CR l p)))) h:=by
 refine Xe func288 rfl 19 [.tmp 4] ?_
 let M:List Nat:=[]
 let G:List Nat:=[]
 have H:=AN
 have hq2:∀k (hk:k<l.length),pp l[k]:=fun k hk=>hq _ (gm hk)
 replace H:=AI hv.all H
 repeat' (first|refine GO ?_|(refine Two.mk ?_ ?_<;>intro hb<;>(try simp at hb)<;>(try norm_cast at hb)<;>try replace H:=HN hb H)|(refine RG.mk ?_;(try clear hK hD);first|intro _ K hD hK|intro K hD hK)|(refine RF.mk ?_;intro hr)|(refine LF.mk ?_;(try clear hK hD);first|rfl|(simp[Av,ipF,Aw,Aq, *];done)|(simp_all [Av,ipF,Aw,Aq];done)|grind [Av,ipF,Aw,Aq]))
 refine W.loopR [0,1,7] [] (fun k0 _=>[(8,.d (.lf (.int .i64 (k0:Int))))]) (fun _ _=>[]) (l.length) (fun k0 _=>fs (ipF p) 0 l=fs (ipF p) k0 (l.drop k0)) (fun S=>()) rfl (by simp[H]) (by first|trivial|rfl|(simp;done)|(simp[Av,ipF,Aw,Aq];done)|(simp_all [Av,ipF,Aw,Aq];done)) ?_
 intro k0 hk0 s0 hi0 T hT;simp at hT;subst hT
 all_goals exact GA3
instance dg (l:List A9) (g:Nat) (cs:List AV) (p:A9→Bool) (pp:A9→Prop) [hv:VwC cs] [hi:∀y:A9,Ct cx g (.d (Dr y)::cs) (pp y) (.d (.lf (.bool (p y))))]:Ct cx 288 [.d (.sl false BA ((l).map (A9.dd false))),.fn g cs] (∀y∈l,pp y) (.d (.lf (.int .i64 (CR l p)))):=⟨fk1 func288,fun hq h=>VH l g cs p pp hv hi hq h⟩
theorem WE (l:List A9) (g:Nat) (cs:List AV) (p:A9→Bool) (pp:A9→Prop) [hv:VwC cs] [hi:∀y:A9,Ct cx g (.d (Dr y)::cs) (pp y) (.d (.lf (.bool (p y))))] (hq:∀y∈l,pp y) (h:HP):CS cx.P 214 [.d (.sl false BA ((l).map (A9.dd false))),.fn g cs] h (.d (.lf (.bool (l.any p)))) h:=by
 refine Xe func214 rfl 9 [.tmp 4] ?_
 let M:List Nat:=[]
 let G:List Nat:=[]
 have H:=AN
 replace H:=AI hv.all H
 all_goals exact GA5
instance f5 (l:List A9) (g:Nat) (cs:List AV) (p:A9→Bool) (pp:A9→Prop) [hv:VwC cs] [hi:∀y:A9,Ct cx g (.d (Dr y)::cs) (pp y) (.d (.lf (.bool (p y))))]:Ct cx 214 [.d (.sl false BA ((l).map (A9.dd false))),.fn g cs] (∀y∈l,pp y) (.d (.lf (.bool (l.any p)))):=⟨fk1 func214,fun hq h=>WE l g cs p pp hq h⟩
instance iTerC (y:A9) (x:AJ):Ct cx 215 [.d (Dr y),.el (E4 x)] (y.sz≤134217728∧x.Ar.sz≤134217728) (.d (.lf (.bool (!te1 x y)))):=by
 refine Xi func215 9 [.tmp 3] [] [] AN (@te1.eq_1) ?_;intro hp h M G H E
 all_goals exact GA0
instance iTer (x:AJ):Ct cx 151 [.d (E4 x)] (x.sz≤134217728) (.d (.lf (.bool (FU x)))):=by
 refine Xi func151 8 [.tmp 2] [] [] AN (AI @KM<|@MF) ?_;intro hp h M G H E
 have hxz:=x.sz_eq;unfold szs at hxz
 have hbs:∀y∈x.Af,y.sz≤134217728∧x.Ar.sz≤134217728:=fun y hy=>⟨by have:=Ah A9.sz hy;omega,by omega⟩
 replace H:=AI hbs H
 repeat' (first|(refine W.fzR (id:=1) 1 1 [] [] ?_)|(refine IN.mk ?_;intros)|(refine iTw ?_;refine T2 ?_ ?_<;>((try clear H);intro hb H)<;>try exact hb.elim)|(refine LF.mk ?_;exact LX)|refine GN ?_)
instance mP (y g:A9):Ct cx 293 [.d (Dr y),.el (Dr g)] (True) (.d (.lf (.bool (eqG y g)))):=by
 refine Xi func293 7 [.tmp 3] [] [] AN trivial ?_;intro hp h M G H E
 all_goals exact GA0
instance b5 (l:List A9) (g:A9):Ct cx 219 [.d (.sl false BA ((l).map (A9.dd false))),.d (Dr g)] (True) (.d (.lf (.bool (Gw l g)))):=by
 refine Xi func219 8 [.tmp 4] [] [] AN (@Yt) ?_;intro hp h M G H E
 have htr:∀y∈l,True:=(fun _ _=>trivial);replace H:=AI htr H
 repeat' (first|(refine W.fzR (id:=1) 3 3 [0] [] ?_)|(refine IN.mk ?_;intros)|(refine iTw ?_;refine T2 ?_ ?_<;>((try clear H);intro hb H)<;>try exact hb.elim)|(refine LF.mk ?_;exact LX)|refine GN ?_)
instance (priority:=2000) dz (b:List A9) (tr:ByteArray) (k:Int) (n:ByteArray) (l:List A0):Ct cx 219 [.d (.sl false BA ((b).map (A9.dd false))),.d (.st [.lf (.string tr),uK k n l])] (True) (.d (.lf (.bool (Gw b (⟨tr,(⟨k,n,l⟩:A0)⟩:A9))))):=⟨(b5 b (⟨tr,(⟨k,n,l⟩:A0)⟩:A9)).ok,fun hp h=>by have q:=(b5 b (⟨tr,(⟨k,n,l⟩:A0)⟩:A9)).cs hp h;first|exact q|simpa using q⟩
theorem dx (y:A0) (o:List A9) (hy:y.sz≤134217728) (ho:o.length<1073741824) (lv k:Nat) (h:HP) (hcap:hpg h lv k=some (.d (.sl true BA ((o).map (A9.dd true))))):CS cx.P 291 [.d (y.dd false),.pt lv k []] h (.tp []) (hps h lv k (some (.d (.sl true BA (((pj1 y.AH y.A6 y.AB o)).map (A9.dd true)))))):=by
 have hc2:=Df hcap
 have hc3:∀x:DD,hpg (upH (hps h lv k (some (.d x)))) lv k=some (.d x):=fun x=>Df (Er hcap)
 have hwy:=CK hy
 have he:∀x:A0,(⟨x.AH,x.A6,x.AB⟩:A0)=x:=fun x=>by cases x;rfl
 refine Ze func291 rfl 29 ?_
 apply Zr;intros
 refine Zo ?_ (by simp[hc2,hc3]<;>omega);simp[hc2,hc3]
 exact Zx
 refine W.seq ?_
 refine W.regJ (D:=_) [1,2] [2] [(12,.d (.lf (.bool (decide (y.AH=3) && decide (0<y.AB.length)))))] [] rfl (fun _ K hD hK=> ?_) fun T hT=> ?_
 iterate 4 (refine Zo ?_ (by simp[hc2,hc3]<;>omega);simp[hc2,hc3])
 refine WL.split 7 _ rfl (fun g7=> ?_) fun g7=> ?_<;>try simp at g7
 simp[hc2,hc3]
 iterate 4 (refine Zg hD rfl rfl ?_ (by simp[hc2,hc3]<;>omega);simp[hc2,hc3])
 refine Zo ?_ (by simp[hc2,hc3]<;>omega);simp[hc2,hc3]
 refine WL.nil (hK _ (Wz.to rfl rfl rfl ?_))
 simp[g7]
 simp[hc2,hc3]
 iterate 4 (refine Zn hD rfl rfl ?_;simp[hc2,hc3])
 refine Zo ?_ (by simp[hc2,hc3]<;>omega);simp[hc2,hc3]
 refine WL.nil (hK _ (Wz.to rfl rfl rfl ?_))
 simp[g7]
 simp at hT;subst hT
 refine Zc rfl ?_ ?_<;>intro hb0<;>try simp at hb0
 have h32:y.AH=3∧0<y.AB.length:=by simpa using hb0
 apply Yr rfl;intro K hK
 iterate 6 (refine Yo ?_ (by simp[hc2,hc3,h32]<;>omega);simp[hc2,hc3,h32])
 refine Yl [] rfl func292 ((e7 (y.AB[0]'h32.2).AH (y.AB[0]'h32.2).A6 (y.AB[0]'h32.2).AB).cs (by rw[he];exact Bj hwy _ (gm h32.2))) ?_ (by simp[hc2,hc3,h32]);simp[hc2,hc3,h32]
 iterate 3 (refine Yo ?_ (by simp[hc2,hc3,h32]<;>omega);simp[hc2,hc3,h32])
 exact DL.nil rfl hK
 apply Zr;intros
 iterate 2 (refine Zo ?_ (by simp[hc2,hc3,h32]<;>omega);simp[hc2,hc3,h32])
 refine Zl [] rfl func219 ((dz o y.A6 (y.AB[0]'h32.2).AH (y.AB[0]'h32.2).A6 (y.AB[0]'h32.2).AB).cs trivial _) ?_ (by simp[hc2,hc3,h32]);simp[hc2,hc3,h32]
 refine Zo ?_ (by simp[hc2,hc3,h32]<;>omega);simp[hc2,hc3,h32]
 exact Zx
 refine Zc rfl ?_ ?_<;>intro hb1<;>try simp at hb1
 have ht:(pj1 y.AH y.A6 y.AB o)=o++[⟨y.A6,(y.AB[0]'h32.2)⟩]:=QH h32.1 h32.2 (by(try simp at hb1);rw[he] at hb1;exact hb1)
 have hsm:True:=trivial
 apply Zs;intros
 refine Zm [25] ?_ (by simp[hc2,hc3,h32]<;>omega);simp[hc2,hc3,h32]
 refine Zm [26] ?_ (by simp[hc2,hc3,h32]<;>omega);simp[hc2,hc3,h32]
 iterate 3 (refine Zo ?_ (by simp[hc2,hc3,h32]<;>omega);simp[hc2,hc3,h32])
 exact Zx
 refine⟨.inl rfl,⟨_,congrArg (List.cons _) (by simp[ht,hsm])⟩,?_⟩
 simp[f291,ht]
 have ht:(pj1 y.AH y.A6 y.AB o)=o:=QG h32.1 h32.2 (by(try simp at hb1);rw[he] at hb1;exact hb1)
 have hsm:=EB _ _ _ _ hcap
 refine W.skip ?_
 refine⟨.inl rfl,⟨_,congrArg (List.cons _) (by simp[ht,hsm])⟩,?_⟩
 simp[f291,ht]
 have ht:(pj1 y.AH y.A6 y.AB o)=o:=Uc (by simpa using hb0)
 have hsm:=EB _ _ _ _ hcap
 refine W.skip ?_
 refine⟨.inl rfl,⟨_,congrArg (List.cons _) (by simp[ht,hsm])⟩,?_⟩
 simp[f291,ht]
theorem VI (x:A0) (hp:x.sz≤134217728) (h:HP):CS cx.P 217 [.d ((x).dd false)] h (.d (.sl true BA (((pjT x [])).map (A9.dd true)))) h:=by
 refine Xe func217 rfl 9 [.tmp 2] ?_
 let M:List Nat:=[8]
 let G:List Nat:=[]
 have H:=AN
 repeat' (first|(refine XlH G func255 (F8 x hp 291 f291 _ ⟨func291,rfl,rfl⟩ 3 (fun (o:List A9)=>DD.sl true BA (o.map (A9.dd true))) Ua List.length YB (fun y hy o ho lv h hcap=>dx y o hy ho lv 3 h hcap) [] (by have:=Cm x;simp only[List.length_nil];omega) 0 _ (by simp)) ?_)|refine GO ?_|(refine Two.mk ?_ ?_<;>intro hb<;>(try simp at hb)<;>(try norm_cast at hb)<;>try replace H:=HN hb H)|(refine RG.mk ?_;(try clear hK hD);first|intro _ K hD hK|intro K hD hK)|(refine RF.mk ?_;intro hr)|(refine LF.mk ?_;(try clear hK hD);first|rfl|(simp[Lv, *];done)|(simp_all [Lv];done)|grind [Lv]))
instance iPrIn (k:Int) (n:ByteArray) (l:List A0):Ct cx 217 [.d (uK k n l)] (A0.sz (⟨k,n,l⟩:A0)≤134217728) (.d (.sl true BA (((pjT (⟨k,n,l⟩:A0) [])).map (A9.dd true)))):=⟨((⟨fk1 func217,fun hp h=>VI (⟨k,n,l⟩:A0) hp h⟩:Ct cx 217 [.d (((⟨k,n,l⟩:A0)).dd false)] (A0.sz (⟨k,n,l⟩:A0)≤134217728) (.d (.sl true BA (((pjT (⟨k,n,l⟩:A0) [])).map (A9.dd true)))))).ok,fun hp h=>by have q:=((⟨fk1 func217,fun hp h=>VI (⟨k,n,l⟩:A0) hp h⟩:Ct cx 217 [.d (((⟨k,n,l⟩:A0)).dd false)] (A0.sz (⟨k,n,l⟩:A0)≤134217728) (.d (.sl true BA (((pjT (⟨k,n,l⟩:A0) [])).map (A9.dd true)))))).cs hp h;first|exact q|simpa using q⟩
instance iAsC (y:A9) (x:AJ):Ct cx 218 [.d (Dr y),.el (E4 x)] (True) (.d (.lf (.bool (!Gw x.Af y)))):=by
 refine Xi func218 9 [.tmp 3] [] [] AN trivial ?_;intro hp h M G H E
 all_goals exact GA0
instance iAsc (x:AJ):Ct cx 152 [.d (E4 x)] (x.sz≤134217728) (.d (.lf (.bool (EP x)))):=by
 refine Xi func152 9 [.tmp 2] [] [] AN (AI @EP.eq_1<|@MF) ?_;intro hp h M G H E
 have hxz:=x.sz_eq;unfold szs at hxz;have haz:x.B3.sz≤134217728:=(by omega);replace H:=AI haz H
 have htr:∀y∈(pjT x.B3 []),True:=(fun _ _=>trivial);replace H:=AI htr H
 repeat' (first|(refine W.fzR (id:=1) 1 1 [] [] ?_)|(refine IN.mk ?_;intros)|(refine iTw ?_;refine T2 ?_ ?_<;>((try clear H);intro hb H)<;>try exact hb.elim)|(refine LF.mk ?_;exact LX)|refine GN ?_)
