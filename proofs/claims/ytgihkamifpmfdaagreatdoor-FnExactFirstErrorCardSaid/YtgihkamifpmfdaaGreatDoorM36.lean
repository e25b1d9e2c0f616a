/- Part 36. No condition. -/
import Derived.Test.YtgihkamifpmfdaaGreatDoorM27
import Derived.Test.YtgihkamifpmfdaaGreatDoorM29
import Derived.Test.YtgihkamifpmfdaaGreatDoorM32
namespace Go.Proofs.YtgihkamifpmfdaaGreatDoor
open Go.RowKit Tryz
set_option linter.unusedVariables false
set_option maxRecDepth 10000
set_option linter.unusedSimpArgs false
set_option maxHeartbeats 4000000
instance lj (w : A1) (s : BA') : Ct cx 132 [.d (Au w), dS' s, .d (.sl true .one [])] (w.sz ≤ 134217728) (.d (.sl true .one (((Ce w s)).map (dS)))) := ⟨fk1 func132, fun hp h => by
 obtain⟨n,hn⟩:=S7 w s
 have q:=eH w w.sz hp n s [] hn h
 rw[Xu] at q
 first|exact q|simpa using q⟩
theorem nu (w:A1) (s:BA') (hp:w.sz≤134217728) (h:HP):CS cx.P 62 [.d ((w).dd false),dS' s] h (.d (.sl true .one (((Ce w s)).map (dS)))) h:=by
 refine Xe func62 rfl 9 [.tmp 4] ?_
 let M:List Nat:=[7]
 let G:List Nat:=[7]
 have H:=AN
 all_goals exact GA4
instance nr (w:A1) (s:BA'):Ct cx 62 [.d (Au w),dS' s] (w.sz≤134217728) (.d (.sl true .one (((Ce w s)).map (dS)))):=⟨fk1 func62,fun hp h=>by have q:=nu w s hp h;first|exact q|simpa using q⟩
instance sAcy (w:A1):Ct cx 28 [.d (Au w)] (w.sz≤134217728) (dB' (Tc w)):=by
 refine Xi func28 46 [.tmp 2] [] [] AN (AI @S8<|AI @acP.eq_1<|AI @acT.eq_1<|AI @Bc<|@BM) ?_;intro hp h M G H E
 have hal:=fun s=>Nat.le_trans (Ex w s) hp
 replace H:=AI hal H
 repeat' (first|(refine IN.mk ?_;intros)|(refine iTw ?_;refine T2 ?_ ?_<;>((try clear H);intro hb H)<;>try exact hb.elim)|(refine LF.mk ?_;exact LX)|refine GN ?_|(refine XC [1] [1] 3 (w.A2.length) (fun k0=>w.A2.all (acP w)=(w.A2.drop k0).all (acP w)) ?_;intro k0 hk0 hi0)|(refine XC [1,3] [1] 4 (w.A2[k0].Aj.length) (fun k1=>acP w w.A2[k0]=(w.A2[k0].Aj.drop k1).all (acT w)) ?_;intro k1 hk1 hi1)|fail)
instance nl (b:A9) (k:Int) (s:BA') (l:List A0):Ct cx 137 [.d (Du b),.d (uK k s l)] (b.sz≤134217728∧A0.sz ⟨k,s,l⟩≤134217728) (dB' (bSm b ⟨k,s,l⟩)):=⟨fk1 func137,fun hp h=>by have q:=nn b ⟨k,s,l⟩ hp h;first|exact q|simpa using q⟩
instance oe (b:A9) (k:Int) (s:BA') (l:List A0):Ct cx 172 [.d (Du b),.d (uK k s l)] (b.sz≤134217728∧A0.sz ⟨k,s,l⟩≤134217728) (dB' (bSm b ⟨k,s,l⟩)):=⟨fk1 func172,fun hp h=>by have q:=oh b ⟨k,s,l⟩ hp h;first|exact q|simpa using q⟩
def te1 (x:AJ) (b:A9):Bool:=bSm b x.At
theorem Kh (x:AJ):FW x=x.Ah.all (te1 x):=rfl
theorem Mc {α:Type} (p:α→Bool):∀l:List α,(!(l.any fun y=> !p y))=l.all p
  |[]=>rfl
  |x::l=>by simp only[List.any_cons,List.all_cons,Bool.not_or,Bool.not_not,Mc p l]
instance sTer (x:AJ):Ct cx 67 [.d (E6 x)] (x.sz≤134217728) (dB' (FW x)):=by
 refine Xi func67 20 [.tmp 2] [] [] AN (AI @Kh<|AI @te1.eq_1<|AI @Bc<|@BM) ?_;intro hp h M G H E
 have hxz:=x.sz_eq;unfold szs at hxz
 have hbs:∀k (hk:k<x.Ah.length),(x.Ah[k]).sz≤134217728∧x.At.sz≤134217728:=fun k hk=>⟨by have:=Ae A9.sz (gm hk);omega,by omega⟩
 replace H:=AI hbs H
 repeat' (first|(refine IN.mk ?_;intros)|(refine iTw ?_;refine T2 ?_ ?_<;>((try clear H);intro hb H)<;>try exact hb.elim)|(refine LF.mk ?_;exact LX)|refine GN ?_|(refine XC [1] [1] 3 (x.Ah.length) (fun k0=>x.Ah.all (te1 x)=(x.Ah.drop k0).all (te1 x)) ?_;intro k0 hk0 hi0)|fail)
theorem eU (w:A1) (i:Int) (hp:w.sz≤134217728):∀(n:Nat) (x:A0),AR x<n→∀h:HP,CS cx.P 128 [.d ((w).dd false),dI' i,.d ((x).dd false)] h (dI' (ckT w (vis w i) x)) h:=by
 intro n
 induction n with
 |zero=>intro x hx;omega
 |succ n ih=>
 intro x hx h
 have hsx:Ag x.AB<n:=by have:=BG x;omega
 have gx:=@Bo
 have ii:∀(k:Int) (s:BA') (l:List A0),Ct cx 128 [.d (Au w),.d (.lf (.int .i64 (i))),.d (uK k s l)] (AR ⟨k,s,l⟩<n) (.d (.lf (.int .i64 (ckT w (vis w i) ⟨k,s,l⟩)))):=fun k s l=>⟨fk1 func128,fun hp h=>by have q:=ih ⟨k,s,l⟩ hp h;first|exact q|simpa using q⟩
 refine Xe func128 rfl 33 [.tmp 6] ?_
 let M:List Nat:=[]
 let G:List Nat:=[]
 have H:=AN
 repeat' (first|refine GO ?_|(refine Two.mk ?_ ?_<;>intro hb<;>(try simp at hb)<;>(try norm_cast at hb)<;>try replace H:=HN hb H)|(refine RG.mk ?_;(try clear hK hD);first|intro _ K hD hK|intro K hD hK)|(refine RF.mk ?_;intro hr)|(refine LF.mk ?_;(try clear hK hD);first|rfl|(simp[EF,BP,Az, *];done)|(simp_all [EF,BP,Az];done)|grind [EF,BP,Az]))
 refine W.loopR [1,3,5] [3,5] (fun k0 s0=>[(8,dI' k0),(7,dI' s0)]) (fun _ _=>[]) (x.AB.length) (fun k0 s0=>ckT w (vis w i) x=if s0=0 then fc (ckT w (vis w i)) (x.AB.drop k0) else s0) (fun S=>avI (S.tm 7)) rfl (by simp) (by first|trivial|rfl|(simp;done)|(simp[EF,BP,Az];done)|(simp_all [EF,BP,Az];done)) ?_
 intro k0 hk0 s0 hi0 T hT;simp at hT;subst hT
 repeat' (first|refine GO ?_|(refine Two.mk ?_ ?_<;>intro hb<;>(try simp at hb)<;>(try norm_cast at hb)<;>try replace H:=HN hb H)|(refine RG.mk ?_;(try clear hK hD);first|intro _ K hD hK|intro K hD hK)|(refine RF.mk ?_;intro hr)|(refine LF.mk ?_;(try clear hK hD);first|rfl|(simp[EF,BP,Az, *];done)|(simp_all [EF,BP,Az];done)|grind [EF,BP,Az]))
theorem eS (w:A1) (i:Int) (x:A0) (hp:w.sz≤134217728) (h:HP):CS cx.P 128 [.d ((w).dd false),dI' i,.d ((x).dd false)] h (dI' (ckT w (vis w i) x)) h:=eU w i hp _ x (Nat.lt_succ_self _) h
instance nj (w:A1) (i:Int) (k:Int) (s:BA') (l:List A0):Ct cx 128 [.d (Au w),dI' i,.d (uK k s l)] (w.sz≤134217728) (dI' (ckT w (vis w i) ⟨k,s,l⟩)):=⟨fk1 func128,fun hp h=>by have q:=eS w i ⟨k,s,l⟩ hp h;first|exact q|simpa using q⟩
instance sCkB (w:A1) (i:Int) (b:A9):Ct cx 198 [.d (Au w),dI' i,.d (Du b)] (w.sz≤134217728) (dI' (ckB w (vis w i) b)):=by
 refine Xi func198 24 [.tmp 6] [] [] AN (@ckB.eq_1) ?_;intro hp h M G H E
 all_goals exact GA0
instance nO (w:A1) (i:Int) (l:List A0):Ct cx 127 [.d (Au w),dI' i,.d (.sl false Ai ((l).map (A0.dd false)))] (w.sz≤134217728) (dI' (fc (ckT w (vis w i)) l)):=by
 refine Xi func127 25 [.tmp 6] [] [] AN (AI @BP<|@Az) ?_;intro hp h M G H E
 repeat' (first|(refine IN.mk ?_;intros)|(refine iTw ?_;refine T2 ?_ ?_<;>((try clear H);intro hb H)<;>try exact hb.elim)|(refine LF.mk ?_;exact LX)|refine GN ?_|(refine XC [1,2,3] [3] 7 (l.length) (fun k0=>fc (ckT w (vis w i)) l=fc (ckT w (vis w i)) (l.drop k0)) ?_;intro k0 hk0 hi0)|fail)
instance nK (w:A1) (i:Int) (l:List A9):Ct cx 130 [.d (Au w),dI' i,.d (.sl false BC ((l).map (A9.dd false)))] (w.sz≤134217728) (dI' (fc (ckB w (vis w i)) l)):=by
 refine Xi func130 25 [.tmp 6] [] [] AN (AI @BP<|@Az) ?_;intro hp h M G H E
 repeat' (first|(refine IN.mk ?_;intros)|(refine iTw ?_;refine T2 ?_ ?_<;>((try clear H);intro hb H)<;>try exact hb.elim)|(refine LF.mk ?_;exact LX)|refine GN ?_|(refine XC [1,2,3] [3] 7 (l.length) (fun k0=>fc (ckB w (vis w i)) l=fc (ckB w (vis w i)) (l.drop k0)) ?_;intro k0 hk0 hi0)|fail)
instance Uu (l:List Int):Ct cx 126 [.d (.sl false .one ((l).map (dI)))] (True) (dI' (fc (fun n=>n) l)):=by
 refine Xi func126 19 [.tmp 2] [] [] AN (AI @BP<|@Az) ?_;intro hp h M G H E
 repeat' (first|(refine IN.mk ?_;intros)|(refine iTw ?_;refine T2 ?_ ?_<;>((try clear H);intro hb H)<;>try exact hb.elim)|(refine LF.mk ?_;exact LX)|refine GN ?_|(refine XC [0] [] 3 (l.length) (fun k0=>fc (fun n:Int=>n) l=fc (fun n=>n) (l.drop k0)) ?_;intro k0 hk0 hi0)|fail)
instance iIns (w:A1) (o:A3):Ct cx 105 [.d (Au w),.d (FU o)] (w.sz≤134217728∧inR w o) (.tp [.d (((Ao w o)).dd false),dB' true]):=by
 refine Xiv func105 47 [.cell 4 89,.tmp 5] [46] [] AN (@Da) ?_;intro hp h M G H E
 have hwz:=w.sz_eq;unfold szs at hwz
 obtain⟨hz,i,k,hi,hk,rfl⟩:=hp
 have hkz:=Ae A8.sz (gm hi);have hpz:=(w.A2[i]).sz_eq;unfold szs at hpz
 have hI:=Da hi hk;replace H:=AI hI H
 have hw1:=BH (n:=(w.A2.length:Int) - 1) (by omega) (by omega);have hw2:=BH (n:=(w.A2[i].AQ.length:Int) - 1) (by omega) (by omega)
 have hwi:Ap (i:Int) 0 ((w.A2.length:Int) - 1)=true:=by unfold Ap;simp;omega
 have hwk:Ap (k:Int) 0 ((w.A2[i].AQ.length:Int) - 1)=true:=by unfold Ap;simp;omega
 replace H:=AI hw1 (AI hw2 (AI hwi (AI hwk H)))
 all_goals exact GA1
instance iAllI (w:A1):Ct cx 43 [.d (Au w)] (w.sz≤134217728) (.d (.sl true CX (((BF w)).map (A3.dd true)))):=by
 refine Xi func43 31 [.tmp 2] [15,22,30] [] AN (AI @F4<|AI @KJ<|@JL) ?_;intro hp h M G H E
 have hwz:=w.sz_eq;unfold szs at hwz
 repeat' (first|(refine IN.mk ?_;intros)|(refine iTw ?_;refine T2 ?_ ?_<;>((try clear H);intro hb H)<;>try exact hb.elim)|(refine LF.mk ?_;exact LX)|refine GN ?_|(refine XL [9,10] [] (fun k0 _=>[(11,dI' k0),(3,.d (.sl true CX (((alK w k0)).map (A3.dd true))))]) (fun _ _=>[]) (w.A2.length) (fun _ _=>True) rU ?_;intro k0 hk0 s0 hi0;have hal:=KK w hk0;have hae:w.A2.length≤k0→alK w k0=BF w:=fun h=>Me (by omega);have han:=KL w k0)|(refine XL [4,9,10,11,18] [] (fun k1 _=>[(19,dI' k1),(3,.d (.sl true CX (((alK w k0++rfK k0 k1)).map (A3.dd true))))]) (fun _ _=>[]) (w.A2[k0].AQ.length) (fun _ _=>True) rU ?_;intro k1 hk1 s1 hi1;have hrl:=Gq k0 k1;have hpg:=Pg (w:=w) (k:=k0) (by omega);have hrn:=P2 k0 k1;(have hre:w.A2[k0].AQ.length≤k1→rfK k0 k1=rfP w k0:=fun h=>by rw[F4 (by omega),show k1=w.A2[k0].AQ.length by omega]))|fail)
theorem Vt (N:Nat) (ii:∀(k:Int) (n:BA') (l:List A0) (k2:Int) (n2:BA') (l2:List A0) (s:List A6),Ct cx 437 [.d (.sl true BB ((s).map (A6.dd true))),.d (uK k n l),.d (uK k2 n2 l2)] (AR (⟨k,n,l⟩:A0)<N∧A0.wd (⟨k2,n2,l2⟩:A0)∧bOk s (AR (⟨k,n,l⟩:A0))) (mtR (mtT (⟨k,n,l⟩:A0) (⟨k2,n2,l2⟩:A0) s))):∀(p a:List A0) (s:List A6),Ct cx 401 [.d (.sl true BB ((s).map (A6.dd true))),.d (.sl false Ai ((p).map (A0.dd false))),.d (.sl false Ai ((a).map (A0.dd false)))] (Ag p<N∧(∀y∈a,y.wd)∧bOk s (Ag p)) (mtR (FF p a s)):=fun p a s=>by
 refine Xi func401 39 [.tmp 6,.tmp 7] [21,22,32,36,38] [22] AN (@Na) ?_;intro hp h M G H E
 have gx:∀k (hk:k<p.length),AR p[k]<N:=fun k hk=>by have:=Bo hk;have:=hp.1;omega
 have hr1:=@Bw;have hr2:=CB;replace H:=AI hr1 (AI hr2 H)
 have hmm:¬p.length=a.length→FF p a s=none:=fun e=>if_neg e;have hmy:p.length=a.length→FF p a s=DJ p a s:=fun e=>if_pos e;replace H:=AI hmm H
 repeat' (first|(refine iT ?_;refine XkB 7 ?_)|(refine RTW.mk ?_;refine GN ?_)|(refine iWL ?_;refine Cs M ?_)|(refine iDL ?_;refine CE M ?_)|(refine IN.mk ?_;intros)|(refine iTw ?_;refine T2 ?_ ?_<;>((try clear H);intro hb H)<;>try (first|exact hb.elim|(exfalso;omega)))|(refine LF.mk ?_;exact LX)|refine GN ?_|(have hlen:p.length=a.length:=(by first|assumption|omega);have hma:=hmy hlen;replace H:=AI hma H;refine XL [1,2,17] [] (fun k0 _=>[(18,dI' k0),(0,.d (.sl true BB (((mtK p a s k0)).map (A6.dd true))))]) (fun _ _=>[]) (p.length) (fun k0 _=>mtI p a s k0) rU ?_ (i0:=Nb p a s);intro k0 hk0 s0 hi0;by_cases hkk:k0<p.length;rotate_left;have hme:=Qt hlen hi0 (by omega);replace H:=AI hme H;rotate_left;(have hka:k0<a.length:=by omega);have hok:=VU hi0 hkk hp.2.1 hp.2.2;have hwk:=hp.2.1 _ (gm hka);have hsk:=gx k0 hkk;replace H:=AI hok (AI hwk (AI hsk H));rcases hq:mtT p[k0] a[k0] (mtK p a s k0) with _|s1<;>replace H:=AI hq H;have hno:=VV hlen hi0 hkk hq;replace H:=AI hno H;rotate_left;have hye:=Qs hlen hi0 hkk hq;replace H:=AI hye.2 H;have hi1:=hye.1;rotate_left)|fail)
theorem kU:∀(N:Nat),∀(k:Int) (n:BA') (l:List A0) (k2:Int) (n2:BA') (l2:List A0) (s:List A6),Ct cx 437 [.d (.sl true BB ((s).map (A6.dd true))),.d (uK k n l),.d (uK k2 n2 l2)] (AR (⟨k,n,l⟩:A0)<N∧A0.wd (⟨k2,n2,l2⟩:A0)∧bOk s (AR (⟨k,n,l⟩:A0))) (mtR (mtT (⟨k,n,l⟩:A0) (⟨k2,n2,l2⟩:A0) s)):=by
 intro N
 induction N with
 |zero=>intro k n l k2 n2 l2 s;exact⟨fk1 func437,fun hp=>absurd hp.1 (Nat.not_lt_zero _)⟩
 |succ N ih=>
 intro k n l k2 n2 l2 s
 have jj:=Vt N ih
 refine Xi func437 53 [.tmp 6,.tmp 7] [13,18,21,25,45,51] [45] AN trivial ?_;intro hp h M G H E
 have he:=ZJ ⟨k,n,l⟩ ⟨k2,n2,l2⟩ s;simp only at he
 have hsl:Ag l<N:=by have:=BG ⟨k,n,l⟩;have:=hp.1;simp only at*;omega
 have hwm:=Bj hp.2.1;have hbs:=hp.2.2.1;have hbl:=hp.2.2.2;have hb2:bOk s (Ag l):=⟨hbs,by have:=BG ⟨k,n,l⟩;simp only at*;omega⟩;replace H:=AI hsl (AI hwm (AI hb2 (AI hbs H)))
 have hr1:=@Bw;have hr2:=CB;replace H:=AI hr1 (AI hr2 H)
 rcases hq:FF l l2 s with _|s1<;>replace H:=AI hq H
 repeat' (first|exact true|(refine iT ?_;refine XkB 7 ?_)|(refine RTW.mk ?_;refine GN ?_)|(refine iWL ?_;refine Cs M ?_)|(refine iDL ?_;refine CE M ?_)|(refine IN.mk ?_;intros)|(refine iTw ?_;refine T2 ?_ ?_<;>((try clear H);intro hb H)<;>try exact hb.elim)|(refine LF.mk ?_;exact LX)|refine BO.mk ?_ ?_|(apply iPJ;exact NPJ)|apply PXs.of|refine GN ?_)
instance oM (p a:List A0) (s:List A6):Ct cx 401 [.d (.sl true BB ((s).map (A6.dd true))),.d (.sl false Ai ((p).map (A0.dd false))),.d (.sl false Ai ((a).map (A0.dd false)))] ((∀y∈a,y.wd)∧bOk s (Ag p)) (mtR (FF p a s)):=⟨fk1 func401,fun hp h=>(Vt _ (kU _) p a s).cs ⟨Nat.lt_succ_self _,hp⟩ h⟩
instance lq (w : A1) (s : BA') : Ct cx 166 [.d (Au w), .d (.sl true .one []), dS' s] (w.sz ≤ 134217728) (.d (.sl true .one (((Ce w s)).map (dS)))) := ⟨fk1 func166, fun hp h => by
 obtain⟨n,hn⟩:=S7 w s
 have q:=fR w w.sz hp n s [] hn h
 rw[Xu] at q
 first|exact q|simpa using q⟩
theorem or (w:A1) (s:BA') (hp:w.sz≤134217728) (h:HP):CS cx.P 104 [.d ((w).dd false),dS' s] h (.d (.sl true .one (((Ce w s)).map (dS)))) h:=by
 refine Xe func104 rfl 8 [.tmp 4] ?_
 let M:List Nat:=[]
 let G:List Nat:=[]
 have H:=AN
 all_goals exact GA4
instance oq (w:A1) (s:BA'):Ct cx 104 [.d (Au w),dS' s] (w.sz≤134217728) (.d (.sl true .one (((Ce w s)).map (dS)))):=⟨fk1 func104,fun hp h=>by have q:=or w s hp h;first|exact q|simpa using q⟩
instance iAcy (w:A1):Ct cx 42 [.d (Au w)] (w.sz≤134217728) (dB' (Tc w)):=by
 refine Xi func42 30 [.tmp 2] [13,20] [] AN (AI @S8<|AI @acP.eq_1<|AI @acT.eq_1<|AI @Bc<|@BM) ?_;intro hp h M G H E
 have hal:=fun s=>Nat.le_trans (Ex w s) hp
 replace H:=AI hal H
 repeat' (first|(refine IN.mk ?_;intros)|(refine iTw ?_;refine T2 ?_ ?_<;>((try clear H);intro hb H)<;>try exact hb.elim)|(refine LF.mk ?_;exact LX)|refine GN ?_|(refine XC [1,8,9] [1] 10 (w.A2.length) (fun k0=>w.A2.all (acP w)=(w.A2.drop k0).all (acP w)) ?_;intro k0 hk0 hi0)|(refine XC [1,8,9,10,15,16] [1] 17 (w.A2[k0].Aj.length) (fun k1=>acP w w.A2[k0]=(w.A2[k0].Aj.drop k1).all (acT w)) ?_;intro k1 hk1 hi1)|fail)
theorem Vr (l:List A9) (g:Nat) (cs:List AV) (p:A9→Bool) (pp:A9→Prop) (hv:VwC cs) (hi:∀y:A9,Ct cx g (.d (Du y)::cs) (pp y) (dB' (p y))) (hq:∀y∈l,pp y) (h:HP):CS cx.P 247 [.d (.sl false BC ((l).map (A9.dd false))),.fn g cs] h (dI' (CT l p)) h:=by
 refine Xe func247 rfl 19 [.tmp 4] ?_
 let M:List Nat:=[]
 let G:List Nat:=[]
 have H:=AN
 have hq2:∀k (hk:k<l.length),pp l[k]:=fun k hk=>hq _ (gm hk)
 replace H:=AI hv.all H
 repeat' (first|refine GO ?_|(refine Two.mk ?_ ?_<;>intro hb<;>(try simp at hb)<;>(try norm_cast at hb)<;>try replace H:=HN hb H)|(refine RG.mk ?_;(try clear hK hD);first|intro _ K hD hK|intro K hD hK)|(refine RF.mk ?_;intro hr)|(refine LF.mk ?_;(try clear hK hD);first|rfl|(simp[Ax,ipF,Ay,As, *];done)|(simp_all [Ax,ipF,Ay,As];done)|grind [Ax,ipF,Ay,As]))
 refine W.loopR [0,1,7] [] (fun k0 _=>[(8,dI' k0)]) (fun _ _=>[]) (l.length) (fun k0 _=>fs (ipF p) 0 l=fs (ipF p) k0 (l.drop k0)) (fun S=>()) rfl (by simp[H]) (by first|trivial|rfl|(simp;done)|(simp[Ax,ipF,Ay,As];done)|(simp_all [Ax,ipF,Ay,As];done)) ?_
 intro k0 hk0 s0 hi0 T hT;simp at hT;subst hT
 all_goals exact GA3
instance fK (l:List A9) (g:Nat) (cs:List AV) (p:A9→Bool) (pp:A9→Prop) [hv:VwC cs] [hi:∀y:A9,Ct cx g (.d (Du y)::cs) (pp y) (dB' (p y))]:Ct cx 247 [.d (.sl false BC ((l).map (A9.dd false))),.fn g cs] (∀y∈l,pp y) (dI' (CT l p)):=⟨fk1 func247,fun hq h=>Vr l g cs p pp hv hi hq h⟩
theorem X6 (l:List A9) (g:Nat) (cs:List AV) (p:A9→Bool) (pp:A9→Prop) [hv:VwC cs] [hi:∀y:A9,Ct cx g (.d (Du y)::cs) (pp y) (dB' (p y))] (hq:∀y∈l,pp y) (h:HP):CS cx.P 170 [.d (.sl false BC ((l).map (A9.dd false))),.fn g cs] h (dB' (l.any p)) h:=by
 refine Xe func170 rfl 9 [.tmp 4] ?_
 let M:List Nat:=[]
 let G:List Nat:=[]
 have H:=AN
 replace H:=AI hv.all H
 all_goals exact GA5
instance ga (l:List A9) (g:Nat) (cs:List AV) (p:A9→Bool) (pp:A9→Prop) [hv:VwC cs] [hi:∀y:A9,Ct cx g (.d (Du y)::cs) (pp y) (dB' (p y))]:Ct cx 170 [.d (.sl false BC ((l).map (A9.dd false))),.fn g cs] (∀y∈l,pp y) (dB' (l.any p)):=⟨fk1 func170,fun hq h=>X6 l g cs p pp hq h⟩
