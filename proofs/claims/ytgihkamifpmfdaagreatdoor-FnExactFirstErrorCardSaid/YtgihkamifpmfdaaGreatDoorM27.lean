/- Part 27. No condition. -/
import Derived.Test.YtgihkamifpmfdaaGreatDoorM26
namespace Go.Proofs.YtgihkamifpmfdaaGreatDoor
open Go.RowKit Tryz
set_option linter.unusedVariables false
set_option maxRecDepth 10000
set_option linter.unusedSimpArgs false
set_option maxHeartbeats 4000000
theorem Sd (N:Nat) (ii:∀(k:Int) (n:BA') (l:List A0),Ct cx 297 [.d (uK k n l)] (AR (⟨k,n,l⟩:A0)<N∧A0.wd (⟨k,n,l⟩:A0)) (.d (((⟨k,n,l⟩:A0)).dd true))):∀(l:List A0),Ct cx 367 [.d (.sl false Ai ((l).map (A0.dd false)))] (Ag l<N∧l.length≤134217728∧(∀y∈l,y.wd)) (.d (.sl true Ai (((l)).map (A0.dd true)))):=fun l=>by
 refine Xi func367 21 [.tmp 2] [12,20] [] AN (@Cv) ?_;intro hp h M G H E
 have gx:∀k (hk:k<l.length),AR l[k]<N∧l[k].wd:=fun k hk=>⟨by have:=Bo hk;have:=hp.1;omega,hp.2.2 _ (gm hk)⟩;replace H:=AI gx H
 repeat' (first|(refine IN.mk ?_;intros)|(refine iTw ?_;refine T2 ?_ ?_<;>((try clear H);intro hb H)<;>try exact hb.elim)|(refine LF.mk ?_;exact LX)|refine GN ?_|(refine XL [0] [] (fun k0 _=>[(4,dI' k0),(3,.d (.sl true Ai (((mp (fun y:A0=>y) l k0)).map (A0.dd true))))]) (fun _ _=>[]) (l.length) (fun _ _=>True) rU ?_;intro k0 hk0 s0 hi0;have hml:=Bh (fun y:A0=>y) hk0;(have hme:l.length≤k0→mp (fun y:A0=>y) l k0=l:=fun h=>by rw[Bb h];simp);have hmn:∀h:k0<l.length,mp (fun y:A0=>y) l (k0+1)=mp (fun y:A0=>y) l k0++[l[k0]]:=fun h=>Es h)|fail)
theorem Uw:∀(N:Nat) (k:Int) (n:BA') (l:List A0),Ct cx 297 [.d (uK k n l)] (AR (⟨k,n,l⟩:A0)<N∧A0.wd (⟨k,n,l⟩:A0)) (.d (((⟨k,n,l⟩:A0)).dd true)):=by
 intro N
 induction N with
 |zero=>intro k n l;exact⟨fk1 func297,fun hp=>absurd hp.1 (Nat.not_lt_zero _)⟩
 |succ N ih=>
 intro k n l
 have jj:=Sd N ih
 refine Xi func297 11 [.cell 2 85] [] [] AN trivial ?_;intro hp h M G H E
 have hla:Ag l<N∧l.length≤134217728∧(∀y∈l,y.wd):=⟨by have:=BG ⟨k,n,l⟩;have:=hp.1;simp only at*;omega,D0 hp.2,Bj hp.2⟩;replace H:=AI hla H
 all_goals exact GA0
instance ng (k:Int) (n:BA') (l:List A0):Ct cx 297 [.d (uK k n l)] (A0.wd (⟨k,n,l⟩:A0)) (.d (((⟨k,n,l⟩:A0)).dd true)):=⟨fk1 func297,fun hp h=>(Uw _ k n l).cs ⟨Nat.lt_succ_self _,hp⟩ h⟩
instance sLook (s:List A6) (v:BA'):Ct cx 364 [.d (.sl false BB ((s).map (A6.dd false))),dS' v] (∀b∈s,b.AM.wd) (.tp [.d ((((lkB s v).getD zT)).dd true),dB' ((lkB s v).isSome)]):=by
 refine Xi func364 27 [.cell 4 85,.tmp 5] [] [] AN (AI @cL<|AI @VW<|@zT.eq_1) ?_;intro hp h M G H E
 have hpp:=fun k (h:k<s.length)=>hp _ (gm h);replace H:=AI hpp H
 repeat' (first|(refine IN.mk ?_;intros)|(refine iTw ?_;refine T2 ?_ ?_<;>((try clear H);intro hb H)<;>try exact hb.elim)|(refine LF.mk ?_;exact LX)|refine GN ?_|(refine XC [0,1,4] [4] 6 (s.length) (fun k0=>lkB s v=lkB (s.drop k0) v) ?_;intro k0 hk0 hi0)|fail)
theorem Se (N:Nat) (ii:∀(s:List A6) (k:Int) (n:BA') (l:List A0),Ct cx 294 [.d (.sl false BB ((s).map (A6.dd false))),.d (uK k n l)] (AR (⟨k,n,l⟩:A0)<N∧A0.wd (⟨k,n,l⟩:A0)∧∀b∈s,b.AM.wd) (.d (((ap s (⟨k,n,l⟩:A0))).dd true))):∀(s:List A6) (l:List A0),Ct cx 365 [.d (.sl false BB ((s).map (A6.dd false))),.d (.sl false Ai ((l).map (A0.dd false)))] (Ag l<N∧l.length≤134217728∧(∀y∈l,y.wd)∧∀b∈s,b.AM.wd) (.d (.sl true Ai (((l.map (ap s))).map (A0.dd true)))):=fun s l=>by
 refine Xi func365 24 [.tmp 4] [14,23] [] AN (@Cv) ?_;intro hp h M G H E
 have gx:∀k (hk:k<l.length),AR l[k]<N∧l[k].wd:=fun k hk=>⟨by have:=Bo hk;have:=hp.1;omega,hp.2.2.1 _ (gm hk)⟩;replace H:=AI gx H;have hpp:=hp.2.2.2;replace H:=AI hpp H
 repeat' (first|(refine IN.mk ?_;intros)|(refine iTw ?_;refine T2 ?_ ?_<;>((try clear H);intro hb H)<;>try exact hb.elim)|(refine LF.mk ?_;exact LX)|refine GN ?_|(refine XL [0,1] [] (fun k0 _=>[(6,dI' k0),(5,.d (.sl true Ai (((mp (ap s) l k0)).map (A0.dd true))))]) (fun _ _=>[]) (l.length) (fun _ _=>True) rU ?_;intro k0 hk0 s0 hi0;have hml:=Bh (ap s) hk0;have hme:l.length≤k0→mp (ap s) l k0=l.map (ap s):=fun h=>Bb h;have hmn:∀h:k0<l.length,mp (ap s) l (k0+1)=mp (ap s) l k0++[ap s l[k0]]:=fun h=>Es h)|fail)
theorem Ux:∀(N:Nat) (s:List A6) (k:Int) (n:BA') (l:List A0),Ct cx 294 [.d (.sl false BB ((s).map (A6.dd false))),.d (uK k n l)] (AR (⟨k,n,l⟩:A0)<N∧A0.wd (⟨k,n,l⟩:A0)∧∀b∈s,b.AM.wd) (.d (((ap s (⟨k,n,l⟩:A0))).dd true)):=by
 intro N
 induction N with
 |zero=>intro s k n l;exact⟨fk1 func294,fun hp=>absurd hp.1 (Nat.not_lt_zero _)⟩
 |succ N ih=>
 intro s k n l
 have jj:=Se N ih
 refine Xi func294 28 [.cell 4 85] [10,15,18] [] AN trivial ?_;intro hp h M G H E
 have hla:Ag l<N∧l.length≤134217728∧(∀y∈l,y.wd):=⟨by have:=BG ⟨k,n,l⟩;have:=hp.1;simp only at*;omega,D0 hp.2.1,Bj hp.2.1⟩;replace H:=AI hla H;have hpp:=hp.2.2;replace H:=AI hpp H
 have he:=cu s ⟨k,n,l⟩;simp only at he;replace H:=AI he H
 all_goals exact GA2
instance eX (s:List A6) (k:Int) (n:BA') (l:List A0):Ct cx 294 [.d (.sl false BB ((s).map (A6.dd false))),.d (uK k n l)] (A0.wd (⟨k,n,l⟩:A0)∧∀b∈s,b.AM.wd) (.d (((ap s (⟨k,n,l⟩:A0))).dd true)):=⟨fk1 func294,fun hp h=>(Ux _ s k n l).cs ⟨Nat.lt_succ_self _,hp⟩ h⟩
instance sCtAt (w:A1) (s:BA'):Ct cx 361 [.d (Au w),dS' s] (True) (.tp [.d (((ctR w s).1).dd false),dI' (((ctR w s).2.1:Nat):Int),dB' ((ctR w s).2.2)]):=by
 refine Xiv func361 56 [.cell 4 81,.tmp 5,.tmp 6] [37,53] [] AN (AI @ctR.eq_1<|AI @DX.eq_def<|AI @ctF.eq_1<|AI @Ay<|AI @As<|@zDa.eq_1) ?_;intro hp h M G H E
 repeat' (first|(refine IN.mk ?_;intros)|(refine iTw ?_;refine T2 ?_ ?_<;>((try clear H);intro hb H)<;>try exact hb.elim)|(refine LF.mk ?_;exact LX)|refine GN ?_|(refine XC [1,2,4] [2,4] 7 (w.A2.length) (fun k0=>fs (ctH s) 0 w.A2=fs (ctH s) k0 (w.A2.drop k0)) ?_;intro k0 hk0 hi0)|(refine XC [1,2,4,7] [2,4] 8 (w.A2[k0].AE.length) (fun k1=>ctH s k0 w.A2[k0]=fs (ctG s) k1 (w.A2[k0].AE.drop k1)) ?_;intro k1 hk1 hi1)|(refine XC [1,2,4,7,8,9] [2,4,9] 10 (w.A2[k0].AE[k1].A4.length) (fun k2=>ctG s k1 w.A2[k0].AE[k1]=fs (ctF s w.A2[k0].AE[k1]) k2 (w.A2[k0].AE[k1].A4.drop k2)) ?_;intro k2 hk2 hi2)|fail)
instance nX (w:A1) (o:A3):Ct cx 63 [.d (Au w),.d (FU o)] (w.sz≤134217728∧inR w o) (.tp [.d (((Ao w o)).dd false),dB' true]):=by
 refine Xiv func63 41 [.cell 4 89,.tmp 5] [40] [] AN (@Da) ?_;intro hp h M G H E
 have hwz:=w.sz_eq;unfold szs at hwz
 obtain⟨hz,i,k,hi,hk,rfl⟩:=hp
 have hkz:=Ae A8.sz (gm hi);have hpz:=(w.A2[i]).sz_eq;unfold szs at hpz
 have hI:=Da hi hk;replace H:=AI hI H
 have hw1:=BH (n:=(w.A2.length:Int) - 1) (by omega) (by omega);have hw2:=BH (n:=(w.A2[i].AQ.length:Int) - 1) (by omega) (by omega)
 have hwi:Ap (i:Int) 0 ((w.A2.length:Int) - 1)=true:=by unfold Ap;simp;omega
 have hwk:Ap (k:Int) 0 ((w.A2[i].AQ.length:Int) - 1)=true:=by unfold Ap;simp;omega
 replace H:=AI hw1 (AI hw2 (AI hwi (AI hwk H)))
 all_goals exact GA1
instance sAllI (w:A1):Ct cx 29 [.d (Au w)] (w.sz≤134217728) (.d (.sl true CX (((BF w)).map (A3.dd true)))):=by
 refine Xi func29 32 [.tmp 2] [25,31] [] AN (AI @F4<|AI @KJ<|@JL) ?_;intro hp h M G H E
 have hwz:=w.sz_eq;unfold szs at hwz
 repeat' (first|(refine IN.mk ?_;intros)|(refine iTw ?_;refine T2 ?_ ?_<;>((try clear H);intro hb H)<;>try exact hb.elim)|(refine LF.mk ?_;exact LX)|refine GN ?_|(refine XL [1] [1] (fun k0 _=>[(4,dI' k0),(3,.d (.sl true CX (((alK w k0)).map (A3.dd true))))]) (fun _ _=>[]) (w.A2.length) (fun _ _=>True) rU ?_;intro k0 hk0 s0 hi0;have hal:=KK w hk0;have hae:w.A2.length≤k0→alK w k0=BF w:=fun h=>Me (by omega);have han:=KL w k0)|(refine XL [1,4] [1] (fun k1 _=>[(5,dI' k1),(3,.d (.sl true CX (((alK w k0++rfK k0 k1)).map (A3.dd true))))]) (fun _ _=>[]) (w.A2[k0].AQ.length) (fun _ _=>True) rU ?_;intro k1 hk1 s1 hi1;have hrl:=Gq k0 k1;have hpg:=Pg (w:=w) (k:=k0) (by omega);have hrn:=P2 k0 k1;(have hre:w.A2[k0].AQ.length≤k1→rfK k0 k1=rfP w k0:=fun h=>by rw[F4 (by omega),show k1=w.A2[k0].AQ.length by omega]))|fail)
instance sDaAt (w:A1) (s:BA'):Ct cx 205 [.d (Au w),dS' s] (True) (.tp [.d (((daR w s).1).dd false),dI' (((daR w s).2.1:Nat):Int),dB' ((daR w s).2.2)]):=by
 refine Xiv func205 50 [.cell 4 81,.tmp 5,.tmp 6] [47] [] AN (AI @daR.eq_1<|AI @DX.eq_def<|AI @nmF.eq_1<|AI @Ay<|AI @As<|@zDa.eq_1) ?_;intro hp h M G H E
 repeat' (first|(refine IN.mk ?_;intros)|(refine iTw ?_;refine T2 ?_ ?_<;>((try clear H);intro hb H)<;>try exact hb.elim)|(refine LF.mk ?_;exact LX)|refine GN ?_|(refine XC [1,2,4] [2,4] 7 (w.A2.length) (fun k0=>inP A8.AE AF.A5 w s=fs (inF A8.AE AF.A5 s) k0 (w.A2.drop k0)) ?_;intro k0 hk0 hi0)|(refine XC [1,2,4,7] [2,4] 8 (w.A2[k0].AE.length) (fun k1=>inF A8.AE AF.A5 s k0 w.A2[k0]=fs (nmF AF.A5 s k0) k1 (w.A2[k0].AE.drop k1)) ?_;intro k1 hk1 hi1)|fail)
instance sDaV (w:A1) (i:Int) (s:BA'):Ct cx 287 [.d (Au w),dI' i,dS' s] (w.sz≤134217728) (.tp [.d (((daR w s).1).dd false),dB' (daV w (vis w i) s)]):=by
 refine Xiv func287 26 [.cell 6 81,.tmp 7] [18] [] AN (@daV.eq_1) ?_;intro hp h M G H E
 all_goals exact GA1
theorem jr (w:A1) (t:A0) (h:HP):CS cx.P 136 [.d ((w).dd false),.d ((t).dd false)] h (dI' (Fj w t)) h:=by
 refine Xe func136 rfl 27 [.tmp 4] ?_
 let M:List Nat:=[]
 let G:List Nat:=[]
 have H:=AN
 repeat' (first|refine GO ?_|(refine Two.mk ?_ ?_<;>intro hb<;>(try simp at hb)<;>(try norm_cast at hb)<;>try replace H:=HN hb H)|(refine RG.mk ?_;(try clear hK hD);first|intro _ K hD hK|intro K hD hK)|(refine RF.mk ?_;intro hr)|(refine LF.mk ?_;(try clear hK hD);first|rfl|(simp[Fj, *];done)|(simp_all [Fj];done)|grind [Fj]))
instance lh (w:A1) (k:Int) (s:BA') (l:List A0):Ct cx 136 [.d (Au w),.d (uK k s l)] (True) (dI' (Fj w ⟨k,s,l⟩)):=⟨fk1 func136,fun hp h=>by have q:=jr w ⟨k,s,l⟩ h;first|exact q|simpa using q⟩
instance sFnAt (w:A1) (s:BA'):Ct cx 288 [.d (Au w),dS' s] (True) (.tp [.d (((fnR w s).1).dd false),dI' (((fnR w s).2.1:Nat):Int),dB' ((fnR w s).2.2)]):=by
 refine Xiv func288 50 [.cell 4 97,.tmp 5,.tmp 6] [47] [] AN (AI @fnR.eq_1<|AI @DX.eq_def<|AI @nmF.eq_1<|AI @Ay<|AI @As<|AI @zFn.eq_1<|AI @zT.eq_1<|@zX.eq_1) ?_;intro hp h M G H E
 repeat' (first|(refine IN.mk ?_;intros)|(refine iTw ?_;refine T2 ?_ ?_<;>((try clear H);intro hb H)<;>try exact hb.elim)|(refine LF.mk ?_;exact LX)|refine GN ?_|(refine XC [1,2,4] [2,4] 7 (w.A2.length) (fun k0=>inP A8.Ad AL.A5 w s=fs (inF A8.Ad AL.A5 s) k0 (w.A2.drop k0)) ?_;intro k0 hk0 hi0)|(refine XC [1,2,4,7] [2,4] 8 (w.A2[k0].Ad.length) (fun k1=>inF A8.Ad AL.A5 s k0 w.A2[k0]=fs (nmF AL.A5 s k0) k1 (w.A2[k0].Ad.drop k1)) ?_;intro k1 hk1 hi1)|fail)
instance nS (v:BA') (k:Int) (n:BA') (l:List A0):Ct cx 281 [dS' v,.d (uK k n l)] (A0.sz ⟨k,n,l⟩≤134217728) (dB' (decide (0<occ v ⟨k,n,l⟩))):=⟨fk1 func281,fun hp h=>by have q:=Ku v ⟨k,n,l⟩ hp h;first|exact q|simpa using q⟩
instance sDynS (t:AU):Ct cx 360 [.d (KQ t)] (t.sz≤134217728) (dB' (aR t)):=by
 refine Xi func360 43 [.tmp 2] [] [] AN (AI @Rc<|AI @TP.eq_1<|AI @Cc<|AI @Bp<|@Ej.eq_1) ?_;intro hp h M G H E
 have qTrait:=AU.sz_eq;have PI:=@Bm _ AU.sz;unfold szs at qTrait
 have qSignature:=AC.sz_eq;have gSignature:=@Bm _ AC.sz;unfold szs at qSignature
 have qType:=A0.sz_eq;have gType:=@Bm _ A0.sz;unfold szs at qType
 repeat' (first|(refine IN.mk ?_;intros)|(refine iTw ?_;refine T2 ?_ ?_<;>((try clear H);intro hb H)<;>try exact hb.elim)|(refine LF.mk ?_;exact LX)|refine GN ?_|(refine XC [1] [1] 3 (t.AW.length) (fun k0=>t.AW.any TP=(t.AW.drop k0).any TP) ?_;intro k0 hk0 hi0)|(refine XC [1,3] [1] 4 (t.AW[k0].Am.length) (fun k1=>(t.AW[k0].Am.any fun p=>decide (0<occ Ej p))=(t.AW[k0].Am.drop k1).any fun p=>decide (0<occ Ej p)) ?_;intro k1 hk1 hi1)|fail)
instance sDyn (w:A1) (i:Int) (s:BA'):Ct cx 286 [.d (Au w),dI' i,dS' s] (w.sz≤134217728) (dI' (ckD w (vis w i) s)):=by
 refine Xi func286 21 [.tmp 6] [] [] AN (@ckD.eq_1) ?_;intro hp h M G H E
 have ht:=EV w
 all_goals exact GA0
instance sHere (w:A1) (i:Int) (k:Int) (s:BA') (l:List A0):Ct cx 196 [.d (Au w),dI' i,.d (uK k s l)] (w.sz≤134217728) (dI' (ckH w (vis w i) k s l.length)):=by
 refine Xi func196 59 [.tmp 6] [] [] AN (@ckH.eq_1) ?_;intro hp h M G H E
 all_goals exact GA0
instance sSig (t:AU) (s:BA'):Ct cx 199 [.d (KQ t),dS' s] (True) (.tp [.d (((siR t s).1).dd false),dB' ((siR t s).2.2)]):=by
 refine Xiv func199 28 [.cell 4 137,.tmp 5] [26] [] AN (AI @siR.eq_1<|AI @byN.eq_1<|AI @DX.eq_def<|AI @byF.eq_1<|AI @Ay<|AI @As<|AI @zSi.eq_1<|AI @zT.eq_1<|@zX.eq_1) ?_;intro hp h M G H E
 repeat' (first|(refine IN.mk ?_;intros)|(refine iTw ?_;refine T2 ?_ ?_<;>((try clear H);intro hb H)<;>try exact hb.elim)|(refine LF.mk ?_;exact LX)|refine GN ?_|(refine XC [1,2,4] [2,4] 6 (t.AW.length) (fun k0=>fs (byF AC.A5 s) 0 t.AW=fs (byF AC.A5 s) k0 (t.AW.drop k0)) ?_;intro k0 hk0 hi0)|fail)
instance sCtV (w:A1) (i:Int) (s:BA'):Ct cx 289 [.d (Au w),dI' i,dS' s] (w.sz≤134217728) (.tp [.d (((ctR w s).1).dd false),dI' (((ctR w s).2.1:Nat):Int),dB' (ctV w (vis w i) s)]):=by
 refine Xiv func289 40 [.cell 6 81,.tmp 7,.tmp 8] [24,34] [] AN (@ctV.eq_1) ?_;intro hp h M G H E
 all_goals exact GA0
