/- Part 29. No condition. -/
import Derived.Test.YtgihkamifpmfdaaGreatDoorM26
import Derived.Test.YtgihkamifpmfdaaGreatDoorM28
namespace Go.Proofs.YtgihkamifpmfdaaGreatDoor
open Go.RowKit Tryz
set_option linter.unusedVariables false
set_option maxRecDepth 10000
set_option linter.unusedSimpArgs false
set_option maxHeartbeats 4000000
theorem oY (x:A0) (v:BA') (hp:x.sz≤134217728) (h:HP):CS cx.P 248 [.d ((x).dd false),dS' v] h (dI' ((occ v x:Nat):Int)) h:=by
 refine Xe func248 rfl 10 [.tmp 4] ?_
 let M:List Nat:=[]
 let G:List Nat:=[]
 have H:=AN
 have hts:=DG x
 repeat' (first|(refine W.fzR (id:=2) 3 3 [2,5] [2,5] ?_)|(refine XlH G func250 (II x (by omega) v 331 f331 _ ⟨func331,rfl,rfl⟩ 5 (fun c=> .lf (.int .i64 ((c:Nat):Int))) (cnS v) (fun c=>c) (gd v) (fun y _ c hc lv h hcap=>ai v y c hc lv 5 h hcap) 0 (by show 0+AR x≤_;omega) 0 _ (by simp)) ?_)|refine GO ?_|(refine Two.mk ?_ ?_<;>intro hb<;>(try simp at hb)<;>(try norm_cast at hb)<;>try replace H:=HN hb H)|(refine RG.mk ?_;(try clear hK hD);first|intro _ K hD hK|intro K hD hK)|(refine RF.mk ?_;intro hr)|(refine LF.mk ?_;(try clear hK hD);first|rfl|(simp[Jv, *];done)|(simp_all [Jv];done)|grind [Jv]))
instance oX (k:Int) (n:BA') (l:List A0) (v:BA'):Ct cx 248 [.d (uK k n l),dS' v] (A0.sz ⟨k,n,l⟩≤134217728) (dI' ((occ v ⟨k,n,l⟩:Nat):Int)):=⟨fk1 func248,fun hp h=>by have q:=oY ⟨k,n,l⟩ v hp h;first|exact q|simpa using q⟩
theorem oL (v:BA') (x:A0) (hp:x.sz≤134217728) (h:HP):CS cx.P 430 [dS' v,.d ((x).dd false)] h (dB' (decide (0<occ v x))) h:=by
 refine Xe func430 rfl 9 [.tmp 4] ?_
 let M:List Nat:=[]
 let G:List Nat:=[]
 have H:=AN
 all_goals exact GA4
instance oK (v:BA') (k:Int) (n:BA') (l:List A0):Ct cx 430 [dS' v,.d (uK k n l)] (A0.sz ⟨k,n,l⟩≤134217728) (dB' (decide (0<occ v ⟨k,n,l⟩))):=⟨fk1 func430,fun hp h=>by have q:=oL v ⟨k,n,l⟩ hp h;first|exact q|simpa using q⟩
theorem fT (y:A0) (hp:y.sz≤134217728) (h:HP):CS cx.P 431 [.d ((y).dd false)] h (dB' (decide (0<occ Ej y))) h:=by
 refine Xe func431 rfl 5 [.tmp 2] ?_
 let M:List Nat:=[]
 let G:List Nat:=[]
 have H:=AN
 repeat' (first|refine GO ?_|(refine Two.mk ?_ ?_<;>intro hb<;>(try simp at hb)<;>(try norm_cast at hb)<;>try replace H:=HN hb H)|(refine RG.mk ?_;(try clear hK hD);first|intro _ K hD hK|intro K hD hK)|(refine RF.mk ?_;intro hr)|(refine LF.mk ?_;(try clear hK hD);first|rfl|(simp[Ej, *];done)|(simp_all [Ej];done)|grind [Ej]))
instance kS (y:A0):Ct cx 431 [.d (N1 y)] (y.sz≤134217728) (dB' (decide (0<occ Ej y))):=⟨fk1 func431,fun hp h=>by have q:=fT y hp h;first|exact q|simpa using q⟩
instance ni (k:Int) (n:BA') (l:List A0) (v:BA'):Ct cx 206 [.d (uK k n l),dS' v] (A0.sz ⟨k,n,l⟩≤134217728) (dI' ((occ v ⟨k,n,l⟩:Nat):Int)):=⟨fk1 func206,fun hp h=>by have q:=P1 ⟨k,n,l⟩ v hp h;first|exact q|simpa using q⟩
instance sTv_i (k:Int) (n:BA') (l:List A0):Ct cx 202 [.d (uK k n l)] (A0.sz ⟨k,n,l⟩≤134217728) (.d (.sl true .one (((tv ⟨k,n,l⟩)).map (dS)))):=⟨fk1 func202,fun hp h=>by have q:=c8 ⟨k,n,l⟩ hp h;first|exact q|simpa using q⟩
instance iTv_i (k:Int) (n:BA') (l:List A0):Ct cx 227 [.d (uK k n l)] (A0.sz ⟨k,n,l⟩≤134217728) (.d (.sl true .one (((tv ⟨k,n,l⟩)).map (dS)))):=⟨fk1 func227,fun hp h=>by have q:=R7 ⟨k,n,l⟩ hp h;first|exact q|simpa using q⟩
instance iSz_i (k:Int) (n:BA') (l:List A0):Ct cx 249 [.d (uK k n l)] (A0.sz ⟨k,n,l⟩≤134217728) (dI' ((AR ⟨k,n,l⟩:Nat):Int)):=⟨fk1 func249,fun hp h=>by have q:=GK ⟨k,n,l⟩ hp h;first|exact q|simpa using q⟩
theorem eG:∀(n:Nat) (x:A0),AR x<n→x.sz≤134217728→∀h:HP,CS cx.P 207 [.d ((x).dd false)] h (dI' ((AR x:Nat):Int)) h:=by
 intro n
 induction n with
 |zero=>intro x hx;omega
 |succ n ih=>
 intro x hx hz h
 have hsx:Ag x.AB<n:=by have:=BG x;omega
 have gx:=@Bo
 have hzx:=x.sz_eq;unfold szs at hzx
 have gz:∀k (hk:k<x.AB.length),AR x.AB[k]<n∧(x.AB[k]).sz≤134217728:=fun k hk=>⟨by have:=gx hk;omega,by have:=Ae A0.sz (gm hk);omega⟩
 have ii:∀(k:Int) (s:BA') (l:List A0),Ct cx 207 [.d (uK k s l)] (AR ⟨k,s,l⟩<n∧A0.sz ⟨k,s,l⟩≤134217728) (.d (.lf (.int .i64 ((AR ⟨k,s,l⟩:Nat):Int)))):=fun k s l=>⟨fk1 func207,fun hp h=>by have q:=ih ⟨k,s,l⟩ hp.1 hp.2 h;first|exact q|simpa using q⟩
 refine Xe func207 rfl 21 [.tmp 2] ?_
 let M:List Nat:=[]
 let G:List Nat:=[]
 have H:=AN
 replace H:=AI gz H
 repeat' (first|refine GO ?_|(refine Two.mk ?_ ?_<;>intro hb<;>(try simp at hb)<;>(try norm_cast at hb)<;>try replace H:=HN hb H)|(refine RG.mk ?_;(try clear hK hD);first|intro _ K hD hK|intro K hD hK)|(refine RF.mk ?_;intro hr)|(refine LF.mk ?_;(try clear hK hD);first|rfl|(simp[DU, *];done)|(simp_all [DU];done)|grind [DU]))
 refine W.loopR [1] [1] (fun k0 _=>[(4,dI' k0),(3,dI' ((DF x.AB k0:Nat):Int))]) (fun _ _=>[]) (x.AB.length) (fun _ _=>True) (fun S=>()) rfl (by simp[HZ]) (by first|trivial|rfl|(simp;done)|(simp[];done)|(simp_all [];done)) ?_
 · intro k0 hk0 s0 hi0 T hT;simp at hT;subst hT
   by_cases hkk:k0<x.AB.length
   rotate_left
   have hke:DF x.AB k0=AR x:=by rw[show k0=x.AB.length by omega,DU]
   replace H:=AI hke H
   rotate_left
   have hw:=Ki hkk (by unfold szs;omega);replace H:=AI hw H
   all_goals repeat' (first|refine GO ?_|(refine Two.mk ?_ ?_<;>intro hb<;>(try simp at hb)<;>(try norm_cast at hb)<;>try replace H:=HN hb H)|(refine RG.mk ?_;(try clear hK hD);first|intro _ K hD hK|intro K hD hK)|(refine RF.mk ?_;intro hr)|(refine LF.mk ?_;(try clear hK hD);first|rfl|(simp[*];done)|(simp_all;done)|grind))
instance nP (k:Int) (n:BA') (l:List A0):Ct cx 207 [.d (uK k n l)] (A0.sz ⟨k,n,l⟩≤134217728) (dI' ((AR ⟨k,n,l⟩:Nat):Int)):=⟨fk1 func207,fun hp h=>by have q:=eG _ ⟨k,n,l⟩ (Nat.lt_succ_self _) hp h;first|exact q|simpa using q⟩
def bs1 (b:A9) (t:A0) (v:BA'):Bool:=decide (occ v b.AM≤occ v t)
theorem Cl (b:A9) (t:A0):bSm b t=((tv b.AM).all (bs1 b t) && decide (AR b.AM<AR t)):=rfl
theorem nn (b:A9) (t:A0) (hp:b.sz≤134217728∧t.sz≤134217728) (h:HP):CS cx.P 137 [.d ((b).dd false),.d ((t).dd false)] h (dB' (bSm b t)) h:=by
 refine Xe func137 rfl 36 [.tmp 4] ?_
 let M:List Nat:=[]
 let G:List Nat:=[]
 have H:=AN
 have hbz:=b.sz_eq
 have htb:b.AM.sz≤134217728:=by have:=hp.1;omega
 have htt:=hp.2
 repeat' (first|refine GO ?_|(refine Two.mk ?_ ?_<;>intro hb<;>(try simp at hb)<;>(try norm_cast at hb)<;>try replace H:=HN hb H)|(refine RG.mk ?_;(try clear hK hD);first|intro _ K hD hK|intro K hD hK)|(refine RF.mk ?_;intro hr)|(refine LF.mk ?_;(try clear hK hD);first|rfl|(simp[Cl,bs1,Bc,BM,Int.ofNat_lt,Int.ofNat_le, *];done)|(simp_all [Cl,bs1,Bc,BM,Int.ofNat_lt,Int.ofNat_le];done)|grind [Cl,bs1,Bc,BM,Int.ofNat_lt,Int.ofNat_le]))
 refine W.loopR [2,3,5] [2,3] (fun k0 _=>[(6,dI' k0)]) (fun _ _=>[]) ((tv b.AM).length) (fun k0 _=>(tv b.AM).all (bs1 b t)=((tv b.AM).drop k0).all (bs1 b t)) (fun S=>()) rfl (by simp) (by first|trivial|rfl|(simp;done)|(simp[Cl,bs1,Bc,BM,Int.ofNat_lt,Int.ofNat_le];done)|(simp_all [Cl,bs1,Bc,BM,Int.ofNat_lt,Int.ofNat_le];done)) ?_
 intro k0 hk0 s0 hi0 T hT;simp at hT;subst hT
 repeat' (first|refine GO ?_|(refine Two.mk ?_ ?_<;>intro hb<;>(try simp at hb)<;>(try norm_cast at hb)<;>try replace H:=HN hb H)|(refine RG.mk ?_;(try clear hK hD);first|intro _ K hD hK|intro K hD hK)|(refine RF.mk ?_;intro hr)|(refine LF.mk ?_;(try clear hK hD);first|rfl|(simp[Cl,bs1,Bc,BM,Int.ofNat_lt,Int.ofNat_le, *];done)|(simp_all [Cl,bs1,Bc,BM,Int.ofNat_lt,Int.ofNat_le];done)|grind [Cl,bs1,Bc,BM,Int.ofNat_lt,Int.ofNat_le]))
theorem eH (w:A1) (B:Nat) (hB:B≤134217728):∀(n:Nat) (s:BA') (out:List BA'),SP w B n s out→∀h:HP,CS cx.P 132 [.d ((w).dd false),dS' s,.d (.sl true .one ((out).map (dS)))] h (.d (.sl true .one (((He w (Al w s) out)).map (dS)))) h:=by
 intro n
 induction n with
 |zero=>intro s out hx;obtain⟨m,hm, -⟩:=hx;omega
 |succ n ih=>
 intro s out hx h
 have ii:∀(s:BA') (out:List BA'),Ct cx 132 [.d (Au w),.d (.lf (.string (s))),.d (.sl true .one ((out).map (dS)))] (SP w B n s out) (.d (.sl true .one (((He w (Al w s) out)).map (dS)))):=fun s out=>⟨fk1 func132,fun hp h=>by have q:=ih s out hp h;first|exact q|simpa using q⟩
 have hst:=SP.start hx
 have hsu:∀s,(trR w s).1.Aq=Al w s:=fun _=>rfl
 have ij:∀(s:BA') (o:List BA') (z:BA'),Ct cx 132 [.d (Au w),.d (.lf (.string (s))),.d (.sl true .one (o.map dS++[.lf (.string z)]))] (SP w B n s (o++[z])) (.d (.sl true .one (((He w (Al w s) (o++[z]))).map (dS)))):=fun s o z=>⟨fk1 func132,fun hp h=>by have q:=ih s (o++[z]) hp h;simpa[dS] using q⟩
 refine Xe func132 rfl 49 [.tmp 6] ?_
 let M:List Nat:=[39,46,48]
 let G:List Nat:=[46]
 have H:=AN
 replace H:=AI hsu H
 repeat' (first|refine GO ?_|(refine Two.mk ?_ ?_<;>intro hb<;>(try simp at hb)<;>(try norm_cast at hb)<;>try replace H:=HN hb H)|(refine RG.mk ?_;(try clear hK hD);first|intro _ K hD hK|intro K hD hK)|(refine RF.mk ?_;intro hr)|(refine LF.mk ?_;(try clear hK hD);first|rfl|(simp[*];done)|(simp_all;done)|grind))
 refine W.loopR [3,7] [3,7] (fun k0 s0=>[(10,dI' k0),(2,.d (.sl true .one ((s0).map (dS))))]) (fun _ _=>[]) ((Al w s).length) (fun k0 s0=>SI w B n (Al w s) (He w (Al w s) out) k0 s0) (fun S=>bC (S.tm 2)) rfl (by simp) (by simpa using hst) ?_
 · intro k0 hk0 s0 hi0 T hT;simp at hT;subst hT
   have hln:=hi0.len
   by_cases hkk:k0<(Al w s).length
   rotate_left
   have hen:=hi0.end (by omega);replace H:=AI hen H
   rotate_left
   have hha:=hi0.has hkk;have hno:=hi0.not hkk;have hn1:=fun e=>(hno e).1;have hn2:=fun e=>(hno e).2;replace H:=AI hn1 (AI hn2 (AI hha H))
   all_goals repeat' (first|refine GO ?_|(refine Two.mk ?_ ?_<;>intro hb<;>(try simp at hb)<;>(try norm_cast at hb)<;>try replace H:=HN hb H)|(refine RG.mk ?_;(try clear hK hD);first|intro _ K hD hK|intro K hD hK)|(refine RF.mk ?_;intro hr)|(refine LF.mk ?_;(try clear hK hD);first|rfl|(simp[*];done)|(simp_all;done)|grind))
theorem oh (b:A9) (t:A0) (hp:b.sz≤134217728∧t.sz≤134217728) (h:HP):CS cx.P 172 [.d ((b).dd false),.d ((t).dd false)] h (dB' (bSm b t)) h:=by
 refine Xe func172 rfl 30 [.tmp 4] ?_
 let M:List Nat:=[]
 let G:List Nat:=[]
 have H:=AN
 have hbz:=b.sz_eq
 have htb:b.AM.sz≤134217728:=by have:=hp.1;omega
 have htt:=hp.2
 repeat' (first|refine GO ?_|(refine Two.mk ?_ ?_<;>intro hb<;>(try simp at hb)<;>(try norm_cast at hb)<;>try replace H:=HN hb H)|(refine RG.mk ?_;(try clear hK hD);first|intro _ K hD hK|intro K hD hK)|(refine RF.mk ?_;intro hr)|(refine LF.mk ?_;(try clear hK hD);first|rfl|(simp[Cl,bs1,Bc,BM,Int.ofNat_lt,Int.ofNat_le, *];done)|(simp_all [Cl,bs1,Bc,BM,Int.ofNat_lt,Int.ofNat_le];done)|grind [Cl,bs1,Bc,BM,Int.ofNat_lt,Int.ofNat_le]))
 refine W.loopR [2,3,9,10] [2,3] (fun k0 _=>[(11,dI' k0)]) (fun _ _=>[]) ((tv b.AM).length) (fun k0 _=>(tv b.AM).all (bs1 b t)=((tv b.AM).drop k0).all (bs1 b t)) (fun S=>()) rfl (by simp) (by first|trivial|rfl|(simp;done)|(simp[Cl,bs1,Bc,BM,Int.ofNat_lt,Int.ofNat_le];done)|(simp_all [Cl,bs1,Bc,BM,Int.ofNat_lt,Int.ofNat_le];done)) ?_
 intro k0 hk0 s0 hi0 T hT;simp at hT;subst hT
 repeat' (first|refine GO ?_|(refine Two.mk ?_ ?_<;>intro hb<;>(try simp at hb)<;>(try norm_cast at hb)<;>try replace H:=HN hb H)|(refine RG.mk ?_;(try clear hK hD);first|intro _ K hD hK|intro K hD hK)|(refine RF.mk ?_;intro hr)|(refine LF.mk ?_;(try clear hK hD);first|rfl|(simp[Cl,bs1,Bc,BM,Int.ofNat_lt,Int.ofNat_le, *];done)|(simp_all [Cl,bs1,Bc,BM,Int.ofNat_lt,Int.ofNat_le];done)|grind [Cl,bs1,Bc,BM,Int.ofNat_lt,Int.ofNat_le]))
instance iIxK (l:List Nat) (s:Nat):Ct cx 322 [.d (.sl false .one ((l).map (dN))),dI' ((s:Nat):Int)] (True) (dI' (ixK l s)):=by
 refine Xi func322 19 [.tmp 4] [] [] AN (AI @ixK.eq_1<|AI @kF.eq_1<|AI @Ay<|@As) ?_;intro hp h M G H E
 repeat' (first|(refine IN.mk ?_;intros)|(refine iTw ?_;refine T2 ?_ ?_<;>((try clear H);intro hb H)<;>try exact hb.elim)|(refine LF.mk ?_;exact LX)|refine GN ?_|(refine XC [0,1,7] [] 8 (l.length) (fun k0=>fs (kF s) 0 l=fs (kF s) k0 (l.drop k0)) ?_;intro k0 hk0 hi0)|fail)
instance iCoK (l:List Nat) (s:Nat):Ct cx 235 [.d (.sl false .one ((l).map (dN))),dI' ((s:Nat):Int)] (True) (dB' (F9 l s)):=by
 refine Xi func235 9 [.tmp 4] [] [] AN (AI @R1<|@Vf) ?_;intro hp h M G H E
 all_goals exact GA0
instance iSees (w:A1) (v:List Nat) (k:Nat):Ct cx 156 [.d (.st [Au w,.sl false .one (v.map dN)]),dI' ((k:Nat):Int)] (True) (dB' (F9 v k)):=by
 refine Xi func156 9 [.tmp 4] [] [] AN trivial ?_;intro hp h M G H E
 all_goals exact GA0
instance iTrV (w:A1) (v:List Nat) (s:BA'):Ct cx 79 [.d (.st [Au w,.sl false .one (v.map dN)]),dS' s] (True) (.tp [.d (((trR w s).1).dd false),dB' (trV w v s)]):=by
 refine Xiv func79 24 [.cell 4 77,.tmp 5] [17] [] AN (@trV.eq_1) ?_;intro hp h M G H E
 all_goals exact GA1
instance iDaV (w:A1) (v:List Nat) (s:BA'):Ct cx 237 [.d (.st [Au w,.sl false .one (v.map dN)]),dS' s] (True) (.tp [.d (((daR w s).1).dd false),dB' (daV w v s)]):=by
 refine Xiv func237 24 [.cell 4 81,.tmp 5] [17] [] AN (@daV.eq_1) ?_;intro hp h M G H E
 all_goals exact GA1
instance iFnV (w:A1) (v:List Nat) (s:BA'):Ct cx 239 [.d (.st [Au w,.sl false .one (v.map dN)]),dS' s] (True) (.tp [.d (((fnR w s).1).dd false),dB' (fnV w v s)]):=by
 refine Xiv func239 24 [.cell 4 97,.tmp 5] [17] [] AN (@fnV.eq_1) ?_;intro hp h M G H E
 all_goals exact GA1
instance iCtV (w:A1) (v:List Nat) (s:BA'):Ct cx 240 [.d (.st [Au w,.sl false .one (v.map dN)]),dS' s] (True) (.tp [.d (((ctR w s).1).dd false),dI' (((ctR w s).2.1:Nat):Int),dB' (ctV w v s)]):=by
 refine Xiv func240 41 [.cell 4 81,.tmp 5,.tmp 6] [30] [] AN (AI @ctV.eq_1<|@gX) ?_;intro hp h M G H E
 all_goals exact GA1
instance iSelf (y:AC):Ct cx 381 [.d (KR y)] (y.sz≤134217728) (dB' (TP y)):=by
 refine Xi func381 11 [.tmp 2] [] [] AN (AI @TP.eq_1<|@Ej.eq_1) ?_;intro hp h M G H E
 have qSignature:=AC.sz_eq;have gSignature:=@Bm _ AC.sz;unfold szs at qSignature
 have qType:=A0.sz_eq;have gType:=@Bm _ A0.sz;unfold szs at qType
 have hy:∀z∈y.Am,z.sz≤134217728:=fun z hz=>by have:=Ae A0.sz hz;have:=y.sz_eq;unfold szs at this;omega
 replace H:=AI hy H
 all_goals exact GA1
instance iDynS (t:AU):Ct cx 323 [.d (KQ t)] (t.sz≤134217728) (dB' (aR t)):=by
 refine Xi func323 12 [.tmp 2] [] [] AN (@Rc) ?_;intro hp h M G H E
 have hy:∀z∈t.AW,z.sz≤134217728:=fun z hz=>by have:=Ae AC.sz hz;have:=t.sz_eq;unfold szs at this;omega
 replace H:=AI hy H
 all_goals exact GA1
instance iArmC (y:Ac) (s:BA'):Ct cx 383 [.d (dP y),.el (.lf (.string s))] (True) (dB' (decide (y.AZ=s))):=by
 refine Xi func383 8 [.tmp 3] [] [] AN trivial ?_;intro hp h M G H E
 all_goals exact GA0
instance ol (a:List Ac) (s:BA'):Ct cx 326 [.d (.sl false BL ((a).map (Ac.dd false))),dS' s] (True) (dI' (arI a s)):=by
 refine Xi func326 8 [.tmp 4] [] [] AN (@arI.eq_1) ?_;intro hp h M G H E
 repeat' (first|(refine W.fzR (id:=1) 3 3 [0] [] ?_)|(refine IN.mk ?_;intros)|(refine iTw ?_;refine T2 ?_ ?_<;>((try clear H);intro hb H)<;>try exact hb.elim)|(refine LF.mk ?_;exact LX)|refine GN ?_)
instance oU (l:List BA'):Ct cx 77 [.d (.sl false .one ((l).map (dS)))] (l.length≤134217728) (dB' (dst l)):=⟨fk1 func77,fun hp h=>by have q:=M7 l hp h;first|exact q|simpa using q⟩
instance iFit (d:AF) (a:List Ac):Ct cx 241 [.d (SL d),.d (.sl false BL ((a).map (Ac.dd false)))] (d.A4.length≤134217728) (dB' (Jr d a)):=by
 refine Xi func241 50 [.tmp 4] [16,17] [] AN (AI @WA<|AI @Bc<|AI @BM<|@Int.ofNat_inj) ?_;intro hp h M G H E
 repeat' (first|exact true|(refine IN.mk ?_;intros)|(refine iTw ?_;refine T2 ?_ ?_<;>((try clear H);intro hb H)<;>try (first|exact hb.elim|(exfalso;omega)))|(refine LF.mk ?_;exact LX)|refine BO.mk ?_ ?_|(apply iPJ;exact NPJ)|apply PXs.of|refine GN ?_|(refine XL [1,11,12] [] (fun k0 _=>[(13,dI' k0),(5,.d (.sl true .one ((mp AA.A5 d.A4 k0).map dS)))]) (fun _ _=>[]) (d.A4.length) (fun k0 _=>d.A4.all (c1 a)=(d.A4.drop k0).all (c1 a)) rU ?_;intro k0 hk0 s0 hi0;have hml:=Bh AA.A5 hk0;have hmz:=ZF d.A4;have hme:d.A4.length≤k0→mp AA.A5 d.A4 k0=nmC d.A4:=ZG;by_cases hkk:k0<d.A4.length;rotate_left;(have hme2:=hme (by omega);have hae:d.A4.all (c1 a)=true:=by rw[hi0,BM (by omega)]);clear hi0;replace H:=AI hme2 (AI hmz H);rotate_left;rcases TZ a d.A4[k0] with ⟨hj1,hj2⟩|⟨j,hj,hj1,hj2⟩<;>replace H:=AI hj1 (AI hj2 H))|fail)
