/- Part 49. No condition. -/
import Derived.Test.YtgihkamifpmfdaaGreatDoorM41
namespace Go.Proofs.YtgihkamifpmfdaaGreatDoor
open Go.RowKit Tryz
set_option linter.unusedVariables false
set_option maxRecDepth 10000
set_option linter.unusedSimpArgs false
set_option maxHeartbeats 4000000
theorem Ct.pre {c:Cx} {g:Nat} {aa:List AV} {p q:Prop} {r:AV} (h:Ct c g aa p r) (k:q→p):Ct c g aa q r:=⟨h.ok,fun hq=>h.cs (k hq)⟩
theorem eK:∀(N:Nat) (o:List A9) (k:Int) (n:BA') (l:List A0),Ct cx 208 [.d (uK k n l),.d (.sl true BC ((o).map (A9.dd true)))] (AR (⟨k,n,l⟩:A0)<N∧A0.sz (⟨k,n,l⟩:A0)≤134217728∧o.length+AR (⟨k,n,l⟩:A0)≤1073741824) (.d (.sl true BC (((pjT (⟨k,n,l⟩:A0) o)).map (A9.dd true)))):=by
 intro N
 induction N with
 |zero=>intro o k n l;exact⟨fk1 func208,fun hp=>absurd hp.1 (Nat.not_lt_zero _)⟩
 |succ N ih=>
 intro o k n l
 refine Xi func208 62 [.tmp 4] [43,44,59,61] [59] AN (AI @Ob<|@VB) ?_;intro hp h M G H E
 have gs:∀j (hj:j<l.length),AR l[j]<N:=fun j hj=>by have:=Bo hj;have:=BG (⟨k,n,l⟩:A0);have:=hp.1;simp only at*;omega
 have hlz:=A0.sz_eq (⟨k,n,l⟩:A0);simp only[szs] at hlz;have hpz:=hp.2.1;have hpr0:=hp.2.2;have hts:AR (⟨k,n,l⟩:A0)=1+Ag l:=rfl
 by_cases hk3:k=3∧0<l.length
 obtain⟨rfl,hk32⟩:=hk3;obtain⟨u,hu⟩:∃u,l[0]'hk32=u:=⟨_,rfl⟩;have hu2:∀h:0<l.length,l[0]=u:=fun _=>hu;have hy1:=@Qf 3 n l o rfl hk32;have hy2:=@Qg 3 n l o rfl hk32;rw[hu] at hy1 hy2;have huz:=Ae A0.sz (gm hk32);rw[hu] at huz;have huz2:u.sz≤134217728:=(by omega);have huw:=CJ huz2;replace H:=AI huw (AI hk32 (AI hu2 (AI huz2 H)))
 rotate_left
 have hn1:=VC (n:=n) (o:=o) hk3
 rotate_left
 repeat' (first|exact true|(refine IN.mk ?_;intros)|(refine iTw ?_;refine T2 ?_ ?_<;>((try clear H);intro hb H)<;>try (first|exact hb.elim|(exfalso;omega)))|(refine LF.mk ?_;exact LX)|refine BO.mk ?_ ?_|(apply iPJ;exact NPJ)|apply PXs.of|refine GN ?_|(refine XL [1,2,5] [2,5] (fun k0 _=>[(7,dI' k0),(6,dB' ((bhK o ⟨n,u⟩ k0)))]) (fun _ _=>[]) (o.length) (fun _ _=>True) rU ?_;intro k0 hk0 s0 hi0;have hbe:=@Iv o k0 ⟨n,u⟩;have hbn:=@XK o k0 ⟨n,u⟩;have hyb1:o.length≤k0→bhK o ⟨n,u⟩ k0=true→pj1 3 n l o=o:=fun h e=>hy1 (by rw[←Iv _ h];exact e);have hyb2:o.length≤k0→bhK o ⟨n,u⟩ k0=false→pj1 3 n l o=o++[⟨n,u⟩]:=fun h e=>hy2 (by rw[←Iv _ h];exact e);replace H:=AI hbe (AI hbn H))|(have hca:pj1 k n l o=o:=(by first|exact hn1);refine XL [2] [2] (fun k1 _=>[(8,dI' k1),(1,.d (.sl true BC (((pjK l o k1)).map (A9.dd true))))]) (fun _ _=>[]) (l.length) (fun _ _=>True) rU ?_;intro k1 hk1 s1 hi1;have hpe:=@Lp k n l o k1;rw[hca] at hpe;have hpl:=Em (l.take k1) o;have hp1:=Gt k n l o;rw[hca] at hp1;by_cases hkk:k1<l.length;rotate_left;have hpe2:=hpe (by omega);replace H:=AI hpe2 H;rotate_left;have hpn:=@P4 l o k1 hkk;have hpr:=@JO l o k1 hkk;have hel:=Ae A0.sz (gm hkk);have hgs:=gs k1 hkk;have hrm:(pjK l o k1).length+AR l[k1]≤1073741824:=(by omega);have hes:l[k1].sz≤134217728:=(by omega);replace H:=AI hpn (AI hgs (AI hrm (AI hes H))))|(have hca:pj1 3 n l o=o:=(by first|exact hyb1 (by omega) hb);refine XL [2] [2] (fun k1 _=>[(8,dI' k1),(1,.d (.sl true BC (((pjK l o k1)).map (A9.dd true))))]) (fun _ _=>[]) (l.length) (fun _ _=>True) rU ?_;intro k1 hk1 s1 hi1;have hpe:=@Lp 3 n l o k1;rw[hca] at hpe;have hpl:=Em (l.take k1) o;have hp1:=Gt 3 n l o;rw[hca] at hp1;by_cases hkk:k1<l.length;rotate_left;have hpe2:=hpe (by omega);replace H:=AI hpe2 H;rotate_left;have hpn:=@P4 l o k1 hkk;have hpr:=@JO l o k1 hkk;have hel:=Ae A0.sz (gm hkk);have hgs:=gs k1 hkk;have hrm:(pjK l o k1).length+AR l[k1]≤1073741824:=(by omega);have hes:l[k1].sz≤134217728:=(by omega);replace H:=AI hpn (AI hgs (AI hrm (AI hes H))))|(have hca:pj1 3 n l o=(o++[⟨n,u⟩]):=(by first|exact hyb2 (by omega) hb);refine XL [2] [2] (fun k1 _=>[(8,dI' k1),(1,.d (.sl true BC (((pjK l (o++[⟨n,u⟩]) k1)).map (A9.dd true))))]) (fun _ _=>[]) (l.length) (fun _ _=>True) rU ?_;intro k1 hk1 s1 hi1;have hpe:=@Lp 3 n l o k1;rw[hca] at hpe;have hpl:=Em (l.take k1) (o++[⟨n,u⟩]);have hp1:=Gt 3 n l o;rw[hca] at hp1;by_cases hkk:k1<l.length;rotate_left;have hpe2:=hpe (by omega);replace H:=AI hpe2 H;rotate_left;have hpn:=@P4 l (o++[⟨n,u⟩]) k1 hkk;have hpr:=@JO l (o++[⟨n,u⟩]) k1 hkk;have hel:=Ae A0.sz (gm hkk);have hgs:=gs k1 hkk;have hrm:(pjK l (o++[⟨n,u⟩]) k1).length+AR l[k1]≤1073741824:=(by omega);have hes:l[k1].sz≤134217728:=(by omega);replace H:=AI hpn (AI hgs (AI hrm (AI hes H))))|fail)
instance jm (o:List A9) (k:Int) (n:BA') (l:List A0):Ct cx 208 [.d (uK k n l),.d (.sl true BC ((o).map (A9.dd true)))] (A0.sz (⟨k,n,l⟩:A0)≤134217728∧o.length+AR (⟨k,n,l⟩:A0)≤1073741824) (.d (.sl true BC (((pjT (⟨k,n,l⟩:A0) o)).map (A9.dd true)))):=⟨fk1 func208,fun hp h=>(eK _ o k n l).cs ⟨Nat.lt_succ_self _,hp⟩ h⟩
instance sPjs0 (k:Int) (n:BA') (l:List A0):Ct cx 208 [.d (uK k n l),.d (.sl true BC [])] (A0.sz (⟨k,n,l⟩:A0)≤134217728) (.d (.sl true BC (((pjT (⟨k,n,l⟩:A0) [])).map (A9.dd true)))):=⟨(Ct.pre (jm [] k n l) (fun hp=>⟨hp,by have:=Cn (⟨k,n,l⟩:A0);simp only[List.length_nil];omega⟩)).ok,fun hp h=>by have q:=(Ct.pre (jm [] k n l) (fun hp=>⟨hp,by have:=Cn (⟨k,n,l⟩:A0);simp only[List.length_nil];omega⟩)).cs hp h;first|exact q|simpa using q⟩
instance sPrIn (k:Int) (n:BA') (l:List A0):Ct cx 138 [.d (uK k n l)] (A0.sz (⟨k,n,l⟩:A0)≤134217728) (.d (.sl true BC (((pjT (⟨k,n,l⟩:A0) [])).map (A9.dd true)))):=by
 refine Xi func138 6 [.tmp 2] [4] [4] AN trivial ?_;intro hp h M G H E
 all_goals exact GA0
instance sAsc (x:AJ):Ct cx 68 [.d (E6 x)] (x.sz≤134217728) (dB' (ER x)):=by
 refine Xi func68 38 [.tmp 2] [] [] AN (AI @ER.eq_1<|AI @Bc<|AI @BM<|@Ob) ?_;intro hp h M G H E
 have hxz:=x.sz_eq;unfold szs at hxz;have haz:x.B4.sz≤134217728:=(by omega);have hal:=Qd x.B4 [];have hat:=Cn x.B4;simp only[List.length_nil] at hal;replace H:=AI haz H
 repeat' (first|exact true|(refine IN.mk ?_;intros)|(refine iTw ?_;refine T2 ?_ ?_<;>((try clear H);intro hb H)<;>try exact hb.elim)|(refine LF.mk ?_;exact LX)|refine BO.mk ?_ ?_|(apply iPJ;exact NPJ)|apply PXs.of|refine GN ?_|(refine XC [1,3] [1] 4 ((pjT x.B4 []).length) (fun k0=>(pjT x.B4 []).all (H5 x.Ah)=((pjT x.B4 []).drop k0).all (H5 x.Ah)) ?_;intro k0 hk0 hi0)|(refine XL [1,3,4] [1] (fun k1 _=>[(6,dI' k1),(5,dB' ((bhK x.Ah (pjT x.B4 [])[k0] k1)))]) (fun _ _=>[]) (x.Ah.length) (fun _ _=>True) rU ?_;intro k1 hk1 s1 hi1;have hbe:=@Iv x.Ah k1 (pjT x.B4 [])[k0];have hbn:=@XK x.Ah k1 (pjT x.B4 [])[k0];replace H:=AI hbe (AI hbn H))|fail)
instance p9 (l:List AX):Ct cx 96 [.d (.sl false CZ ((l).map (AX.dd false)))] (l.length≤134217728) (.d (.sl true Ai (((pTy l)).map (A0.dd false)))):=⟨fk1 func96,fun hp h=>by have q:=VF l hp h;first|exact q|simpa using q⟩
instance p6 (x:A8):Ct cx 99 [.d (.sl false Dw [(U9 x)])] (x.sz≤134217728) (dB' (uq [x])):=⟨fk1 func99,fun hp h=>by have q:=il [x] (by simp) (by simpa[szL] using hp) h;first|exact q|simpa using q⟩
theorem R6 (l:List BA') (s:BA'):0≤Jh l s↔B7 l s=true:=by rw[←Nm];simp
theorem ZU {l:List BA'} {s:BA'} (h:Jh l s<0):B7 l s=false:=by
  cases q:B7 l s with
  |false=>rfl
  |true=>have:=(R6 l s).2 q;omega
theorem p24 {a b c d:Nat} (h:(a:Int)+b+c+d≤24):a+b+c+d≤24:=by omega
theorem ZA {l:List AX} (h:∀k,NSz (mp AX.A5 l k)):NSz (pNm l):=by have:=h l.length;rwa [Bb (Nat.le_refl _)] at this
theorem aF (l:List AX) (v:List BA'):En (pTy l) v= !(l.any fun p=> !Bl p.AM v):=by unfold En pTy;rw[List.any_map];rfl
instance giFn (x:AL):Ct cx 151 [.d (N4 x)] (x.sz≤134217728) (dB' (O4 x)):=by
 have j1:=@p9
 refine Xi func151 53 [.tmp 2] [] [] AN (AI @O4.eq_1<|AI @CV.eq_1<|AI @aF<|@pNm.eq_1) ?_;intro hp h M G H E
 have qParam:=AX.sz_eq;have gParam:=@Bm _ AX.sz;unfold szs at qParam
 have hx:=x.sz_eq;unfold szs at hx
 have hsw:∀y∈x.Ah,y.sz≤134217728:=fun y hy=>by have:=Ae A9.sz hy;omega
 replace H:=AI hsw H
 have hv:NSz x.Aa:=NSz.of (by omega) (by omega);replace H:=AI hv H
 have hnn:=NSz.mp AX.A5 (l:=x.Am) (fun y hy=>by have h1:=Ae AX.sz hy;have h2:=y.sz_eq;unfold szs at h2;omega) (by omega);replace H:=AI hnn H
 have hpn:=ZA hnn;replace H:=AI hpn H
 have hpt:(pTy x.Am).length≤134217728:=by unfold pTy;simp;omega
 have hps:∀y∈pTy x.Am,y.sz≤134217728:=fun y hy=>by unfold pTy at hy;obtain⟨p,hp,rfl⟩:=List.mem_map.1 hy;have h1:=Ae AX.sz hp;have h2:=p.sz_eq;unfold szs at h2;omega
 replace H:=AI hpt (AI hps H)
 all_goals exact GA1
instance lr (x:AU):Ct cx 148 [.d (KQ x)] (x.sz≤134217728) (dB' (DC x)):=by
 refine Xi func148 65 [.tmp 2] [53,57] [] AN (AI @DC.eq_1<|AI @CV.eq_1<|AI @Cc<|AI @Bp<|@Bb) ?_;intro hp h M G H E
 have qSignature:=AC.sz_eq;have gSignature:=@Bm _ AC.sz;unfold szs at qSignature
 have hx:=x.sz_eq;unfold szs at hx
 have hv:NSz x.Aq:=NSz.of (by omega) (by omega);replace H:=AI hv H
 have hnn:=NSz.mp AC.A5 (l:=x.AW) (fun y hy=>by have h1:=Ae AC.sz hy;have h2:=y.sz_eq;unfold szs at h2;omega) (by omega);replace H:=AI hnn H
 repeat' (first|exact true|(refine LF.mk ?_;rw[Bp (by omega)] at hi0;have hnm:=ZD hi0;rw[Bb (by omega)];simp[*];grind)|(refine IN.mk ?_;intros)|(refine iTw ?_;refine T2 ?_ ?_<;>((try clear H);intro hb H)<;>try exact hb.elim)|(refine LF.mk ?_;exact LX)|refine BO.mk ?_ ?_|(apply iPJ;exact NPJ)|apply PXs.of|refine GN ?_|(refine XL [48,49] [] (fun k0 _=>[(50,dI' k0),(3,.d (.sl true .one (((mp AC.A5 x.AW k0)).map (dS))))]) (fun _ _=>[]) (x.AW.length) (fun k0 _=>(x.AW.any fun g=> !FD g)=(x.AW.drop k0).any fun g=> !FD g) rU ?_;intro k0 hk0 s0 hi0;have hml:=Bh AC.A5 hk0)|fail)
instance pF (x:AF):Ct cx 149 [.d (SL x)] (x.sz≤134217728) (dB' (D3 x)):=by
 refine Xi func149 62 [.tmp 2] [41,54] [] AN (AI @D3.eq_1<|AI @IK.eq_1<|AI @CV.eq_1<|AI @Cc<|AI @Bp<|@Bb) ?_;intro hp h M G H E
 have hx:=x.sz_eq;unfold szs at hx
 have hcs:∀k (h:k<x.A4.length),∀y∈(x.A4[k]).Av,y.sz≤134217728:=fun k h y hy=>by have h1:=Ae AA.sz (gm h);have h2:=(x.A4[k]).sz_eq;unfold szs at h2;have h3:=Ae A0.sz hy;omega
 replace H:=AI hcs H
 have hv:NSz x.Aa:=NSz.of (by omega) (by omega);replace H:=AI hv H
 have hnn:=NSz.mp AA.A5 (l:=x.A4) (fun y hy=>by have h1:=Ae AA.sz hy;have h2:=y.sz_eq;unfold szs at h2;omega) (by omega);replace H:=AI hnn H
 have hcl:∀k (h:k<x.A4.length),(x.A4[k]).Av.length≤134217728:=fun k h=>by have h1:=Ae AA.sz (gm h);have h2:=(x.A4[k]).sz_eq;unfold szs at h2;omega
 replace H:=AI hcl H
 repeat' (first|exact true|(refine IN.mk ?_;intros)|(refine iTw ?_;refine T2 ?_ ?_<;>((try clear H);intro hb H)<;>try exact hb.elim)|(refine LF.mk ?_;exact LX)|refine BO.mk ?_ ?_|(apply iPJ;exact NPJ)|apply PXs.of|refine GN ?_|(refine XL [1,36,37] [1] (fun k0 _=>[(38,dI' k0),(3,.d (.sl true .one (((mp AA.A5 x.A4 k0)).map (dS))))]) (fun _ _=>[]) (x.A4.length) (fun k0 _=>(x.A4.any fun c=>IK c x.Aa)=(x.A4.drop k0).any fun c=>IK c x.Aa) rU ?_;intro k0 hk0 s0 hi0;have hml:=Bh AA.A5 hk0)|fail)
instance pE (x:AJ):Ct cx 150 [.d (E6 x)] (x.sz≤134217728) (dB' (instOk x)):=by
 have j1:=@p7;have j2:=@p8
 refine Xi func150 123 [.tmp 2] [96,115] [] AN (AI @instOk_sub<|AI @inst1_k<|AI @inst2.eq_1<|AI @f5<|AI @CV.eq_1<|AI @Cc<|AI @Bp<|@Bb) ?_;intro hp h M G H E
 have qMethod:=AY.sz_eq;have gMethod:=@Bm _ AY.sz;unfold szs at qMethod
 have hx:=x.sz_eq;unfold szs at hx
 have hsw:∀y∈x.Ah,y.sz≤134217728:=fun y hy=>by have:=Ae A9.sz hy;omega
 replace H:=AI hsw H
 have hv:NSz x.Aa:=NSz.of (by omega) (by omega);replace H:=AI hv H
 have hnn:=NSz.mp AY.A5 (l:=x.Ar) (fun y hy=>by have h1:=Ae AY.sz hy;have h2:=y.sz_eq;unfold szs at h2;omega) (by omega);replace H:=AI hnn H
 have htn:=dR x.At (by omega);replace H:=AI htn H
 have hmv:∀k (h:k<x.Ar.length),NSz (x.Ar[k]).Aa:=fun k h=>by have h1:=Ae AY.sz (gm h);have h2:=(x.Ar[k]).sz_eq;unfold szs at h2;exact NSz.of (by omega) (by omega)
 replace H:=AI hmv H
 repeat' (first|exact true|(refine IN.mk ?_;intros)|(refine iTw ?_;refine T2 ?_ ?_<;>((try clear H);intro hb H)<;>try exact hb.elim)|(refine LF.mk ?_;exact LX)|refine BO.mk ?_ ?_|(apply iPJ;exact NPJ)|apply PXs.of|refine GN ?_|(refine XL [91,92] [] (fun k0 _=>[(93,dI' k0),(3,.d (.sl true .one (((mp AY.A5 x.Ar k0)).map (dS))))]) (fun _ _=>[]) (x.Ar.length) (fun k0 _=>x.Ar.any F6=(x.Ar.drop k0).any F6) rU ?_;intro k0 hk0 s0 hi0;have hml:=Bh AY.A5 hk0)|fail)
instance giPkg (x:A8):Ct cx 75 [.d (U9 x)] (x.sz≤134217728) (dB' (DS x)):=by
 refine Xi func75 108 [.tmp 2] [52,61,74,87,100] [] AN (AI @DS.eq_1<|AI @pk1.eq_1<|AI @F3.eq_1<|AI @dD<|AI @CV.eq_1<|AI @Fq<|AI @R6<|@Bool.and_assoc) ?_;intro hp h M G H E
 have qTrait:=AU.sz_eq;have PI:=@Bm _ AU.sz;unfold szs at qTrait
 have qDataType:=AF.sz_eq;have gDataType:=@Bm _ AF.sz;unfold szs at qDataType
 have qInstance:=AJ.sz_eq;have gInstance:=@Bm _ AJ.sz;unfold szs at qInstance
 have qFunction:=AL.sz_eq;have gFunction:=@Bm _ AL.sz;unfold szs at qFunction
 have hx:=x.sz_eq;unfold szs at hx
 have hv:NSz x.Ba:=NSz.of (by omega) (by omega);replace H:=AI hv H
 have hw1:=BH (n:=(x.Aj.length:Int)+x.AE.length) (by omega) (by omega);have hw2:=BH (n:=(x.Aj.length:Int)+x.AE.length+x.AQ.length) (by omega) (by omega);have hw3:=BH (n:=(x.Aj.length:Int)+x.AE.length+x.AQ.length+x.Ad.length) (by omega) (by omega);replace H:=AI hw1 (AI hw2 (AI hw3 H))
 repeat' (first|exact true|(refine LF.mk ?_;rw[Fq (by assumption),Fq (by assumption),Fq (by assumption),Fq (by assumption)];have h24:=p24 (by assumption);have hq:=@ZU x.Ba x.A5 (by grind);simp[*,List.all_eq_not_any_not];done)|(refine IN.mk ?_;intros)|(refine iTw ?_;refine T2 ?_ ?_<;>((try clear H);intro hb H)<;>try exact hb.elim)|(refine LF.mk ?_;exact LX)|refine BO.mk ?_ ?_|(apply iPJ;exact NPJ)|apply PXs.of|refine GN ?_|(refine XL [1,56,57] [1] (fun k0 _=>[(58,dI' k0),(3,dB' (uq [x] && G5 DC x.Aj k0))]) (fun _ _=>[]) (x.Aj.length) (fun _ _=>True) rU ?_;intro k0 hk0 s0 hi0)|(refine XL [1,69,70] [1] (fun k1 _=>[(71,dI' k1),(3,dB' (uq [x] && G5 DC x.Aj k0 && G5 D3 x.AE k1))]) (fun _ _=>[]) (x.AE.length) (fun _ _=>True) rU ?_;intro k1 hk1 s1 hi1)|(refine XL [1,82,83] [1] (fun k2 _=>[(84,dI' k2),(3,dB' (uq [x] && G5 DC x.Aj k0 && G5 D3 x.AE k1 && G5 instOk x.AQ k2))]) (fun _ _=>[]) (x.AQ.length) (fun _ _=>True) rU ?_;intro k2 hk2 s2 hi2)|(refine XL [95,96] [] (fun k3 _=>[(97,dI' k3),(3,dB' (uq [x] && G5 DC x.Aj k0 && G5 D3 x.AE k1 && G5 instOk x.AQ k2 && G5 O4 x.Ad k3))]) (fun _ _=>[]) (x.Ad.length) (fun _ _=>True) rU ?_;intro k3 hk3 s3 hi3)|fail)
instance oo (l all:List BA'):Ct cx 76 [.d (.sl false .one ((l).map (dS))),.d (.sl false .one ((all).map (dS)))] (l.length≤1073741824∧all.length≤4294967296) (dB' (sub l all)):=⟨fk1 func76,fun hp h=>by have q:=EG l all hp.1 hp.2 h;first|exact q|simpa using q⟩
theorem aT (w:A1) (i:Nat) (p:A8):dpI w i p=(DS p && sub p.Ba (mp A8.A5 w.A2 i)):=rfl
instance iUq_i (l:List A8):Ct cx 99 [.d (.sl false Dw ((l).map (A8.dd false)))] (l.length≤134217728∧szL A8.sz l≤134217728) (dB' (uq l)):=⟨fk1 func99,fun hp h=>by have q:=il l hp.1 hp.2 h;first|exact q|simpa using q⟩
theorem fM (x:A1) (i:Int) (hz:x.sz≤134217728) (h:HP):CS cx.P 78 [.d ((x).dd false),dI' i] h (.d (.sl false .one ((vis x i).map (dN)))) h:=by
 have q:=CS.vw (fO x i hz h)
 simpa using q
instance oF (w:A1) (i:Int):Ct cx 78 [.d (Au w),dI' i] (w.sz≤134217728) (.d (.sl false .one ((vis w i).map (dN)))):=⟨fk1 func78,fun hp h=>by have q:=fM w i hp h;first|exact q|simpa using q⟩
instance iNmU (w:A1):Ct cx 40 [.d (Au w)] (w.sz≤134217728) (dB' (uq w.A2)):=by
 refine Xi func40 6 [.tmp 2] [] [] AN trivial ?_;intro hp h M G H E
 have hwz:=w.sz_eq;unfold szs at hwz
 all_goals exact GA0
instance iView (w:A1) (i:Int):Ct cx 34 [.d (Au w),dI' i] (w.sz≤134217728) (.d (.st [w.dd false,.sl false .one ((vis w i).map dN)])):=by
 refine Xi func34 10 [.cell 4 72] [] [] AN trivial ?_;intro hp h M G H E
 all_goals exact GA0
instance iDepV (w:A1):Ct cx 33 [.d (Au w)] (w.sz≤134217728) (dB' (IJ DS w)):=by
 refine Xi func33 37 [.tmp 2] [13,24] [] AN (AI @aT<|AI @Ay<|AI @As<|AI @Do<|AI @BZ<|@BX) ?_;intro hp h M G H E
 have hwz:=w.sz_eq;unfold szs at hwz
 repeat' (first|exact true|(refine IN.mk ?_;intros)|(refine iTw ?_;refine T2 ?_ ?_<;>((try clear H);intro hb H)<;>try (first|exact hb.elim|(exfalso;omega)))|(refine LF.mk ?_;exact LX)|refine BO.mk ?_ ?_|(apply iPJ;exact NPJ)|apply PXs.of|refine GN ?_|(refine XL [8,9] [] (fun k0 _=>[(10,dI' k0),(3,.d (.sl true .one ((mp A8.A5 w.A2 k0).map dS)))]) (fun _ _=>[]) (w.A2.length) (fun k0 _=>fs (bad (dpI w)) 0 w.A2=fs (bad (dpI w)) k0 (w.A2.drop k0)) rU ?_;intro k0 hk0 s0 hi0;have hml:=Bh A8.A5 hk0;have hmz:=ZE A8.A5 w.A2;by_cases hkk:k0<w.A2.length;rotate_left;have hme:mp A8.A5 w.A2 k0=nmL A8.A5 w.A2:=Bb (by omega);(have hfe:IJ DS w=(decide (w.A2.length≤5) && dst (nmL A8.A5 w.A2)):=by rw[OJ,hi0,As _ _ (by omega)];rfl);(have h5:5<w.A2.length→IJ DS w=false:=fun h=>by rw[hfe,decide_eq_false (by omega)];rfl);(have h6:w.A2.length≤5→IJ DS w=dst (nmL A8.A5 w.A2):=fun h=>by rw[hfe,decide_eq_true h];rfl);clear hfe;clear hi0;replace H:=AI hme (AI hmz H);rotate_left;have hpz:=Ae A8.sz (gm hkk);have hpq:=(w.A2[k0]).sz_eq;unfold szs at hpq;have hdj:=OJ w)|(exfalso;omega)|fail)
theorem fg (w:A1) (v:List Nat) (hp:w.sz≤134217728):∀(n:Nat) (x:AG),szX x<n→∀h:HP,CS cx.P 86 [.d (.st [w.dd false,.sl false .one (v.map dN)]),.d ((x).dd false)] h (dI' (ckE w v x)) h:=by
 intro n
 induction n with
 |zero=>intro x hx;omega
 |succ n ih=>
 intro x hx h
 have g1:=@Q6 x;have g2:=@Q7 x
 have ii:∀(e:AG),Ct cx 86 [.d (.st [Au w,.sl false .one (v.map dN)]),.d (IM e)] (szX e<n) (.d (.lf (.int .i64 (ckE w v e)))):=fun e=>⟨fk1 func86,fun hp h=>by have q:=ih e hp h;first|exact q|simpa using q⟩
 refine Xe func86 rfl 47 [.tmp 4] ?_
 let M:List Nat:=[24,38]
 let G:List Nat:=[]
 have H:=AN
 repeat' (first|refine GO ?_|(refine Two.mk ?_ ?_<;>intro hb<;>(try simp at hb)<;>(try norm_cast at hb)<;>try replace H:=HN hb H)|(refine RG.mk ?_;(try clear hK hD);first|intro _ K hD hK|intro K hD hK)|(refine RF.mk ?_;intro hr)|(refine LF.mk ?_;(try clear hK hD);first|rfl|(simp[CH,amF,BP,Az,or0, *];done)|(simp_all [CH,amF,BP,Az,or0];done)|grind [CH,amF,BP,Az,or0]))
 refine W.loopR [2,3,19,20] [2,3] (fun k0 _=>[(21,dI' k0)]) (fun _ _=>[]) (x.AB.length) (fun k0 _=>ckE w v x=or0 (fc (ckE w v) (x.AB.drop k0)) (fc (amF w v) x.Af)) (fun S=>()) rfl (by simp) (by first|trivial|rfl|(simp;done)|(simp[CH,amF,BP,Az,or0];done)|(simp_all [CH,amF,BP,Az,or0];done)) ?_
 intro k0 hk0 s0 hi0 T hT;simp at hT;subst hT
 repeat' (first|refine GO ?_|(refine Two.mk ?_ ?_<;>intro hb<;>(try simp at hb)<;>(try norm_cast at hb)<;>try replace H:=HN hb H)|(refine RG.mk ?_;(try clear hK hD);first|intro _ K hD hK|intro K hD hK)|(refine RF.mk ?_;intro hr)|(refine LF.mk ?_;(try clear hK hD);first|rfl|(simp[CH,amF,BP,Az,or0, *];done)|(simp_all [CH,amF,BP,Az,or0];done)|grind [CH,amF,BP,Az,or0]))
 have hx1:ckE w v x=fc (amF w v) x.Af:=by rw[hi0,Az (by omega),EA]
 clear hi0
 refine W.loopR [2,33,34] [2] (fun k1 _=>[(35,dI' k1)]) (fun _ _=>[]) (x.Af.length) (fun k1 _=>ckE w v x=fc (amF w v) (x.Af.drop k1)) (fun S=>()) rfl (by simp) (by simpa using hx1) ?_
 intro k1 hk1 s1 hi1 T hT;simp at hT;subst hT
 repeat' (first|refine GO ?_|(refine Two.mk ?_ ?_<;>intro hb<;>(try simp at hb)<;>(try norm_cast at hb)<;>try replace H:=HN hb H)|(refine RG.mk ?_;(try clear hK hD);first|intro _ K hD hK|intro K hD hK)|(refine RF.mk ?_;intro hr)|(refine LF.mk ?_;(try clear hK hD);first|rfl|(simp[CH,amF,BP,Az,or0, *];done)|(simp_all [CH,amF,BP,Az,or0];done)|grind [CH,amF,BP,Az,or0]))
theorem ff (w:A1) (v:List Nat) (x:AG) (hp:w.sz≤134217728) (h:HP):CS cx.P 86 [.d (.st [w.dd false,.sl false .one (v.map dN)]),.d ((x).dd false)] h (dI' (ckE w v x)) h:=fg w v hp _ x (Nat.lt_succ_self _) h
instance oa (w:A1) (v:List Nat) (e:AG):Ct cx 86 [.d (.st [Au w,.sl false .one (v.map dN)]),.d (IM e)] (w.sz≤134217728) (dI' (ckE w v e)):=⟨fk1 func86,fun hp h=>by have q:=ff w v e hp h;first|exact q|simpa using q⟩
instance tc1 (w:A1) (v:List Nat) (g:AC):Ct cx 81 [.el (.st [Au w,.sl false .one (v.map dN)]),.el (KR g)] (w.sz≤134217728) (dI' (fc (ckT w v) g.Am)):=by
 refine Xi func81 7 [.tmp 2] [] [] AN trivial ?_;intro hp h M G H E
 all_goals exact GA0
instance tc2 (w:A1) (v:List Nat) (g:AC):Ct cx 83 [.el (.st [Au w,.sl false .one (v.map dN)]),.el (KR g)] (w.sz≤134217728) (dI' (ckT w v g.B9)):=by
 refine Xi func83 7 [.tmp 2] [] [] AN trivial ?_;intro hp h M G H E
 all_goals exact GA0
instance tc3 (w:A1) (v:List Nat) (g:AC):Ct cx 85 [.el (KR g),.el (.st [Au w,.sl false .one (v.map dN)])] (w.sz≤134217728) (dI' (if g.BS then ckE w v g.Ab else 0)):=by
 refine Xi func85 10 [.tmp 2] [] [] AN trivial ?_;intro hp h M G H E
 all_goals exact GA0
instance iTrC (w:A1) (v:List Nat) (t:AU):Ct cx 36 [.d (.st [Au w,.sl false .one (v.map dN)]),.d (KQ t)] (w.sz≤134217728) (dI' (FC w v t)):=by
 refine Xi func36 46 [.tmp 4] [36] [] AN (AI @K5<|AI @suF.eq_1<|AI @sgF.eq_1<|AI @BP<|AI @Az<|@or0.eq_1) ?_;intro hp h M G H E
 repeat' (first|(refine W.fzR (id:=1) 2 2 [3] [3] ?_)|(refine W.fzR (id:=1) 3 3 [2] [] ?_)|(refine W.fzR (id:=13) 10 10 [2,31,32,33] [] ?_)|refine GF ?_|(refine IN.mk ?_;intros)|(refine iTw ?_;refine T2 ?_ ?_<;>((try clear H);intro hb H)<;>try exact hb.elim)|(refine LF.mk ?_;exact LX)|refine GN ?_|(refine XC [2,3,13,14] [2,3] 15 (t.Aq.length) (fun k0=>fc (suF w v) t.Aq=fc (suF w v) (t.Aq.drop k0)) ?_;intro k0 hk0 hi0)|(refine XC [2,31,32] [2] 33 (t.AW.length) (fun k1=>FC w v t=fc (sgF w v) (t.AW.drop k1)) ?_;intro k1 hk1 hi1)|fail)
instance iDaC (w:A1) (v:List Nat) (d:AF):Ct cx 37 [.d (.st [Au w,.sl false .one (v.map dN)]),.d (SL d)] (w.sz≤134217728) (dI' (Fo w v d)):=by
 refine Xi func37 23 [.tmp 4] [14] [] AN (AI @Fo.eq_1<|AI @BP<|@Az) ?_;intro hp h M G H E
 repeat' (first|(refine IN.mk ?_;intros)|(refine iTw ?_;refine T2 ?_ ?_<;>((try clear H);intro hb H)<;>try exact hb.elim)|(refine LF.mk ?_;exact LX)|refine GN ?_|(refine XC [2,9,10] [2] 11 (d.A4.length) (fun k0=>Fo w v d=fc (fun c:AA=>fc (ckT w v) c.Av) (d.A4.drop k0)) ?_;intro k0 hk0 hi0)|fail)
instance ic1 (w:A1) (v:List Nat) (x:AJ):Ct cx 87 [.el (.st [Au w,.sl false .one (v.map dN)]),.el (E6 x)] (w.sz≤134217728) (dI' (ckT w v x.At)):=by
 refine Xi func87 7 [.tmp 2] [] [] AN trivial ?_;intro hp h M G H E
 all_goals exact GA0
instance ic2 (w:A1) (v:List Nat) (x:AJ):Ct cx 88 [.el (.st [Au w,.sl false .one (v.map dN)]),.el (E6 x)] (w.sz≤134217728) (dI' (fc (ckB w v) x.Ah)):=by
 refine Xi func88 7 [.tmp 2] [] [] AN trivial ?_;intro hp h M G H E
 all_goals exact GA0
theorem ic3 (w:A1) (v:List Nat) (x:AJ) (t:AU) (hp:w.sz≤134217728) (h:HP):CS cx.P 90 [.el (x.dd false),.el (t.dd false),.el (.st [w.dd false,.sl false .one (v.map dN)])] h (dI' (if x.BT=t.B4 then (if x.BT then ckT w v x.B4 else 0) else 4)) h:=by
 refine Xe func90 rfl 15 [.tmp 3] ?_
 let M:List Nat:=[]
 let G:List Nat:=[]
 have H:=AN
 all_goals exact GA4
theorem ic4  (x:AJ) (t:AU) (hp:t.sz≤134217728) (h:HP):CS cx.P 91 [.el (t.dd false),.el (x.dd false)] h (dI' (if Cy t x then 0 else 6)) h:=by
 refine Xe func91 rfl 6 [.tmp 2] ?_
 let M:List Nat:=[]
 let G:List Nat:=[]
 have H:=AN
 all_goals exact GA4
instance ic5 (w:A1) (v:List Nat) (x:AJ):Ct cx 93 [.el (E6 x),.el (.st [Au w,.sl false .one (v.map dN)])] (w.sz≤134217728) (dI' (fc (meF w v) x.Ar)):=by
 refine Xi func93 21 [.tmp 2] [12] [] AN (AI @meF.eq_1<|AI @BP<|@Az) ?_;intro hp h M G H E
 repeat' (first|(refine IN.mk ?_;intros)|(refine iTw ?_;refine T2 ?_ ?_<;>((try clear H);intro hb H)<;>try exact hb.elim)|(refine LF.mk ?_;exact LX)|refine GN ?_|(refine XC [1,7,8] [] 9 (x.Ar.length) (fun k0=>fc (meF w v) x.Ar=fc (meF w v) (x.Ar.drop k0)) ?_;intro k0 hk0 hi0)|fail)
instance ic3_i (w:A1) (v:List Nat) (x:AJ) (t:AU) (b:Bool):Ct cx 90 [.el (E6 x),.el (.st [.lf (.string (t.A5)),.sl false .one ((t.Aq).map (dS)),.lf (.bool b),.lf (.bool (t.B4)),.sl false CL ((t.AW).map (AC.dd false))]),.el (.st [Au w,.sl false .one (v.map dN)])] (w.sz≤134217728) (dI' (if x.BT=t.B4 then (if x.BT then ckT w v x.B4 else 0) else 4)):=⟨fk1 func90,fun hp h=>by have q:=ic3 w v x { t with CP:=b } hp h;first|exact q|simpa using q⟩
instance ic4_i (x:AJ) (t:AU) (b:Bool):Ct cx 91 [.el (.st [.lf (.string (t.A5)),.sl false .one ((t.Aq).map (dS)),.lf (.bool b),.lf (.bool (t.B4)),.sl false CL ((t.AW).map (AC.dd false))]),.el (E6 x)] (t.sz≤134217728) (dI' (if Cy t x then 0 else 6)):=⟨fk1 func91,fun hp h=>by have q:=ic4 x { t with CP:=b } hp h;rw[show Cy { t with CP:=b } x=Cy t x from rfl] at q;simpa using q⟩
instance iInC (w:A1) (v:List Nat) (x:AJ):Ct cx 38 [.d (.st [Au w,.sl false .one (v.map dN)]),.d (E6 x)] (w.sz≤134217728) (dI' (I2 w v x)):=by
 refine Xi func38 25 [.tmp 4] [] [] AN (AI @Ev<|@or0.eq_1) ?_;intro hp h M G H E
 have htz:=EV w x.AK
 repeat' (first|(refine W.fzR (id:=1) 2 2 [3] [3] ?_)|(refine W.fzR (id:=1) 3 3 [2] [] ?_)|(refine W.fzR (id:=6) 5 5 [2,3] [] ?_)|refine GF ?_|(refine IN.mk ?_;intros)|(refine iTw ?_;refine T2 ?_ ?_<;>((try clear H);intro hb H)<;>try exact hb.elim)|(refine LF.mk ?_;exact LX)|refine GN ?_)
theorem WK {α β:Type} (f:β→Int) (g:α→β):∀l:List α,fc f (l.map g)=fc (fun x=>f (g x)) l
  |[]=>rfl
  |x::l=>by simp only[List.map_cons,fc,WK f g l]
theorem ky (w:A1) (v:List Nat) (l:List AX):fc (ckT w v) (ptL l)=fc (paF w v) l:=WK _ _ l
instance iPTy (l:List AX):Ct cx 96 [.d (.sl false CZ ((l).map (AX.dd false)))] (l.length≤134217728) (.d (.sl true Ai (((ptL l)).map (A0.dd false)))):=by
 refine Xi func96 20 [.tmp 2] [12,13,15,19] [] AN trivial ?_;intro hp h M G H E
 repeat' (first|(refine IN.mk ?_;intros)|(refine iTw ?_;refine T2 ?_ ?_<;>((try clear H);intro hb H)<;>try exact hb.elim)|(refine LF.mk ?_;exact LX)|refine GN ?_|(refine XL [7,8] [] (fun k0 _=>[(9,dI' k0),(3,.d (.sl true Ai (((mp AX.AM l k0)).map (A0.dd false))))]) (fun _ _=>[]) (l.length) (fun _ _=>True) rU ?_;intro k0 hk0 s0 hi0;have hml:=Bh AX.AM hk0;have hme:l.length≤k0→mp AX.AM l k0=ptL l:=Z6)|fail)
instance fc1 (w:A1) (v:List Nat) (f:AL):Ct cx 94 [.el (.st [Au w,.sl false .one (v.map dN)]),.el (N4 f)] (w.sz≤134217728) (dI' (fc (ckB w v) f.Ah)):=by
 refine Xi func94 7 [.tmp 2] [] [] AN trivial ?_;intro hp h M G H E
 all_goals exact GA0
instance fc2 (w:A1) (v:List Nat) (f:AL):Ct cx 95 [.el (.st [Au w,.sl false .one (v.map dN)]),.el (N4 f)] (w.sz≤134217728∧f.Am.length≤134217728) (dI' (fc (paF w v) f.Am)):=by
 have j1:=@iPTy
 refine Xi func95 8 [.tmp 2] [] [] AN (@ky) ?_;intro hp h M G H E
 all_goals exact GA0
instance fc3 (w:A1) (v:List Nat) (f:AL):Ct cx 97 [.el (.st [Au w,.sl false .one (v.map dN)]),.el (N4 f)] (w.sz≤134217728) (dI' (ckT w v f.B9)):=by
 refine Xi func97 7 [.tmp 2] [] [] AN trivial ?_;intro hp h M G H E
 all_goals exact GA0
instance fc4 (w:A1) (v:List Nat) (f:AL):Ct cx 98 [.el (.st [Au w,.sl false .one (v.map dN)]),.el (N4 f)] (w.sz≤134217728) (dI' (ckE w v f.Ab)):=by
 refine Xi func98 7 [.tmp 2] [] [] AN trivial ?_;intro hp h M G H E
 all_goals exact GA0
instance iFnC (w:A1) (v:List Nat) (f:AL):Ct cx 39 [.d (.st [Au w,.sl false .one (v.map dN)]),.d (N4 f)] (w.sz≤134217728∧f.Am.length≤134217728) (dI' (TT w v f)):=by
 refine Xi func39 11 [.tmp 4] [] [] AN (AI @MR<|@or0.eq_1) ?_;intro hp h M G H E
 repeat' (first|(refine W.fzR (id:=1) 2 2 [3] [3] ?_)|(refine W.fzR (id:=1) 3 3 [2] [] ?_)|refine GF ?_|(refine IN.mk ?_;intros)|(refine iTw ?_;refine T2 ?_ ?_<;>((try clear H);intro hb H)<;>try exact hb.elim)|(refine LF.mk ?_;exact LX)|refine GN ?_)
attribute [simp] cG cE cC cA Il Js MG feT feD feI feF kTr kDa kIn kFn
theorem C6 (w:A1):feE w=if IJ DS w then feK w w.A2.length++(if uq w.A2 then [] else [Ci]) else [Ci]:=by unfold feE;rw[aY]
theorem kX (w:A1) (hp:w.sz≤134217728) (h:HP):CS cx.P 16 [.d ((w).dd false)] h (.d (.sl true E8 (((feE w)).map (AO.dd true)))) h:=by
 refine Xe func16 rfl 103 [.tmp 2] ?_
 let M:List Nat:=[29,40,55,70,85,98,102]
 let G:List Nat:=[]
 have H:=AN
 have hwz:=w.sz_eq;unfold szs at hwz
 repeat' (first|(refine W.fzR (id:=8) 4 4 [1,3,5,6,23,24,25] [1,3,5,6] ?_)|refine GO ?_|(refine Two.mk ?_ ?_<;>intro hb<;>(try simp at hb)<;>(try norm_cast at hb)<;>try replace H:=HN hb H)|(refine RG.mk ?_;(try clear hK hD);first|intro _ K hD hK|intro K hD hK)|(refine RF.mk ?_;intro hr)|(refine LF.mk ?_;(try clear hK hD);first|rfl|(simp[C6,Ci, *];done)|(simp_all [C6,Ci];done)|grind [C6,Ci]))
 refine W.loopR [1,3,23,24] [1] (fun k0 _=>[(25,dI' k0)]) (fun k0 _=>[(3,.d (.sl true E8 (((feK w k0)).map (AO.dd true))))]) (w.A2.length) (fun _ _=>True) (fun S=>()) rfl (by simp[Js]) (by first|trivial|rfl|(simp;done)|(simp[C6,Ci];done)|(simp_all [C6,Ci];done)) ?_
 intro k0 hk0 s0 hi0 T hT;simp at hT;subst hT
 have hfl:=PL w hk0
 have hfe:w.A2.length≤k0→feK w k0=feK w w.A2.length:=fun h=>by rw[show k0=w.A2.length by omega]
 repeat' (first|(refine W.fzR (id:=8) 4 4 [1,3,5,6,23,24,25] [1,3,5,6] ?_)|refine GO ?_|(refine Two.mk ?_ ?_<;>intro hb<;>(try simp at hb)<;>(try norm_cast at hb)<;>try replace H:=HN hb H)|(refine RG.mk ?_;(try clear hK hD);first|intro _ K hD hK|intro K hD hK)|(refine RF.mk ?_;intro hr)|(refine LF.mk ?_;(try clear hK hD);first|rfl|(simp[C6,Ci, *];done)|(simp_all [C6,Ci];done)|grind [C6,Ci]))
 have hpz:=Ae A8.sz (gm (l:=w.A2) (i:=k0) (by assumption));have hpq:=(w.A2[k0]).sz_eq;unfold szs at hpq
 refine W.loopR [1,3,5,6,7,23,24,25,35,36] [1,4,5,6] (fun k1 _=>[(37,dI' k1)]) (fun k1 _=>[(3,.d (.sl true E8 (((feK w k0++r0 w k0 w.A2[k0] k1)).map (AO.dd true))))]) (w.A2[k0].Aj.length) (fun _ _=>True) (fun S=>()) rfl (by simp[Il]) (by first|trivial|rfl|(simp;done)|(simp[C6,Ci];done)|(simp_all [C6,Ci];done)) ?_
 intro k1 hk1 s1 hi1 T hT;simp at hT;subst hT
 have hg0:=cH w k0 w.A2[k0] k1
 repeat' (first|(refine bO G func35 (M8 (FC w (vis w k0) w.A2[k0].Aj[k1]) k0 kTr w.A2[k0].Aj[k1].A5 (feK w k0++r0 w k0 w.A2[k0] k1) (by simp only[List.length_append];omega) 0 3 _ (by simp)) ?_)|(refine W.fzR (id:=8) 4 4 [1,3,5,6,23,24,25] [1,3,5,6] ?_)|refine GO ?_|(refine Two.mk ?_ ?_<;>intro hb<;>(try simp at hb)<;>(try norm_cast at hb)<;>try replace H:=HN hb H)|(refine RG.mk ?_;(try clear hK hD);first|intro _ K hD hK|intro K hD hK)|(refine RF.mk ?_;intro hr)|(refine LF.mk ?_;(try clear hK hD);first|rfl|(simp[C6,Ci, *];done)|(simp_all [C6,Ci];done)|grind [C6,Ci]))
 have he0:=V7 (w:=w) (i:=k0) (p:=w.A2[k0]) (k:=k1) (by omega)
 refine W.loopR [1,3,5,6,7,23,24,25,50,51] [1,4,5,6] (fun k2 _=>[(52,dI' k2)]) (fun k2 _=>[(3,.d (.sl true E8 (((feK w k0++r1 w k0 w.A2[k0] k2)).map (AO.dd true))))]) (w.A2[k0].AE.length) (fun _ _=>True) (fun S=>()) rfl (by simp[he0]) (by first|trivial|rfl|(simp;done)|(simp[C6,Ci];done)|(simp_all [C6,Ci];done)) ?_
 intro k2 hk2 s2 hi2 T hT;simp at hT;subst hT
 have hg1:=cF w k0 w.A2[k0] k2
 repeat' (first|(refine bO G func35 (M8 (Fo w (vis w k0) w.A2[k0].AE[k2]) k0 kDa w.A2[k0].AE[k2].A5 (feK w k0++r1 w k0 w.A2[k0] k2) (by simp only[List.length_append];omega) 0 3 _ (by simp)) ?_)|(refine W.fzR (id:=8) 4 4 [1,3,5,6,23,24,25] [1,3,5,6] ?_)|refine GO ?_|(refine Two.mk ?_ ?_<;>intro hb<;>(try simp at hb)<;>(try norm_cast at hb)<;>try replace H:=HN hb H)|(refine RG.mk ?_;(try clear hK hD);first|intro _ K hD hK|intro K hD hK)|(refine RF.mk ?_;intro hr)|(refine LF.mk ?_;(try clear hK hD);first|rfl|(simp[C6,Ci, *];done)|(simp_all [C6,Ci];done)|grind [C6,Ci]))
 have he1:=V6 (w:=w) (i:=k0) (p:=w.A2[k0]) (k:=k2) (by omega)
 refine W.loopR [1,3,5,6,7,23,24,25,65,66] [1,4,5,6] (fun k3 _=>[(67,dI' k3)]) (fun k3 _=>[(3,.d (.sl true E8 (((feK w k0++r2 w k0 w.A2[k0] k3)).map (AO.dd true))))]) (w.A2[k0].AQ.length) (fun _ _=>True) (fun S=>()) rfl (by simp[he1]) (by first|trivial|rfl|(simp;done)|(simp[C6,Ci];done)|(simp_all [C6,Ci];done)) ?_
 intro k3 hk3 s3 hi3 T hT;simp at hT;subst hT
 have hg2:=cD w k0 w.A2[k0] k3
 repeat' (first|(refine bO G func35 (M8 (I2 w (vis w k0) w.A2[k0].AQ[k3]) k0 kIn w.A2[k0].AQ[k3].AK (feK w k0++r2 w k0 w.A2[k0] k3) (by simp only[List.length_append];omega) 0 3 _ (by simp)) ?_)|(refine W.fzR (id:=8) 4 4 [1,3,5,6,23,24,25] [1,3,5,6] ?_)|refine GO ?_|(refine Two.mk ?_ ?_<;>intro hb<;>(try simp at hb)<;>(try norm_cast at hb)<;>try replace H:=HN hb H)|(refine RG.mk ?_;(try clear hK hD);first|intro _ K hD hK|intro K hD hK)|(refine RF.mk ?_;intro hr)|(refine LF.mk ?_;(try clear hK hD);first|rfl|(simp[C6,Ci, *];done)|(simp_all [C6,Ci];done)|grind [C6,Ci]))
 have he2:=V5 (w:=w) (i:=k0) (p:=w.A2[k0]) (k:=k3) (by omega)
 refine W.loopR [1,3,6,7,23,24,25,80,81] [1,4,6] (fun k4 _=>[(82,dI' k4)]) (fun k4 _=>[(3,.d (.sl true E8 (((feK w k0++r3 w k0 w.A2[k0] k4)).map (AO.dd true))))]) (w.A2[k0].Ad.length) (fun _ _=>True) (fun S=>()) rfl (by simp[he2]) (by first|trivial|rfl|(simp;done)|(simp[C6,Ci];done)|(simp_all [C6,Ci];done)) ?_
 intro k4 hk4 s4 hi4 T hT;simp at hT;subst hT
 have hg3:=cB w k0 w.A2[k0] k4
 have hff:∀k (h:k<w.A2[k0].Ad.length),w.sz≤134217728∧w.A2[k0].Ad[k].Am.length≤134217728:=fun k h=>by have h1:=Ae AL.sz (gm h);have h2:=(w.A2[k0].Ad[k]).sz_eq;unfold szs at h2;omega
 replace H:=AI hff H
 have hr3:w.A2[k0].Ad.length≤k4→r3 w k0 w.A2[k0] k4=pkE w k0:=fun h=>by rw[V4 h,Lo]
 repeat' (first|(refine bO G func35 (M8 (TT w (vis w k0) w.A2[k0].Ad[k4]) k0 kFn w.A2[k0].Ad[k4].A5 (feK w k0++r3 w k0 w.A2[k0] k4) (by simp only[List.length_append];omega) 0 3 _ (by simp)) ?_)|(refine W.fzR (id:=8) 4 4 [1,3,5,6,23,24,25] [1,3,5,6] ?_)|refine GO ?_|(refine Two.mk ?_ ?_<;>intro hb<;>(try simp at hb)<;>(try norm_cast at hb)<;>try replace H:=HN hb H)|(refine RG.mk ?_;(try clear hK hD);first|intro _ K hD hK|intro K hD hK)|(refine RF.mk ?_;intro hr)|(refine LF.mk ?_;(try clear hK hD);first|rfl|(simp[C6,Ci, *];done)|(simp_all [C6,Ci];done)|grind [C6,Ci]))
