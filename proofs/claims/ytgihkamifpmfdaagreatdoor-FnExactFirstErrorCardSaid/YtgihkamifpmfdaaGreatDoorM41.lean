/- Part 41. No condition. -/
import Derived.Test.YtgihkamifpmfdaaGreatDoorM39
namespace Go.Proofs.YtgihkamifpmfdaaGreatDoor
open Go.RowKit Tryz
set_option linter.unusedVariables false
set_option maxRecDepth 10000
set_option linter.unusedSimpArgs false
set_option maxHeartbeats 4000000
instance sXe (w:A1) (i:Int) (e:AG):Ct cx 197 [.d (Au w),dI' i,.d (IM e)] (w.sz≤134217728) (dI' (FQ w (vis w i) e)):=by
 refine Xi func197 144 [.tmp 6] [] [] AN (AI @Kb<|AI @aH<|@fnV.eq_1) ?_;intro hp h M G H E
 have hct:=fun s=>@PV w (vis w i) s;have hcc:=fun s=>@PW w (vis w i) s;have ha0:=@Ma e;have ha1:=@MZ e;replace H:=AI hct (AI hcc (AI ha0 (AI ha1 H)))
 have htz:=EV w
 have hsw:∀a b,IntKind.i64.wrap (((siR (trR w a).1 b).1.Am.length:Int)+1)=((siR (trR w a).1 b).1.Am.length:Int)+1:=fun a b=>QD (by have:=EV w a;omega) b;replace H:=AI hsw H
 all_goals exact GA1
theorem HA {α:Type} {f:α→Int} {l:List α} {k:Nat} (h:k<l.length):fc f (l.drop k)=or0 (f l[k]) (fc f (l.drop (k+1))):=BP h
theorem JQ {α:Type} {f:α→Int} {l:List α} {k:Nat} {F:Int} (h:k<l.length):or0 (fc f (l.drop k)) F=or0 (f l[k]) (or0 (fc f (l.drop (k+1))) F):=by rw[HA h,JR]
theorem Qj (a b:Int):or0 a b=0↔a=0∧b=0:=by
  unfold or0
  by_cases h:a=0<;>simp[h]
theorem eW (w:A1) (i:Int) (hp:w.sz≤134217728):∀(n:Nat) (x:AG),szX x<n→∀h:HP,CS cx.P 129 [.d ((w).dd false),dI' i,.d ((x).dd false)] h (dI' (ckE w (vis w i) x)) h:=by
 intro n
 induction n with
 |zero=>intro x hx;omega
 |succ n ih=>
 intro x hx h
 have g1:=@Q6 x;have g2:=@Q7 x
 have ii:∀(e:AG),Ct cx 129 [.d (Au w),.d (.lf (.int .i64 (i))),.d (IM e)] (szX e<n) (.d (.lf (.int .i64 (ckE w (vis w i) e)))):=fun e=>⟨fk1 func129,fun hp h=>by have q:=ih e hp h;first|exact q|simpa using q⟩
 refine Xe func129 rfl 54 [.tmp 6] ?_
 let M:List Nat:=[]
 let G:List Nat:=[]
 have H:=AN
 repeat' (first|refine GO ?_|(refine Two.mk ?_ ?_<;>intro hb<;>(try simp at hb)<;>(try norm_cast at hb)<;>try replace H:=HN hb H)|(refine RG.mk ?_;(try clear hK hD);first|intro _ K hD hK|intro K hD hK)|(refine RF.mk ?_;intro hr)|(refine LF.mk ?_;(try clear hK hD);first|rfl|(simp[CH,amF,BP,Az,or0,JR, *];done)|(simp_all [CH,amF,BP,Az,or0,JR];done)|grind [CH,amF,BP,Az,or0,JR]))
 refine W.loopR [1,3,5] [3,5] (fun k0 s0=>[(8,dI' k0),(7,dI' s0)]) (fun _ _=>[]) (x.AB.length) (fun k0 s0=>ckE w (vis w i) x=or0 s0 (or0 (fc (ckE w (vis w i)) (x.AB.drop k0)) (fc (amF w (vis w i)) x.Af))) (fun S=>avI (S.tm 7)) rfl (by simp) (by simpa using CH w (vis w i) x) ?_
 intro k0 hk0 s0 hi0 T hT;simp at hT;subst hT
 repeat' (first|refine GO ?_|(refine Two.mk ?_ ?_<;>intro hb<;>(try simp at hb)<;>(try norm_cast at hb)<;>try replace H:=HN hb H)|(refine RG.mk ?_;(try clear hK hD);first|intro _ K hD hK|intro K hD hK)|(refine RF.mk ?_;intro hr)|(refine LF.mk ?_;(try clear hK hD);first|rfl|(simp[JQ,EA,FE,D1,Az, *];done)|(simp_all [JQ,EA,FE,D1,Az];done)|grind [JQ,EA,FE,D1,Az]))
 have hx1:ckE w (vis w i) x=or0 s0 (fc (amF w (vis w i)) x.Af):=by first|(rw[hi0,Az (by omega),EA];done)|(rw[hi0,D1 (by assumption),D1 (by assumption)])
 clear hi0
 refine W.loopR [1,3,5] [3,5] (fun k1 s1=>[(9,dI' k1),(7,dI' s1)]) (fun _ _=>[]) (x.Af.length) (fun k1 s1=>ckE w (vis w i) x=or0 s1 (fc (amF w (vis w i)) (x.Af.drop k1))) (fun S=>avI (S.tm 7)) rfl (by simp) (by simpa using hx1) ?_
 intro k1 hk1 s1 hi1 T hT;simp at hT;subst hT
 repeat' (first|refine GO ?_|(refine Two.mk ?_ ?_<;>intro hb<;>(try simp at hb)<;>(try norm_cast at hb)<;>try replace H:=HN hb H)|(refine RG.mk ?_;(try clear hK hD);first|intro _ K hD hK|intro K hD hK)|(refine RF.mk ?_;intro hr)|(refine LF.mk ?_;(try clear hK hD);first|rfl|(simp[HA,EA,FE,D1,Az,amF, *];done)|(simp_all [HA,EA,FE,D1,Az,amF];done)|grind [HA,EA,FE,D1,Az,amF]))
 have hx1:ckE w (vis w i) x=or0 s0 (fc (amF w (vis w i)) x.Af):=by first|(rw[hi0,Az (by omega),EA];done)|(rw[hi0,D1 (by assumption),D1 (by assumption)])
 clear hi0
 refine W.loopR [1,3,5] [3,5] (fun k1 s1=>[(9,dI' k1),(7,dI' s1)]) (fun _ _=>[]) (x.Af.length) (fun k1 s1=>ckE w (vis w i) x=or0 s1 (fc (amF w (vis w i)) (x.Af.drop k1))) (fun S=>avI (S.tm 7)) rfl (by simp) (by simpa using hx1) ?_
 intro k1 hk1 s1 hi1 T hT;simp at hT;subst hT
 repeat' (first|refine GO ?_|(refine Two.mk ?_ ?_<;>intro hb<;>(try simp at hb)<;>(try norm_cast at hb)<;>try replace H:=HN hb H)|(refine RG.mk ?_;(try clear hK hD);first|intro _ K hD hK|intro K hD hK)|(refine RF.mk ?_;intro hr)|(refine LF.mk ?_;(try clear hK hD);first|rfl|(simp[HA,EA,FE,D1,Az,amF, *];done)|(simp_all [HA,EA,FE,D1,Az,amF];done)|grind [HA,EA,FE,D1,Az,amF]))
theorem eV (w:A1) (i:Int) (x:AG) (hp:w.sz≤134217728) (h:HP):CS cx.P 129 [.d ((w).dd false),dI' i,.d ((x).dd false)] h (dI' (ckE w (vis w i) x)) h:=eW w i hp _ x (Nat.lt_succ_self _) h
instance nk (w:A1) (i:Int) (e:AG):Ct cx 129 [.d (Au w),dI' i,.d (IM e)] (w.sz≤134217728) (dI' (ckE w (vis w i) e)):=⟨fk1 func129,fun hp h=>by have q:=eV w i e hp h;first|exact q|simpa using q⟩
theorem ZW (l:List BA') (s:BA') (hm:l.length≤4294967296) (h:HP):CS cx.P 147 [.d (.sl false .one (l.map dS)),dS' s] h (dI' (Jh l s)) h:=by
 refine Ze func147 rfl 8 ?_
 refine Zw ?_
 apply Zr;intros
 iterate 2 (refine Zo ?_;simp)
 refine Zl [] rfl func165 (S9 l s hm _) ?_;simp
 refine Zo ?_;simp
 exact Zx
 refine W.ret (Zq ?_)
 simp[f147]
def NSz (l:List BA'):Prop:=(∀s∈l,s.size≤134217728)∧l.length≤134217728
theorem NSz.of {l:List BA'} (h:szL ByteArray.size l≤134217728) (k:l.length≤134217728):NSz l:=⟨fun s hs=>by have:=Ae ByteArray.size hs;omega,k⟩
theorem NSz.mp {α:Type} (f:α→BA') {l:List α} (h:∀y∈l,(f y).size≤134217728) (k:l.length≤134217728) (j:Nat):NSz (Go.Proofs.YtgihkamifpmfdaaGreatDoor.mp f l j):=by
  unfold Go.Proofs.YtgihkamifpmfdaaGreatDoor.mp
  refine⟨fun s hs=> ?_,by simp;omega⟩
  obtain⟨y,hy,rfl⟩:=List.mem_map.1 hs
  exact h y (List.mem_of_mem_take hy)
theorem dR (t:A0) (h:t.sz≤134217728):(tv t).length≤4294967296:=by have h1:=Ga t [];have h2:=DG t;unfold tv;simp at h1;omega
def G5 {α:Type} (p:α→Bool) (l:List α) (k:Nat):Bool:=(l.take k).all p
theorem Ta {α:Type} (p:α→Bool) (l:List α):G5 p l 0=true:=rfl
theorem bM {α:Type} {p:α→Bool} {l:List α} {k:Nat} (h:k<l.length):G5 p l (k+1)=(G5 p l k && p l[k]):=by unfold G5;rw[Y' h,List.all_append];simp
theorem Fq {α:Type} {p:α→Bool} {l:List α} {k:Nat} (h:l.length≤k):G5 p l k=l.all p:=by unfold G5;rw[List.take_of_length_le h]
theorem sg5 {a b:Nat} {n d y:Bool} (h:b≤4):(decide (a=b+1) && (n && d && y))=(decide (a≤5) && n && d && decide (a=b+1) && y):=by
  by_cases e:a=b+1
  · have:a≤5:=by omega
    rw[decide_eq_true e,decide_eq_true this];simp
  · rw[decide_eq_false e];simp
theorem ZD {l:List AC} (h:(l.any fun g=> !FD g)=false):nms (l.map AC.A5)=true:=by
  unfold nms
  rw[List.any_map,Bool.not_eq_true',List.any_eq_false]
  intro g hg
  have h1:=List.any_eq_false.1 h g hg
  have h2:FD g=true:=by simpa using h1
  unfold FD at h2
  simp only[Bool.and_eq_true] at h2
  simp[h2.1.1.1.1]
theorem instOk_sub (x:AJ):instOk x=(inst1 x && sub x.Aa (tv x.At) && inst2 x && !(x.Ar.any F6) && CV (x.Ar.map AY.A5) 6):=by unfold instOk;rw[YX]
theorem inst1_k (x:AJ):inst1 x=(BV x.AK && CV x.Aa 3 && Bl x.At x.Aa && !Bq x.At && (decide (x.At.AH=2)||decide (x.At.AH=1)) && KO x.Ah x.Aa):=by
  unfold inst1
  cases h1:Bl x.At x.Aa with
  |false=>simp
  |true=>
    cases h2:Bq x.At with
    |true=>simp
    |false=>rw[fj h1 h2]
attribute [simp] Ta bM
instance iV (l:List BA'):Ct cx 146 [.d (.sl false .one ((l).map (dS)))] (NSz l) (dB' (dst l && nms l)):=⟨fk1 func146,fun hp h=>by have q:=GH l hp.1 hp.2 h;first|exact q|simpa using q⟩
instance lw (l:List BA'):Ct cx 77 [.d (.sl false .one ((l).map (dS)))] (l.length≤134217728) (dB' (dst l)):=⟨fk1 func77,fun hp h=>by have q:=M7 l hp h;first|exact q|simpa using q⟩
instance pG (l all:List BA'):Ct cx 76 [.d (.sl false .one ((l).map (dS))),.d (.sl false .one ((all).map (dS)))] (l.length≤134217728∧all.length≤4294967296) (dB' (sub l all)):=⟨fk1 func76,fun hp h=>by have q:=EG l all (by omega) (by omega) h;first|exact q|simpa using q⟩
instance p8 (k:Int) (n:BA') (l:List A0):Ct cx 226 [.d (uK k n l)] (A0.sz ⟨k,n,l⟩≤134217728) (dB' (Bq ⟨k,n,l⟩)):=⟨fk1 func226,fun hp h=>by have q:=cO ⟨k,n,l⟩ hp h;first|exact q|simpa using q⟩
instance p7 (k:Int) (n:BA') (l:List A0):Ct cx 227 [.d (uK k n l)] (A0.sz ⟨k,n,l⟩≤134217728) (.d (.sl true .one (((tv ⟨k,n,l⟩)).map (dS)))):=⟨fk1 func227,fun hp h=>by have q:=R7 ⟨k,n,l⟩ hp h;first|exact q|simpa using q⟩
instance ov (k:Int) (n:BA') (l:List A0):Ct cx 229 [.d (uK k n l)] (True) (dB' (CI ⟨k,n,l⟩)):=⟨fk1 func229,fun hp h=>by have q:=Nq ⟨k,n,l⟩ h;first|exact q|simpa using q⟩
instance ou (e:AG):Ct cx 312 [.d (IM e)] (True) (dB' (Dl e)):=⟨fk1 func312,fun hp h=>by have q:=kP e h;first|exact q|simpa using q⟩
instance pB (k:Int) (n:BA') (l:List A0) (v:List BA'):Ct cx 225 [.d (uK k n l),.d (.sl false .one ((v).map (dS)))] (v.length≤134217728∧A0.sz ⟨k,n,l⟩≤134217728) (dB' (Bl ⟨k,n,l⟩ v)):=⟨fk1 func225,fun hp h=>by have q:=M6 ⟨k,n,l⟩ v hp.1 hp.2 h;first|exact q|simpa using q⟩
instance lu (k:Int) (n:BA') (l:List A0) (s:BA'):Ct cx 225 [.d (uK k n l),.d (.sl false .one [.lf (.string s)])] (A0.sz ⟨k,n,l⟩≤134217728) (dB' (Bl ⟨k,n,l⟩ [s])):=⟨fk1 func225,fun hp h=>by have q:=M6 ⟨k,n,l⟩ [s] (by simp) hp h;first|exact q|simpa using q⟩
instance ls (l:List A0) (v:List BA'):Ct cx 224 [.d (.sl false Ai ((l).map (A0.dd false))),.d (.sl false .one ((v).map (dS)))] (v.length≤134217728∧l.length≤134217728∧∀y∈l,y.sz≤134217728) (dB' (En l v)):=⟨fk1 func224,fun hp h=>by have q:=Nr l v hp.1 hp.2.1 hp.2.2 h;first|exact q|simpa using q⟩
instance ke (l:List A0) (s:BA'):Ct cx 224 [.d (.sl false Ai ((l).map (A0.dd false))),.d (.sl false .one [.lf (.string s)])] (l.length≤134217728∧∀y∈l,y.sz≤134217728) (dB' (En l [s])):=⟨fk1 func224,fun hp h=>by have q:=Nr l [s] (by simp) hp.1 hp.2 h;first|exact q|simpa using q⟩
instance p5 (l:List A9) (v:List BA'):Ct cx 228 [.d (.sl false BC ((l).map (A9.dd false))),.d (.sl false .one ((v).map (dS)))] (v.length≤134217728∧l.length≤134217728∧∀y∈l,y.sz≤134217728) (dB' (KO l v)):=⟨fk1 func228,fun hp h=>by have q:=ZY l v hp.1 hp.2.1 hp.2.2 h;first|exact q|simpa using q⟩
instance kf (v:List BA') (e:AG):Ct cx 230 [.d (.sl false .one ((v).map (dS))),.d (IM e)] (NSz v∧e.sz≤134217728) (dB' (nms v && dst v && body e v)):=⟨fk1 func230,fun hp h=>by have q:=Zw' v hp.1.2 hp.1.1 e hp.2 h;first|exact q|simpa using q⟩
instance pA (l:List AX):Ct cx 231 [.d (.sl false CZ ((l).map (AX.dd false)))] (l.length≤134217728) (.d (.sl true .one (((pNm l)).map (dS)))):=⟨fk1 func231,fun hp h=>by have q:=VG l hp h;first|exact q|simpa using q⟩

instance pD (l:List BA') (s:BA'):Ct cx 147 [.d (.sl false .one ((l).map (dS))),dS' s] (l.length≤134217728) (dI' (Jh l s)):=⟨fk1 func147,fun hp h=>by have q:=ZW l s (by omega) h;first|exact q|simpa using q⟩
instance pC (s:BA'):Ct cx 145 [dS' s] (True) (dB' (BV s)):=by
 refine Xi func145 39 [.tmp 2] [] [] AN (AI @BV.eq_1<|AI @Ka.eq_1<|AI @An.eq_1<|AI @Ap.eq_1<|AI @Bc<|@BM) ?_;intro hp h M G H E
 repeat' (first|exact true|(refine IN.mk ?_;intros)|(refine iTw ?_;refine T2 ?_ ?_<;>((try clear H);intro hb H)<;>try exact hb.elim)|(refine LF.mk ?_;exact LX)|refine BO.mk ?_ ?_|(apply iPJ;exact NPJ)|apply PXs.of|refine GN ?_|(refine XC [0,5] [] 6 (s.size) (fun k0=>Ka s.size (An s)=((List.range s.size).drop k0).all (An s)) ?_;intro k0 hk0 hi0)|fail)
instance giSig (x:AC):Ct cx 223 [.d (KR x)] (x.sz≤134217728) (dB' (FD x)):=by
 refine Xi func223 53 [.tmp 2] [] [] AN (AI @FD.eq_1<|AI @QQ.eq_1<|@CV.eq_1) ?_;intro hp h M G H E
 have hx:=x.sz_eq;unfold szs at hx
 have hsp:∀y∈x.Am,y.sz≤134217728:=fun y hy=>by have:=Ae A0.sz hy;omega
 replace H:=AI hsp H
 have hv:NSz x.Aa:=NSz.of (by omega) (by omega);replace H:=AI hv H
 have hw:=BH (n:=(x.Am.length:Int)+1) (by omega) (by omega);replace H:=AI hw H
 repeat' (first|exact true|(refine LF.mk ?_;rw[sg5 (by omega)];simp[*];done)|(refine IN.mk ?_;intros)|(refine iTw ?_;refine T2 ?_ ?_<;>((try clear H);intro hb H)<;>try exact hb.elim)|(refine LF.mk ?_;exact LX)|refine BO.mk ?_ ?_|(apply iPJ;exact NPJ)|apply PXs.of|refine GN ?_)

